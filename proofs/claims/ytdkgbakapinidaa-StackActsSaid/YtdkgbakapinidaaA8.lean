/-
  The walk of the law StackActs.
-/
import Derived.Test.YtdkgbakapinidaaA7
namespace Go.Proofs.Ytdkgbakapinidaa
open Go.RowKit
set_option linter.unusedVariables false
set_option linter.unusedSimpArgs false
set_option maxRecDepth 100000
theorem sw_any (w wb : World) (g ga : Nat) (v : Value) (S : Nat → Prop) (km : Int) (B : Nat) (Am : Option Addr) (cm : Nat) (l : List Ob) (av kv : Value) (d n j : Int) (Al : Option Addr) (cl : Nat) (al : List Ob) (Ak : Option Addr) (ck : Nat) (ks : List Int) (u : Nat → Value)
    (h : Sw w wb g ga v S km B Am cm l d n j Al cl al Ak ck ks) :
    swCode.wp Try.prog (Exit.then (ActsQ w g km (B + 100) av kv) NoQ) (FR (.int .i64 km) av (.int .i64 12) (.int .i64 13) (.pointer (some ⟨g, 0, none⟩)) (.slice Am l.length cm) kv (.pointer (some ⟨ga, 0, none⟩)) (.int .i64 l.length) (.int .i64 0) (.int .i64 0) (.slice none 0 0) (.slice none 0 0) (.int .i64 d) u) wb := by
  by_cases hd : d < 1 ∨ 9 < d
  · exact sw_none w wb g ga v S km B Am cm l av kv d n j Al cl al Ak ck ks u h hd
  have : d = 1 ∨ d = 2 ∨ d = 3 ∨ d = 4 ∨ d = 5 ∨ d = 6 ∨ d = 7 ∨ d = 8 ∨ d = 9 := by omega
  rcases this with rfl | rfl | rfl | rfl | rfl | rfl | rfl | rfl | rfl
  · exact sw_push w wb g ga v S km B Am cm l av kv n j Al cl al Ak ck ks u h
  · exact sw_pop w wb g ga v S km B Am cm l av kv n j Al cl al Ak ck ks u h
  · exact sw_take w wb g ga v S km B Am cm l av kv n j Al cl al Ak ck ks u h
  · exact sw_top w wb g ga v S km B Am cm l av kv n j Al cl al Ak ck ks u h
  · exact sw_swap w wb g ga v S km B Am cm l av kv n j Al cl al Ak ck ks u h
  · exact sw_roll w wb g ga v S km B Am cm l av kv n j Al cl al Ak ck ks u h
  · exact sw_mark w wb g ga v S km B Am cm l av kv n j Al cl al Ak ck ks u h
  · exact sw_reset w wb g ga v S km B Am cm l av kv n j Al cl al Ak ck ks u h
  · exact sw_need w wb g ga v S km B Am cm l av kv n j Al cl al Ak ck ks u h
theorem wp_FR {s : Code} {K : Act → World → Prop} {Q : Exit → Act → World → Prop} {w : World} (a : Act) (hd : a.defers = []) (hs : a.tmps.size = 364)
    (h : s.wp Try.prog (Exit.then K Q) (FR (a.tmps.getD 0 undef) (a.tmps.getD 1 undef) (a.tmps.getD 5 undef) (a.tmps.getD 6 undef) (a.tmps.getD 7 undef) (a.tmps.getD 8 undef) (a.tmps.getD 9 undef) (a.tmps.getD 10 undef) (a.tmps.getD 11 undef) (a.tmps.getD 12 undef) (a.tmps.getD 13 undef) (a.tmps.getD 14 undef) (a.tmps.getD 15 undef) (a.tmps.getD 67 undef) (fun i => a.tmps.getD i undef)) w) : s.wp Try.prog (Exit.then K Q) a w := by
  rw [← FR.of a hd hs] at h
  exact h
/-- The state at the loop's head. -/
def WI (w : World) (g : Nat) (km : Int) (av : Value) (a : Act) (wr : World) : Prop :=
  ∃ (k : Nat) (v : Value) (S : Nat → Prop) (l : List Ob) (mv x10 x11 x12 x13 x14 x15 x67 : Value) (u : Nat → Value), k ≤ 60 ∧ ActsS w wr g v S km mv l ∧ l.length ≤ 100 * k ∧
    a = FR (.int .i64 km) av (.int .i64 12) (.int .i64 13) (.pointer (some ⟨g, 0, none⟩)) mv (.int .i64 (k : Int)) x10 x11 x12 x13 x14 x15 x67 u
theorem WI.mk {w : World} {g : Nat} {km : Int} {av : Value} {a : Act} {wr : World} {k : Nat} {v : Value} {S : Nat → Prop} {l : List Ob} (hd : a.defers = []) (hs : a.tmps.size = 364) (e0 : a.tmps.getD 0 undef = .int .i64 km) (e1 : a.tmps.getD 1 undef = av) (e5 : a.tmps.getD 5 undef = .int .i64 12) (e6 : a.tmps.getD 6 undef = .int .i64 13)
    (e7 : a.tmps.getD 7 undef = .pointer (some ⟨g, 0, none⟩)) (e9 : a.tmps.getD 9 undef = .int .i64 (k : Int)) (hk : k ≤ 60) (h : ActsS w wr g v S km (a.tmps.getD 8 undef) l) (hl : l.length ≤ 100 * k) : WI w g km av a wr := by
  refine ⟨k, v, S, l, a.tmps.getD 8 undef, a.tmps.getD 10 undef, a.tmps.getD 11 undef, a.tmps.getD 12 undef, a.tmps.getD 13 undef, a.tmps.getD 14 undef, a.tmps.getD 15 undef, a.tmps.getD 67 undef, fun i => a.tmps.getD i undef, hk, h, hl, ?_⟩
  rw [← e0, ← e1, ← e5, ← e6, ← e7, ← e9]
  exact FR.of a hd hs
def Wmu (a : Act) (_ : World) : Nat := 60 - (intOf (a.tmps.getD 9 undef)).toNat
set_option maxHeartbeats 8000000 in
theorem acts_walk (most : Int) (hmo : -9223372036854775808 ≤ most ∧ most ≤ 9223372036854775807) (va : Value) (A : List (Act7 × Value × Value)) (w : World) (hA : ActsIn w va A) :
    Calls Try.prog 4 #[.int .i64 most, va] w fun e w' => e = .returned (.bool true) ∧ Fr Nob w w' := by
  obtain ⟨AA, cA, rfl, hA1, hA2, hAc⟩ := hA.cells
  have HA := Lib.hid hA
  have HAC := Lib.hid hAc
  clear hA hAc
  obtain ⟨km, hk⟩ : ∃ k, (if most < 0 then 0 else most) = k := ⟨_, rfl⟩
  have HK := Lib.hid hk
  have hk0 : 0 ≤ km ∧ km ≤ 9223372036854775807 := by subst hk; split <;> omega
  obtain ⟨hk0, hk1⟩ := hk0
  clear hk
  have HMO := Lib.hid hmo
  clear hmo
  go_enter Try.func4, Try.ntmps4
  go_wp2_with fail
  refine (new_any most 12 13 HMO.out _).mono ?_
  rw [HK.out]
  rintro e w1 ⟨rfl, hs, hf⟩
  have HS1 := Lib.hid hs
  have HF1 := Lib.hid hf
  clear hs hf
  go_wp2_with fail
  refine (answers_any _).mono ?_
  rintro e w2 ⟨rfl, hf2⟩
  have HF2 := Lib.hid hf2
  clear hf2
  go_upto_if 39 with (fail)
  go_cut [0] from 363 (fun q wc => q = .int .i64 km ∧ wc = w2)
  case first =>
    by_cases h0 : most < 0
    · have e0 : km = 0 := by rw [← HK.out, if_pos h0]
      subst e0
      go_wp2_with fail
      go_meet
      exact ⟨rfl, rfl⟩
    · have e0 : km = most := by rw [← HK.out, if_neg h0]
      subst e0
      go_wp2_with fail
      go_meet
      exact ⟨rfl, rfl⟩
  case rest =>
  obtain ⟨rfl, rfl⟩ := hcut
  have HX0 : Hid (ActsS w wc w.heap.size (.slice none 0 0) Nob km (.slice none 0 0) []) := ⟨HS1.out.fr HF2.out fun _ _ hh => hh, Nat.le_refl _, NewV.nil _, HF1.out.trans0 HF2.out, RowIn.nil _ _ _, fun k hk => hk.elim⟩
  clear HS1 HF1 HF2 HMO HK
  generalize w.heap.size = g at *
  go_wp2_with fail
  refine wp_loop (WI w g km (.slice AA A.length cA)) Wmu ?_ (fun a wr hI => ?_)
  · exact WI.mk rfl rfl rfl rfl rfl rfl rfl (k := 0) rfl (by omega) HX0.out (Nat.zero_le _)
  clear HX0
  obtain ⟨k, v, S, l, mv, x10, x11, x12, x13, x14, x15, x67, u, hk60, hS, hl, rfl⟩ := hI
  have hmu : Wmu (FR (.int .i64 km) (.slice AA A.length cA) (.int .i64 12) (.int .i64 13) (.pointer (some ⟨g, 0, none⟩)) mv (.int .i64 (k : Int)) x10 x11 x12 x13 x14 x15 x67 u) wr = 60 - k := by
    show 60 - (intOf (.int .i64 (k : Int))).toNat = 60 - k
    simp [intOf]
  rw [hmu]
  have HS := Lib.hid hS
  have HL := Lib.hid hl
  obtain ⟨wx, hwx⟩ : ∃ wx : World, wx = wr := ⟨_, rfl⟩
  subst hwx
  clear hmu hS hl
  unfold FR
  by_cases hgo : k < A.length ∧ k < 60
  · obtain ⟨hlt, h60⟩ := hgo
    obtain ⟨b, off, hAA, hbl, hr⟩ := HAC.out k hlt
    subst hAA
    have hact := HA.out.2 A[k] (List.getElem_mem hlt)
    have j1 : (k : Int) < A.length := by omega
    have j2 : (k : Int) < 60 := by omega
    generalize A[k] = acv at *
    obtain ⟨⟨d, n, j, al, ks⟩, lv, kv⟩ := acv
    obtain ⟨Al, cl, hlv⟩ := hact.l.slice
    obtain ⟨Ak, ck, hkv⟩ := hact.ks.slice
    dsimp only at hlv hkv
    subst hlv
    subst hkv
    have hal := hact.l.len_le
    have hks := hact.ks.len_le
    dsimp only at hal hks
    have y0 : wx.cell? ⟨b, off + k * 5, none⟩ = some (.int .i64 d) := cell_nob (hr 0 (by omega)) HS.out.f
    have y1 : wx.cell? ⟨b, off + k * 5 + 1, none⟩ = some (.int .i64 n) := cell_nob (hr 1 (by omega)) HS.out.f
    have y2 : wx.cell? ⟨b, off + k * 5 + 2, none⟩ = some (.int .i64 j) := cell_nob (hr 2 (by omega)) HS.out.f
    have y3 : wx.cell? ⟨b, off + k * 5 + 3, none⟩ = some (.slice Al al.length cl) := cell_nob (hr 3 (by omega)) HS.out.f
    have y4 : wx.cell? ⟨b, off + k * 5 + 4, none⟩ = some (.slice Ak ks.length ck) := cell_nob (hr 4 (by omega)) HS.out.f
    have HFB := Lib.hid ((Fr.refl Nob wx).alloc (.cells #[.int .i64 d, .int .i64 n, .int .i64 j, .slice Al al.length cl, .slice Ak ks.length ck] 35))
    have HBX := Lib.hid (Blk.new wx #[.int .i64 d, .int .i64 n, .int .i64 j, .slice Al al.length cl, .slice Ak ks.length ck] 35)
    have HSB := Lib.hid (HS.out.nob HFB.out)
    have HLR := Lib.hid ((hact.l.fr (HS.out.f.trans0 HFB.out) fun _ _ hh => hh).mono (T := fun k => k < w.heap.size) fun _ hh => hh)
    have HKR := Lib.hid ((hact.ks.fr (HS.out.f.trans0 HFB.out) fun _ _ hh => hh).mono (T := fun k => k < w.heap.size) fun _ hh => hh)
    have HJ := Lib.hid hact.j
    clear hr hact
    go_upto_region 12 with (fail)
    generalize wx.alloc (.cells #[.int .i64 d, .int .i64 n, .int .i64 j, .slice Al al.length cl, .slice Ak ks.length ck] 35) = wb at *
    clear y0 y1 y2 y3 y4
    have b0 : wb.cell? ⟨wx.heap.size, 0, none⟩ = some (.int .i64 d) := HBX.out.cell 0
    have b3 : wb.cell? ⟨wx.heap.size, 3, none⟩ = some (.slice Al al.length cl) := HBX.out.cell 3
    have b4 : wb.cell? ⟨wx.heap.size, 4, none⟩ = some (.slice Ak ks.length ck) := HBX.out.cell 4
    by_cases hbig : al.length ≤ 100 ∧ ks.length ≤ 100
    · obtain ⟨hs1, hs2⟩ := hbig
      have s1 : ¬ (100 : Int) < al.length := by omega
      have s2 : ¬ (100 : Int) < ks.length := by omega
      obtain ⟨Am, cm, rfl⟩ := HS.out.m.slice
      go_upto_block 2 with (fail)
      refine wp_only (R := ActsQ w g km (100 * k + 100) (.slice (some ⟨b, off, none⟩) A.length cA) (.int .i64 (k : Int))) ?_ ?_
      · refine wp_FR _ rfl rfl ?_
        exact sw_any w wb g wx.heap.size v S km (100 * k) Am cm l _ _ d n j Al cl al Ak ck ks _ ⟨HSB.out, HL.out, HBX.out, HLR.out, HKR.out, ⟨hk0, hk1⟩, hs1, hs2, by have := HL.out; omega, HJ.out⟩
      intro a' wc hq
      obtain ⟨mv', e', want', got', list', x', y', z', u', hP, rfl⟩ := hq
      obtain ⟨c, v', S', l', gl, T1, T2, rfl, rfl, hS', hl', hg, hli⟩ := hP
      obtain ⟨Am', cm', rfl⟩ := hS'.m.slice
      have HS' := Lib.hid hS'
      have HL' := Lib.hid (show l'.length ≤ 100 * (k + 1) by omega)
      have HG := Lib.hid hg
      have HLI := Lib.hid hli
      have hl60 : l'.length ≤ 6000 := by omega
      clear hS' hl' hg hli b0 b3 b4
      unfold FR
      go_wp2_with fail
      refine (same_any got' list' gl gl T1 T2 wc HG.out HLI.out).mono ?_
      rw [decide_eq_true (rfl : gl = gl)]
      rintro e w3 ⟨rfl, n3, hw3⟩
      have HF3 := Lib.hid (show Fr Nob wc w3 by rw [hw3]; exact (Fr.refl Nob wc).drewN n3)
      have HS3 := Lib.hid (HS'.out.nob HF3.out)
      clear hw3 HG HLI
      go_wp2_with fail
      refine (len_any g v' km 12 13 l' w3 HS3.out.s).mono ?_
      rintro e w4 ⟨rfl, rfl⟩
      go_wp2_with fail
      refine (all_any g v' km 12 13 l' _ HS3.out.s (by omega)).mono ?_
      rintro e w5 ⟨vo, rfl, ho, hf5, hn5⟩
      have HO5 := Lib.hid ho
      have HS5 := Lib.hid (HS3.out.nob hf5)
      clear ho hf5 hn5
      go_wp2_with fail
      refine (same_any vo (.slice Am' l'.length cm') l' l' _ _ w5 HO5.out.row HS5.out.m).mono ?_
      rw [decide_eq_true (rfl : l' = l')]
      rintro e w6 ⟨rfl, n6, hw6⟩
      have HF6 := Lib.hid (show Fr Nob w5 w6 by rw [hw6]; exact (Fr.refl Nob w5).drewN n6)
      have HS6 := Lib.hid (HS5.out.nob HF6.out)
      clear hw6
      go_wp2_with fail
      refine ⟨WI.mk rfl rfl rfl rfl rfl rfl rfl (k := k + 1) (by first | rfl | (show Value.int .i64 ((k : Int) + 1) = _; congr 1)) (by omega) HS6.out HL'.out, ?_⟩
      show 60 - (intOf (.int .i64 ((k : Int) + 1))).toNat < 60 - k
      simp [intOf]; omega
    · have hx : (100 : Int) < al.length ∨ (¬ (100 : Int) < al.length ∧ (100 : Int) < ks.length) := by omega
      rcases hx with s1 | ⟨s1, s2⟩
      all_goals
        go_wp2_with fail
        refine ⟨WI.mk rfl rfl rfl rfl rfl rfl rfl (k := k + 1) (by first | rfl | (show Value.int .i64 ((k : Int) + 1) = _; congr 1)) (by omega) HSB.out (by have := HL.out; show l.length ≤ 100 * (k + 1); omega), ?_⟩
        show 60 - (intOf (.int .i64 ((k : Int) + 1))).toNat < 60 - k
        simp [intOf]; omega
  · have hx : ¬ ((k : Int) < A.length) ∨ ((k : Int) < A.length ∧ ¬ (k : Int) < 60) := by omega
    rcases hx with i1 | ⟨i1, i2⟩
    all_goals
      go_wp2_with fail
      go_ret
      exact ⟨rfl, HS.out.f⟩
end Go.Proofs.Ytdkgbakapinidaa
