/-
  The walks of slices.Grow of nil, slices.Concat of two, of the stack's Roll.
-/
import Derived.Test.YtdkgbakapinidaaS6
import Derived.Lib.AppendZeros
import Derived.Laws.CopyOwn
namespace Go.Proofs.Ytdkgbakapinidaa
open Go.RowKit
set_option linter.unusedVariables false
set_option linter.unusedSimpArgs false

theorem cut_nil (n : Nat) (i : TypeInfo) (hi : Try.prog.info? 37 = some i) (A : Option Addr) (cap : Nat) (w : World) : (Instr.slice 22 (.slice A n cap) none (some (.int .i64 0)) none).run Try.prog w = .ok (.slice A 0 cap) w :=
  run_takeV Try.underlying22 hi A n cap 0 (by omega) w
theorem grow_nil (n : Nat) (hn : n * 72 ≤ 281474976710656) (w : World) :
    Calls Try.prog 26 #[.slice none 0 0, .int .i64 n] w fun e w' => ∃ vo, e = .returned vo ∧ OwnS w' 37 8 vo 0 [] ∧ Fr Nob w w' ∧ NewV w vo := by
  obtain ⟨i0, hi, hz0, hz1, hz2⟩ := info_parts info37
  by_cases h0 : n = 0
  · subst h0
    go_enter Try.func26, Try.ntmps26
    go_wp2
    go_ret
    exact ⟨_, rfl, OwnS.nil _ _ _, Fr.refl _ _, NewV.nil _⟩
  · have hpos : 0 < n := by omega
    have hr := fun w => Lib.run_append_nil_zeros (P := Try.prog) w 22 3 22 37 i0 _ .i64 .i64 Try.underlying22 Try.underlying3 hi hz0 n hpos (by omega) (by omega) (by rw [hz2]; exact hn)
    have HR := Lib.hid hr
    have hcut := fun A cap w => cut_nil n i0 hi A cap w
    clear hr h0
    go_enter Try.func26, Try.ntmps26
    go_wp2_with (at_builtin; refine Lib.wpList_append_run _ rfl _ _ _ _ rfl _ _ rfl rfl _ _ (HR.out _) ?_)
    go_ret
    refine ⟨_, rfl, ⟨rfl, .inr ⟨_, _, _, rfl, Blk.new w.drew _ _, Nat.zero_le _, grownCap_le_maxLen _ _ _ _ (by unfold maxLen; omega), ?_, by simp⟩⟩, ((Fr.refl Nob w).drew).alloc _, NewV.at w _ _⟩
    have hge := grownCap_ge w n 0 37
    simp only [Array.size_append, size_zeroCells]
    show _ ≤ n * 8 + (grownCap w n 0 37 - n) * 8
    omega

set_option maxHeartbeats 800000 in
theorem concat_two (b : Nat) (x y : Value) (la lb : List Ob) (S T : Nat → Prop) (w : World) (hc : Blk w b #[x, y] 22) (hx : RowIn w S 8 x la.length (encs la)) (hy : RowIn w T 8 y lb.length (encs lb))
    (hs : (la.length + lb.length) * 72 ≤ 140737488351232) :
    Calls Try.prog 22 #[.slice (some ⟨b, 0, none⟩) 2 2] w fun e w' => ∃ vo, e = .returned vo ∧ OwnS w' 37 8 vo (la ++ lb).length (encs (la ++ lb)) ∧ Fr Nob w w' ∧ NewV w vo := by
  obtain ⟨i0, hi, hz0, hz1, hz2⟩ := info_parts info37
  have hla := hx.len_le
  have hlb := hy.len_le
  obtain ⟨A, ca, rfl, _, _⟩ : ∃ A c, x = .slice A la.length c ∧ la.length ≤ c ∧ c ≤ maxLen := by obtain ⟨_, A, c, h, h1, h2, _⟩ := hx; exact ⟨A, c, h, h1, h2⟩
  obtain ⟨B, cb, rfl, _, _⟩ : ∃ A c, y = .slice A lb.length c ∧ lb.length ≤ c ∧ c ≤ maxLen := by obtain ⟨_, A, c, h, h1, h2, _⟩ := hy; exact ⟨A, c, h, h1, h2⟩
  have HX := Lib.hid hx
  have HY := Lib.hid hy
  have k0 : w.cell? ⟨b, 0, none⟩ = some (.slice A la.length ca) := hc.cell 0
  have k1 : w.cell? ⟨b, 1, none⟩ = some (.slice B lb.length cb) := hc.cell 1
  have K0 := Lib.hid k0
  have K1 := Lib.hid k1
  clear hx hy hc
  go_enter Try.func22, Try.ntmps22
  go_wp2
  go_loop [3, 11] (fun s q => ∃ i n : Nat, i ≤ 2 ∧ q = .int .i64 i ∧ s = .int .i64 n ∧ n = (if i = 0 then 0 else if i = 1 then la.length else la.length + lb.length)) (fun _ q => 2 - (intOf q).toNat)
  case atStart => exact ⟨0, 0, by omega, rfl, rfl, rfl⟩
  case round =>
    obtain ⟨i, n, hi2, rfl, rfl, hn⟩ := hrel
    have h3 : i = 0 ∨ i = 1 ∨ i = 2 := by omega
    rcases h3 with rfl | rfl | rfl
    · obtain rfl : n = 0 := by simpa using hn
      clear hn
      go_wp2
      go_round
      case rel => exact ⟨1, la.length, by omega, by go_num, by go_num, by simp⟩
      case measure => simp [intOf]
    · obtain rfl : n = la.length := by simpa using hn
      clear hn
      go_wp2
      go_round
      case rel => exact ⟨2, la.length + lb.length, by omega, by go_num, by go_num, by simp⟩
      case measure => simp [intOf]
    · obtain rfl : n = la.length + lb.length := by simpa using hn
      clear hn
      go_wp2_with fail
      refine (grow_nil (la.length + lb.length) (by omega) _).mono ?_
      rintro e w1 ⟨vo, rfl, ho, hf, hv⟩
      have HO := Lib.hid ho
      have HF := Lib.hid hf
      have HV := Lib.hid hv
      clear ho hf hv k0 k1
      go_wp2
      go_loopw [6, 27] (fun s q wr => ∃ (i : Nat) (l : List Ob), i ≤ 2 ∧ q = .int .i64 i ∧ Hid (l = if i = 0 then [] else if i = 1 then la else la ++ lb) ∧ Hid (OwnS wr 37 8 s l.length (encs l)) ∧ Hid (Fr Nob w wr) ∧ Hid (NewV w s)) (fun _ q _ => 2 - (intOf q).toNat)
      case atStart => exact ⟨0, [], by omega, rfl, rfl, HO.out, HF.out, HV.out⟩
      case round =>
        obtain ⟨i, l, hi2, rfl, hl, HO, HF, HV⟩ := hrel
        have h3 : i = 0 ∨ i = 1 ∨ i = 2 := by omega
        rcases h3 with rfl | rfl | rfl
        · obtain rfl : l = [] := hl.out
          have j0 := cell_nob K0.out HF.out
          obtain ⟨A0, c0, rfl, _, _⟩ := HO.out.form
          have HX2 := Lib.hid (HX.out.fr HF.out fun _ _ hf => hf)
          clear hl
          go_wp2_with (at_builtin; refine wpList_app _ rfl _ _ 22 rfl 37 i0 _ 8 72 Try.underlying22 hi hz0 hz1 hz2 rfl (by decide) _ 0 [] rfl HO.out _ _ la.length (encs la) rfl HX2.out ?c1 ?c2 ?c3 ?_)
          case c1 => exact encs_one la
          case c2 => unfold maxLen at *; omega
          case c3 => omega
          intro v' w2 hown hfr hat _
          have hN := app_new HV.out HF.out hfr (by simpa using hat)
          have HO2 := Lib.hid hown
          have HF2 := Lib.hid hN.1
          have HV2 := Lib.hid hN.2
          obtain ⟨A1, c1, rfl, _, _⟩ := hown.form
          clear hown hfr hat hN
          go_wp2
          go_roundw
          case rel => exact ⟨1, la, by omega, by go_num, by show la = _; simp, HO2, HF2, HV2⟩
          case measure => simp [intOf]
        · obtain rfl : l = la := hl.out
          have j1 := cell_nob K1.out HF.out
          obtain ⟨A0, c0, rfl, _, _⟩ := HO.out.form
          have HY2 := Lib.hid (HY.out.fr HF.out fun _ _ hf => hf)
          clear hl
          go_wp2_with (at_builtin; refine wpList_app _ rfl _ _ 22 rfl 37 i0 _ 8 72 Try.underlying22 hi hz0 hz1 hz2 rfl (by decide) _ l.length (encs l) rfl HO.out _ _ lb.length (encs lb) rfl HY2.out ?d1 ?d2 ?d3 ?_)
          case d1 => exact encs_one lb
          case d2 => unfold maxLen at *; omega
          case d3 => omega
          intro v' w2 hown hfr hat _
          have hN := app_new HV.out HF.out hfr (by simpa using hat)
          rw [← encs_append, ← List.length_append] at hown
          have HO2 := Lib.hid hown
          have HF2 := Lib.hid hN.1
          have HV2 := Lib.hid hN.2
          obtain ⟨A1, c1, rfl, _, _⟩ := hown.form
          clear hown hfr hat hN
          go_wp2
          go_roundw
          case rel => exact ⟨2, l ++ lb, by omega, by go_num, by show l ++ lb = _; simp, HO2, HF2, HV2⟩
          case measure => simp [intOf]
        · have HL := hl
          clear hl
          go_wp2
          go_ret
          obtain rfl : l = la ++ lb := HL.out
          exact ⟨_, rfl, HO.out, HF.out, HV.out⟩

/-! Roll -/
/-- The top n, rolled by k. -/
def rollF (l : List Ob) (n k : Nat) : List Ob := l.take (l.length - n) ++ ((l.drop (l.length - n)).drop (n - k) ++ (l.drop (l.length - n)).take (n - k))
/-- Go's (j % n + n) % n. -/
def rollK (n : Nat) (j : Int) : Nat := (j % n).toNat
theorem rollK_lt (n : Nat) (j : Int) (hn : 0 < n) : rollK n j < n := by
  unfold rollK
  have := Int.emod_lt_of_pos j (show (0 : Int) < n by omega)
  have := Int.emod_nonneg j (show (n : Int) ≠ 0 by omega)
  omega
theorem rollK_eq (n : Nat) (j : Int) (hn : 0 < n) : (j.tmod n + n) % n = rollK n j := by
  unfold rollK
  have h1 := Int.tmod_lt_of_pos j (show (0 : Int) < n by omega)
  have h2 := Int.lt_tmod_of_pos j (show (0 : Int) < n by omega)
  rw [Int.toNat_of_nonneg (Int.emod_nonneg _ (by omega)), Int.tmod_eq_emod]
  split <;> simp
theorem roll_none (n j : Int) (w : World) : Calls Try.prog 9 #[.pointer none, .int .i64 n, .int .i64 j] w fun e w' => e = .returned (.int .i64 21) ∧ w = w' := by
  go_enter Try.func9, Try.ntmps9
  go_wp2_with fail
  refine (check_none _ _).mono ?_
  rintro e w1 ⟨rfl, rfl⟩
  go_wp2
  go_ret
  exact ⟨rfl, rfl⟩
theorem roll_err (g : Nat) (v : Value) (most over under : Int) (l : List Ob) (n j c : Int) (hc : chkF n l.length under = c) (hne : c ≠ 0) (w : World) (h : Stk w g v most over under l) :
    Calls Try.prog 9 #[.pointer (some ⟨g, 0, none⟩), .int .i64 n, .int .i64 j] w fun e w' => e = .returned (.int .i64 c) ∧ w = w' := by
  have HH := Lib.hid h
  have HC := Lib.hid hc
  have hb : (c == 0) = false := by simpa using hne
  have hb2 : (c != 0) = true := by simpa using hne
  clear h hc hne
  go_enter Try.func9, Try.ntmps9
  go_wp2_with fail
  refine (check_any g v most over under l n _ HH.out).mono ?_
  rintro e w1 ⟨rfl, rfl⟩
  rw [HC.out]
  go_wp2
  go_ret
  exact ⟨rfl, rfl⟩
theorem roll_zero (g : Nat) (v : Value) (most over under : Int) (l : List Ob) (j : Int) (w : World) (h : Stk w g v most over under l) :
    Calls Try.prog 9 #[.pointer (some ⟨g, 0, none⟩), .int .i64 0, .int .i64 j] w fun e w' => e = .returned (.int .i64 0) ∧ w = w' := by
  have HH := Lib.hid h
  have hc : chkF 0 l.length under = 0 := by unfold chkF; rw [if_neg (by omega), if_neg (by omega)]
  have HC := Lib.hid hc
  clear h hc
  go_enter Try.func9, Try.ntmps9
  go_wp2_with fail
  refine (check_any g v most over under l 0 _ HH.out).mono ?_
  rintro e w1 ⟨rfl, rfl⟩
  rw [HC.out]
  go_wp2
  go_ret
  exact ⟨rfl, rfl⟩

set_option maxHeartbeats 1600000 in
theorem roll_in (g : Nat) (v : Value) (most over under : Int) (l : List Ob) (n : Nat) (j : Int) (hn : n ≤ l.length) (hpos : 0 < n) (hj : -9223372036854775808 ≤ j ∧ j ≤ 9223372036854775807) (w : World) (h : Stk w g v most over under l) (hs : l.length * 72 ≤ 140737488351232) :
    Calls Try.prog 9 #[.pointer (some ⟨g, 0, none⟩), .int .i64 n, .int .i64 j] w fun e w' => e = .returned (.int .i64 0) ∧ StkTo w g v most over under (rollF l n (rollK n j)) w' := by
  obtain ⟨i0, hi, hz0, hz1, hz2⟩ := info_parts info37
  have hc : chkF n l.length under = 0 := by unfold chkF; rw [if_neg (by omega), if_neg (by omega)]
  have HC := Lib.hid hc
  have HH := Lib.hid h
  obtain ⟨b, cap, rfl, h1, h2, _⟩ := h.2.ob rfl (by omega)
  obtain ⟨c0, c1, c2, c3, f3⟩ := h.cells
  -- the part
  obtain ⟨q, hq⟩ : ∃ q, l.length - n = q := ⟨_, rfl⟩
  have hqn : q + n = l.length := by omega
  have hqq : (l.length : Int) - n = q := by omega
  have hd := fun w => run_dropV (P := Try.prog) Try.underlying22 hi (some ⟨b, 0, none⟩) l.length cap q (by omega) w
  have hdv : dropV 8 (.slice (some ⟨b, 0, none⟩) l.length cap) q = .slice (some ⟨b, q * 8, none⟩) n (cap - q) := by
    simp only [dropV]
    rw [if_neg (by omega)]
    simp [add_plain]
    omega
  rw [hz1, hdv] at hd
  have hrow := HH.out.2.row.dropV q (by omega) (by omega)
  rw [hdv, encs_drop, show l.length - q = n by omega] at hrow
  -- the two halves
  have hk := rollK_eq n j hpos
  have hkn := rollK_lt n j hpos
  generalize rollK n j = k at *
  have t1 := Int.tmod_lt_of_pos j (show (0 : Int) < n by omega)
  have t2 := Int.lt_tmod_of_pos j (show (0 : Int) < n by omega)
  obtain ⟨m, hm⟩ : ∃ m, n - k = m := ⟨_, rfl⟩
  have hmk : m + k = n := by omega
  have hmm : (n : Int) - k = m := by omega
  have hd2 := fun w => run_dropV (P := Try.prog) Try.underlying22 hi (some ⟨b, q * 8, none⟩) n (cap - q) m (by omega) w
  have ht2 := fun w => run_takeV (P := Try.prog) Try.underlying22 hi (some ⟨b, q * 8, none⟩) n (cap - q) m (by omega) w
  rw [hz1] at hd2
  have r1 := hrow.dropV m (by omega) (by omega)
  have r2 := hrow.takeV m (by omega)
  rw [encs_drop] at r1
  rw [encs_take] at r2
  have hl1 : ((l.drop q).drop m).length = n - m := by simp; omega
  have hl2 : ((l.drop q).take m).length = m := by simp; omega
  rw [← hl1] at r1
  have R1 := Lib.hid r1
  have R2 : Hid (RowIn w (inB (.slice (some ⟨b, 0, none⟩) l.length cap)) 8 (takeV (.slice (some ⟨b, q * 8, none⟩) n (cap - q)) m) ((l.drop q).take m).length (encs ((l.drop q).take m))) := by
    show RowIn _ _ _ _ _ _
    rw [hl2]; exact r2
  have HQ := Lib.hid hq
  have HM := Lib.hid hm
  have HL1 := Lib.hid hl1
  have HL2 := Lib.hid hl2
  clear h hc hrow r1 r2 hdv hq hm hl1 hl2 hmk hqn
  go_enter Try.func9, Try.ntmps9
  go_wp2_with fail
  refine (check_any g _ most over under l n _ HH.out).mono ?_
  rintro e w1 ⟨rfl, rfl⟩
  rw [HC.out]
  have hnz : ((n : Int) == 0) = false := by simp; omega
  go_wp2
  go_quiet (fail)
  go_wp2
  rw [hk]
  have HS1 := Lib.hid (HH.out.drewN nq)
  have Q1 := Lib.hid (R1.out.fr ((Fr.refl Nob w).drewN nq) fun _ _ hf => hf)
  have Q2 := Lib.hid (R2.out.fr ((Fr.refl Nob w).drewN nq) fun _ _ hf => hf)
  have HF1 := Lib.hid ((Fr.refl Nob w).drewN nq)
  clear hk t1 t2 c0 c1 c2 c3 f3
  generalize w.drewN nq = w1 at *
  have hw : IntKind.i64.wrap (m : Int) = m := IntWalk.i64_in _ (by omega)
  go_still_tail 10, (by kernel_rfl)
  change wpList _ _ _ _ _ w1.drew
  generalize hx1 : dropV 8 (.slice (some ⟨b, q * 8, none⟩) n (cap - q)) m = x1 at *
  generalize hx2 : takeV (.slice (some ⟨b, q * 8, none⟩) n (cap - q)) m = x2 at *
  obtain ⟨A1, a1, n1, rfl⟩ : ∃ A a n, x1 = .slice A n a := by subst hx1; exact ⟨_, _, _, rfl⟩
  obtain ⟨A2, a2, n2, rfl⟩ : ∃ A a n, x2 = .slice A n a := by subst hx2; exact ⟨_, _, _, rfl⟩
  clear hx1 hx2
  go_wp2_with fail
  have hfa := ((Fr.refl Nob w1).alloc (.cells #[.slice A1 n1 a1, .slice A2 n2 a2] 22)).drew
  refine (concat_two w1.heap.size _ _ _ _ _ _ _ ((Blk.new w1 _ 22).drew) (Q1.out.fr hfa fun _ _ hf => hf) (Q2.out.fr hfa fun _ _ hf => hf) (by rw [HL1.out, HL2.out]; omega)).mono ?_
  rintro e w2 ⟨vo, rfl, ho, hf, hv⟩
  have hf2 : Fr Nob w1 w2 := hfa.trans0 hf
  have hs2 : Stk w2 g _ most over under l := HS1.out.fr hf2 fun _ _ hf => hf
  have hlen : ((l.drop q).drop m ++ (l.drop q).take m).length = n := by rw [List.length_append, HL1.out, HL2.out]; omega
  have hrow := ho.row
  obtain ⟨A3, c3, rfl, _, _⟩ := ho.form
  rw [hlen] at hrow ho
  obtain ⟨cur, hcur, hsz, hspl⟩ := hs2.2.cur (g := b) rfl
  have hgb := hs2.2.ne hs2.1 (by decide) b rfl
  have HR := Lib.hid hrow
  have HS2 := Lib.hid hs2
  have HCU := Lib.hid hcur
  have HSP := Lib.hid hspl
  have HF2 : Hid (Fr Nob w w2) := HF1.out.trans0 hf2
  have HLEN : Hid ((encs ((l.drop q).drop m ++ (l.drop q).take m)).length = n * 8) := by show _ = _; rw [encs_len, hlen]
  have HSZ : Hid (q * 8 + n * 8 ≤ l.length * 8) := by show _ ≤ _; have := HQ.out; omega
  clear hfa ho hf hv hf2 hs2 hrow hcur hspl
  rw [hlen]
  clear hlen
  go_wp2_with (refine wpList_copyS rfl _ _ 22 22 rfl 37 i0 Try.underlying22 hi 8 hz1 b (q * 8) n (cap - q) rfl cur HCU.out _ _ n _ rfl HR.out (Nat.le_refl _) ?c1 ?c2 ?_)
  case c1 => rw [HLEN.out]; have := HSZ.out; omega
  case c2 => exact encs_one _
  go_wp2_with fail
  go_ret
  refine ⟨rfl, _, ⟨?_, ?_⟩, (HF2.out.mono fun _ hf => hf.elim).setRow (.inl (.inr rfl)) _, fun b hb => .inl hb⟩
  · exact HS2.out.1.fr ((Fr.refl (fun k => k = b) w2).setRow (.inl rfl) _) fun e => hgb e.symm
  · have h := HSP.out w2 HCU.out (q * 8) (encs ((l.drop q).drop m ++ (l.drop q).take m)) (by rw [HLEN.out]; exact HSZ.out)
    have hlr : (rollF l n k).length = l.length := by
      unfold rollF
      rw [HQ.out, HM.out, List.length_append, List.length_append, HL1.out, HL2.out, List.length_take]
      have := HQ.out; omega
    have hcs : (encs l).take (q * 8) ++ encs ((l.drop q).drop m ++ (l.drop q).take m) ++ (encs l).drop (q * 8 + (encs ((l.drop q).drop m ++ (l.drop q).take m)).length) = encs (rollF l n k) := by
      rw [HLEN.out, encs_take, ← Nat.add_mul, encs_drop]
      have : l.drop (q + n) = [] := List.drop_eq_nil_of_le (by have := HQ.out; omega)
      rw [this, ← encs_append, ← encs_append]
      unfold rollF
      rw [HQ.out, HM.out, List.append_nil]
    rw [hlr]
    rw [hcs] at h
    simpa only [List.append_assoc, List.drop_drop] using h
end Go.Proofs.Ytdkgbakapinidaa
