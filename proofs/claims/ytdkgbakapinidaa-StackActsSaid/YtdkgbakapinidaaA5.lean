/-
  StackActs: the cases of its switch: Top, Swap.
-/
import Derived.Test.YtdkgbakapinidaaA4
namespace Go.Proofs.Ytdkgbakapinidaa
open Go.RowKit
set_option linter.unusedVariables false
set_option linter.unusedSimpArgs false
set_option maxRecDepth 100000
/-- An object is stored into a list of one's own, whole. -/
theorem OwnS.putOb {w : World} {l : List Ob} {b cap : Nat} (h : OwnS w 37 8 (.slice (some ⟨b, 0, none⟩) l.length cap) l.length (encs l)) (k : Nat) (hk : k < l.length) (x : Ob) :
    ∃ cur, Blk w b cur 37 ∧ k * 8 + 8 ≤ cur.size ∧ ∀ w', Blk w' b (over cur (k * 8) (enc x)) 37 → OwnS w' 37 8 (.slice (some ⟨b, 0, none⟩) (l.set k x).length cap) (l.set k x).length (encs (l.set k x)) := by
  obtain ⟨hl, ⟨h0, _⟩ | ⟨g', cap', cur, hv, hb, h1, h2, h3, h4⟩⟩ := h
  · cases h0
  cases hv
  have hle : k * 8 + 8 ≤ l.length * 8 := by omega
  have hsz : l.length * 8 ≤ cur.size := Nat.le_trans (Nat.mul_le_mul_right _ h1) h3
  refine ⟨cur, hb, by omega, fun w' hb' => ?_⟩
  rw [List.length_set]
  have e8 : (enc x).length = 8 := rfl
  have hso : (over cur (k * 8) (enc x)).size = cur.size := by
    unfold over
    simp only [List.size_toArray, List.length_append, List.length_take, List.length_drop, Array.length_toList, e8]
    omega
  refine ⟨by rw [encs_len, List.length_set], .inr ⟨b, cap, _, rfl, hb', h1, h2, by rw [hso]; exact h3, ?_⟩⟩
  have e1 : (over cur (k * 8) (enc x)).toList = cur.toList.take (k * 8) ++ enc x ++ cur.toList.drop (k * 8 + (enc x).length) := rfl
  rw [e1, splice_take cur.toList (enc x) (k * 8) (l.length * 8) (by rw [e8]; exact hle) (by simpa using hsz), h4, e8, encs_take]
  have e2 : (encs l).drop (k * 8 + 8) = encs (l.drop (k + 1)) := by rw [show k * 8 + 8 = (k + 1) * 8 by omega, encs_drop]
  rw [e2, List.set_eq_take_append_cons_drop, if_pos hk]
  simp [encs]
set_option maxHeartbeats 4000000 in
theorem sw_top (w wb : World) (g ga : Nat) (v : Value) (S : Nat → Prop) (km : Int) (B : Nat) (Am : Option Addr) (cm : Nat) (l : List Ob) (av kv : Value) (n j : Int) (Al : Option Addr) (cl : Nat) (al : List Ob) (Ak : Option Addr) (ck : Nat) (ks : List Int) (u : Nat → Value)
    (h : Sw w wb g ga v S km B Am cm l 4 n j Al cl al Ak ck ks) :
    swCode.wp Try.prog (Exit.then (ActsQ w g km (B + 100) av kv) NoQ) (FR (.int .i64 km) av (.int .i64 12) (.int .i64 13) (.pointer (some ⟨g, 0, none⟩)) (.slice Am l.length cm) kv (.pointer (some ⟨ga, 0, none⟩)) (.int .i64 l.length) (.int .i64 0) (.int .i64 0) (.slice none 0 0) (.slice none 0 0) (.int .i64 4) u) wb := by
  obtain ⟨i0, hi, hz0, hz1, hz2⟩ := info_parts info37
  replace hi := Lib.hid hi
  replace hz0 := Lib.hid hz0
  replace hz1 := Lib.hid hz1
  replace hz2 := Lib.hid hz2
  have b0 : wb.cell? ⟨ga, 0, none⟩ = some (.int .i64 4) := h.x.cell 0
  have b1 : wb.cell? ⟨ga, 1, none⟩ = some (.int .i64 n) := h.x.cell 1
  have b2 : wb.cell? ⟨ga, 2, none⟩ = some (.int .i64 j) := h.x.cell 2
  have b3 : wb.cell? ⟨ga, 3, none⟩ = some (.slice Al al.length cl) := h.x.cell 3
  have b4 : wb.cell? ⟨ga, 4, none⟩ = some (.slice Ak ks.length ck) := h.x.cell 4
  have z1 := h.k0.1
  have z2 := h.k0.2
  have z3 := h.al
  have z4 := h.ks
  have z5 := h.hl
  have z6 := h.b
  have HZ : Hid (Blk (wb.alloc (.cells #[.int .i64 0, .bool false, .int .i64 0, .int .i64 0, .string ⟨#[]⟩, .int .i64 0, .int .i64 0, .int .i64 0] 37)) wb.heap.size #[.int .i64 0, .bool false, .int .i64 0, .int .i64 0, .string ⟨#[]⟩, .int .i64 0, .int .i64 0, .int .i64 0] 37) := Blk.new wb _ _
  have HF1 : Hid (Fr Nob wb (wb.alloc (.cells #[.int .i64 0, .bool false, .int .i64 0, .int .i64 0, .string ⟨#[]⟩, .int .i64 0, .int .i64 0, .int .i64 0] 37))) := (Fr.refl Nob wb).alloc _
  have HH := Lib.hid h
  clear h
  conv => arg 2; whnf
  unfold FR
  by_cases hn0 : n < 0
  · go_upto_region 47 with (fail)
    generalize wb.alloc (.cells #[.int .i64 0, .bool false, .int .i64 0, .int .i64 0, .string ⟨#[]⟩, .int .i64 0, .int .i64 0, .int .i64 0] 37) = w1 at *
    clear b0 b1 b2 b3 b4
    have b1 : w1.cell? ⟨ga, 1, none⟩ = some (.int .i64 n) := (HH.out.x.nob HF1.out).cell 1
    have HS1 := Lib.hid (HH.out.nob HF1.out)
    have HB0 : Hid (¬ stB g v wb.heap.size) := fun hk => by have := HH.out.stb.1 _ hk; omega
    go_wp2_with fail
    refine (top_err g v km 12 13 l n (by omega) (by decide) w1 HS1.out.s.s).mono ?_
    rw [if_pos hn0]
    rintro e w2 ⟨rfl, hf2⟩
    have HF2 := Lib.hid hf2
    have HZ2 := Lib.hid (HZ.out.nob hf2)
    have HS2 := Lib.hid (HS1.out.nob hf2)
    clear hf2
    go_wp2_with (refine wpList_putAt rfl 37 (.tmp 18) (.tmp 157) rfl wb.heap.size 0 (enc Ob.zero) (by rfl) (by rfl) 37 _ HZ2.out (Nat.le_refl 8) size37 (enc_one Ob.zero) ?_)
    intro w3 hb3 hf3
    rw [over_all #[.int .i64 0, .bool false, .int .i64 0, .int .i64 0, .string ⟨#[]⟩, .int .i64 0, .int .i64 0, .int .i64 0] (enc Ob.zero) rfl] at hb3
    have HF3 := Lib.hid hf3
    obtain ⟨k0, k1, k2, k3, k4, k5, k6, k7⟩ := ObC.of hb3
    clear hb3 hf3
    simp only [Ob.zero] at k0 k1 k2 k3 k4 k5 k6 k7
    have HS3 := Lib.hid (HS2.out.s.other HF3.out (fun k hk => by rw [hk]; exact HH.out.s.f.size) (fun k hk hs => HB0.out (hk ▸ hs)) fun k hk hs => by have := (HH.out.s.d k hs).1; omega)
    have HR4 := Lib.hid (show RowIn (w3.alloc (.cells #[.int .i64 0, .bool false, .int .i64 0, .int .i64 0, .string ⟨#[]⟩, .int .i64 0, .int .i64 0, .int .i64 0] 37)) (fun k => k = w3.heap.size) 8 (.slice (some ⟨w3.heap.size, 0, none⟩) 1 1) [Ob.zero].length (encs [Ob.zero]) from RowIn.one w3 Ob.zero)
    have HF4 : Hid (Fr Nob w3 (w3.alloc (.cells #[.int .i64 0, .bool false, .int .i64 0, .int .i64 0, .string ⟨#[]⟩, .int .i64 0, .int .i64 0, .int .i64 0] 37))) := (Fr.refl Nob w3).alloc _
    go_upto_region 49 with (fail)
    generalize w3.alloc (.cells #[.int .i64 0, .bool false, .int .i64 0, .int .i64 0, .string ⟨#[]⟩, .int .i64 0, .int .i64 0, .int .i64 0] 37) = w4 at *
    clear k0 k1 k2 k3 k4 k5 k6 k7
    have HR5 := Lib.hid (show RowIn (w4.alloc (.cells #[.int .i64 0, .bool false, .int .i64 0, .int .i64 0, .string ⟨#[]⟩, .int .i64 0, .int .i64 0, .int .i64 0] 37)) (fun k => k = w4.heap.size) 8 (.slice (some ⟨w4.heap.size, 0, none⟩) 1 1) [Ob.zero].length (encs [Ob.zero]) from RowIn.one w4 Ob.zero)
    have HF5 : Hid (Fr Nob w4 (w4.alloc (.cells #[.int .i64 0, .bool false, .int .i64 0, .int .i64 0, .string ⟨#[]⟩, .int .i64 0, .int .i64 0, .int .i64 0] 37))) := (Fr.refl Nob w4).alloc _
    go_wp2_with fail
    refine ActsQ.mk rfl rfl rfl rfl rfl rfl rfl rfl ?_
    exact ⟨11, _, _, l, [Ob.zero], _, _, rfl, rfl, (HS3.out.nob HF4.out).nob HF5.out, by omega, HR4.out.nob HF5.out, HR5.out⟩
  by_cases hn1 : (l.length : Int) ≤ n
  · go_upto_region 47 with (fail)
    generalize wb.alloc (.cells #[.int .i64 0, .bool false, .int .i64 0, .int .i64 0, .string ⟨#[]⟩, .int .i64 0, .int .i64 0, .int .i64 0] 37) = w1 at *
    clear b0 b1 b2 b3 b4
    have b1 : w1.cell? ⟨ga, 1, none⟩ = some (.int .i64 n) := (HH.out.x.nob HF1.out).cell 1
    have HS1 := Lib.hid (HH.out.nob HF1.out)
    have HB0 : Hid (¬ stB g v wb.heap.size) := fun hk => by have := HH.out.stb.1 _ hk; omega
    go_wp2_with fail
    refine (top_err g v km 12 13 l n (by omega) (by decide) w1 HS1.out.s.s).mono ?_
    rw [if_neg (show ¬ n < 0 by omega)]
    rintro e w2 ⟨rfl, hf2⟩
    have HF2 := Lib.hid hf2
    have HZ2 := Lib.hid (HZ.out.nob hf2)
    have HS2 := Lib.hid (HS1.out.nob hf2)
    clear hf2
    go_wp2_with (refine wpList_putAt rfl 37 (.tmp 18) (.tmp 157) rfl wb.heap.size 0 (enc Ob.zero) (by rfl) (by rfl) 37 _ HZ2.out (Nat.le_refl 8) size37 (enc_one Ob.zero) ?_)
    intro w3 hb3 hf3
    rw [over_all #[.int .i64 0, .bool false, .int .i64 0, .int .i64 0, .string ⟨#[]⟩, .int .i64 0, .int .i64 0, .int .i64 0] (enc Ob.zero) rfl] at hb3
    have HF3 := Lib.hid hf3
    obtain ⟨k0, k1, k2, k3, k4, k5, k6, k7⟩ := ObC.of hb3
    clear hb3 hf3
    simp only [Ob.zero] at k0 k1 k2 k3 k4 k5 k6 k7
    have HS3 := Lib.hid (HS2.out.s.other HF3.out (fun k hk => by rw [hk]; exact HH.out.s.f.size) (fun k hk hs => HB0.out (hk ▸ hs)) fun k hk hs => by have := (HH.out.s.d k hs).1; omega)
    have HR4 := Lib.hid (show RowIn (w3.alloc (.cells #[.int .i64 0, .bool false, .int .i64 0, .int .i64 0, .string ⟨#[]⟩, .int .i64 0, .int .i64 0, .int .i64 0] 37)) (fun k => k = w3.heap.size) 8 (.slice (some ⟨w3.heap.size, 0, none⟩) 1 1) [Ob.zero].length (encs [Ob.zero]) from RowIn.one w3 Ob.zero)
    have HF4 : Hid (Fr Nob w3 (w3.alloc (.cells #[.int .i64 0, .bool false, .int .i64 0, .int .i64 0, .string ⟨#[]⟩, .int .i64 0, .int .i64 0, .int .i64 0] 37))) := (Fr.refl Nob w3).alloc _
    go_upto_region 49 with (fail)
    generalize w3.alloc (.cells #[.int .i64 0, .bool false, .int .i64 0, .int .i64 0, .string ⟨#[]⟩, .int .i64 0, .int .i64 0, .int .i64 0] 37) = w4 at *
    clear k0 k1 k2 k3 k4 k5 k6 k7
    have HR5 := Lib.hid (show RowIn (w4.alloc (.cells #[.int .i64 0, .bool false, .int .i64 0, .int .i64 0, .string ⟨#[]⟩, .int .i64 0, .int .i64 0, .int .i64 0] 37)) (fun k => k = w4.heap.size) 8 (.slice (some ⟨w4.heap.size, 0, none⟩) 1 1) [Ob.zero].length (encs [Ob.zero]) from RowIn.one w4 Ob.zero)
    have HF5 : Hid (Fr Nob w4 (w4.alloc (.cells #[.int .i64 0, .bool false, .int .i64 0, .int .i64 0, .string ⟨#[]⟩, .int .i64 0, .int .i64 0, .int .i64 0] 37))) := (Fr.refl Nob w4).alloc _
    go_wp2_with fail
    refine ActsQ.mk rfl rfl rfl rfl rfl rfl rfl rfl ?_
    exact ⟨13, _, _, l, [Ob.zero], _, _, rfl, rfl, (HS3.out.nob HF4.out).nob HF5.out, by omega, HR4.out.nob HF5.out, HR5.out⟩
  obtain ⟨q, hq⟩ : ∃ q : Nat, n = q := ⟨n.toNat, by omega⟩
  subst hq
  obtain ⟨m, hm⟩ : ∃ m, m + 1 + q = l.length := ⟨l.length - 1 - q, by omega⟩
  have hml : m < l.length := by omega
  have e1 : (l.length : Int) - 1 - q = m := by omega
  have i1 : (m : Int) < l.length := by omega
  obtain ⟨bm, om, capm, hv, hc1, hc2, hSb, hrow⟩ := HH.out.s.m.ob (by omega)
  cases hv
  have i2 : (m : Int) < cm := by omega
  have HROW := Lib.hid (hrow m hml)
  have HM := Lib.hid hm
  obtain ⟨x, hx⟩ : ∃ x, l[m]'hml = x := ⟨_, rfl⟩
  have HXX := Lib.hid hx
  rw [hx] at HROW
  clear hm hrow hx
  go_upto_region 47 with (fail)
  generalize wb.alloc (.cells #[.int .i64 0, .bool false, .int .i64 0, .int .i64 0, .string ⟨#[]⟩, .int .i64 0, .int .i64 0, .int .i64 0] 37) = w1 at *
  clear b0 b1 b2 b3 b4
  have b1 : w1.cell? ⟨ga, 1, none⟩ = some (.int .i64 (q : Int)) := (HH.out.x.nob HF1.out).cell 1
  have HS1 := Lib.hid (HH.out.nob HF1.out)
  have HB0 : Hid (¬ stB g v wb.heap.size) := fun hk => by have := HH.out.stb.1 _ hk; omega
  go_wp2_with fail
  refine (top_in g v km 12 13 l q m hml HM.out w1 HS1.out.s.s).mono ?_
  rw [HXX.out]
  rintro e w2 ⟨rfl, hf2⟩
  have HF2 := Lib.hid hf2
  have HZ2 := Lib.hid (HZ.out.nob hf2)
  have HS2 := Lib.hid (HS1.out.nob hf2)
  have HO2 := Lib.hid (HROW.out.nob (HF1.out.trans0 hf2))
  clear hf2
  go_wp2_with (refine wpList_putAt rfl 37 (.tmp 18) (.tmp 157) rfl wb.heap.size 0 (enc x) (by rfl) (by rfl) 37 _ HZ2.out (Nat.le_refl 8) size37 (enc_one x) ?_)
  intro w3 hb3 hf3
  rw [over_all #[.int .i64 0, .bool false, .int .i64 0, .int .i64 0, .string ⟨#[]⟩, .int .i64 0, .int .i64 0, .int .i64 0] (enc x) rfl] at hb3
  have HF3 := Lib.hid hf3
  obtain ⟨k0, k1, k2, k3, k4, k5, k6, k7⟩ := ObC.of hb3
  clear hb3 hf3
  have HS3 := Lib.hid (HS2.out.s.other HF3.out (fun k hk => by rw [hk]; exact HH.out.s.f.size) (fun k hk hs => HB0.out (hk ▸ hs)) fun k hk hs => by have := (HH.out.s.d k hs).1; omega)
  have HX3 := Lib.hid (HS2.out.x.fr HF3.out fun hk => by have := HH.out.x.lt; omega)
  have HO3 : Hid (ObAt w3 bm (om + m * 8) x) := by
    have hne : ¬ (bm = wb.heap.size) := by have := (HH.out.s.d bm hSb).1; omega
    have h := HO2.out
    exact ⟨cell_fr h.c0 HF3.out hne, cell_fr h.c1 HF3.out hne, cell_fr h.c2 HF3.out hne, cell_fr h.c3 HF3.out hne, cell_fr h.c4 HF3.out hne, cell_fr h.c5 HF3.out hne, cell_fr h.c6 HF3.out hne, cell_fr h.c7 HF3.out hne⟩
  have HR4 := Lib.hid (RowIn.one w3 x)
  have HF4 : Hid (Fr Nob w3 (w3.alloc (.cells #[.int .i64 x.kind, .bool x.exec, .int .i64 x.access, .int .i64 x.n, .string x.name, .int .i64 x.ref, .int .i64 x.frm, .int .i64 x.len] 37))) := (Fr.refl Nob w3).alloc _
  go_upto_region 49 with (fail)
  generalize w3.alloc (.cells #[.int .i64 x.kind, .bool x.exec, .int .i64 x.access, .int .i64 x.n, .string x.name, .int .i64 x.ref, .int .i64 x.frm, .int .i64 x.len] 37) = w4 at *
  clear k0 k1 k2 k3 k4 k5 k6 k7
  have HF5 : Hid (Fr Nob w4 (w4.alloc (.cells #[.int .i64 0, .bool false, .int .i64 0, .int .i64 0, .string ⟨#[]⟩, .int .i64 0, .int .i64 0, .int .i64 0] 37))) := (Fr.refl Nob w4).alloc _
  go_upto_region 51 with (fail)
  generalize w4.alloc (.cells #[.int .i64 0, .bool false, .int .i64 0, .int .i64 0, .string ⟨#[]⟩, .int .i64 0, .int .i64 0, .int .i64 0] 37) = w5 at *
  have HF45 := Lib.hid (HF4.out.trans0 HF5.out)
  have e5 : w5.cell? ⟨ga, 1, none⟩ = some (.int .i64 (q : Int)) := (HX3.out.nob HF45.out).cell 1
  obtain ⟨a0, a1, a2, a3, a4, a5, a6, a7⟩ := HO3.out.nob HF45.out
  have HR6 := Lib.hid (RowIn.one w5 x)
  have HF6 : Hid (Fr Nob w5 (w5.alloc (.cells #[.int .i64 x.kind, .bool x.exec, .int .i64 x.access, .int .i64 x.n, .string x.name, .int .i64 x.ref, .int .i64 x.frm, .int .i64 x.len] 37))) := (Fr.refl Nob w5).alloc _
  go_wp2_with fail
  refine ActsQ.mk rfl rfl rfl rfl rfl rfl rfl rfl ?_
  exact ⟨0, _, _, l, [x], _, _, rfl, rfl, (HS3.out.nob HF45.out).nob HF6.out, by omega, (HR4.out.nob HF5.out).nob HF6.out, HR6.out⟩
set_option maxHeartbeats 4000000 in
theorem sw_swap (w wb : World) (g ga : Nat) (v : Value) (S : Nat → Prop) (km : Int) (B : Nat) (Am : Option Addr) (cm : Nat) (l : List Ob) (av kv : Value) (n j : Int) (Al : Option Addr) (cl : Nat) (al : List Ob) (Ak : Option Addr) (ck : Nat) (ks : List Int) (u : Nat → Value)
    (h : Sw w wb g ga v S km B Am cm l 5 n j Al cl al Ak ck ks) :
    swCode.wp Try.prog (Exit.then (ActsQ w g km (B + 100) av kv) NoQ) (FR (.int .i64 km) av (.int .i64 12) (.int .i64 13) (.pointer (some ⟨g, 0, none⟩)) (.slice Am l.length cm) kv (.pointer (some ⟨ga, 0, none⟩)) (.int .i64 l.length) (.int .i64 0) (.int .i64 0) (.slice none 0 0) (.slice none 0 0) (.int .i64 5) u) wb := by
  obtain ⟨i0, hi, hz0, hz1, hz2⟩ := info_parts info37
  replace hi := Lib.hid hi
  replace hz0 := Lib.hid hz0
  replace hz1 := Lib.hid hz1
  replace hz2 := Lib.hid hz2
  have b0 : wb.cell? ⟨ga, 0, none⟩ = some (.int .i64 5) := h.x.cell 0
  have b1 : wb.cell? ⟨ga, 1, none⟩ = some (.int .i64 n) := h.x.cell 1
  have b2 : wb.cell? ⟨ga, 2, none⟩ = some (.int .i64 j) := h.x.cell 2
  have b3 : wb.cell? ⟨ga, 3, none⟩ = some (.slice Al al.length cl) := h.x.cell 3
  have b4 : wb.cell? ⟨ga, 4, none⟩ = some (.slice Ak ks.length ck) := h.x.cell 4
  have z1 := h.k0.1
  have z2 := h.k0.2
  have z3 := h.al
  have z4 := h.ks
  have z5 := h.hl
  have z6 := h.b
  have HZ : Hid (Blk (wb.alloc (.cells #[.int .i64 1, .bool false, .int .i64 0, .int .i64 j, .string ⟨#[]⟩, .int .i64 0, .int .i64 0, .int .i64 0] 37)) wb.heap.size #[.int .i64 1, .bool false, .int .i64 0, .int .i64 j, .string ⟨#[]⟩, .int .i64 0, .int .i64 0, .int .i64 0] 37) := Blk.new wb _ _
  have HF1 : Hid (Fr Nob wb (wb.alloc (.cells #[.int .i64 1, .bool false, .int .i64 0, .int .i64 j, .string ⟨#[]⟩, .int .i64 0, .int .i64 0, .int .i64 0] 37))) := (Fr.refl Nob wb).alloc _
  have HH := Lib.hid h
  clear h
  conv => arg 2; whnf
  unfold FR
  by_cases hn0 : n < 0
  · go_upto_region 53 with (fail)
    generalize wb.alloc (.cells #[.int .i64 1, .bool false, .int .i64 0, .int .i64 j, .string ⟨#[]⟩, .int .i64 0, .int .i64 0, .int .i64 0] 37) = w1 at *
    clear b0 b1 b2 b3 b4
    have b1 : w1.cell? ⟨ga, 1, none⟩ = some (.int .i64 n) := (HH.out.x.nob HF1.out).cell 1
    have k0 : w1.cell? ⟨wb.heap.size, 0, none⟩ = some (.int .i64 1) := HZ.out.cell 0
    have k1 : w1.cell? ⟨wb.heap.size, 1, none⟩ = some (.bool false) := HZ.out.cell 1
    have k2 : w1.cell? ⟨wb.heap.size, 2, none⟩ = some (.int .i64 0) := HZ.out.cell 2
    have k3 : w1.cell? ⟨wb.heap.size, 3, none⟩ = some (.int .i64 j) := HZ.out.cell 3
    have k4 : w1.cell? ⟨wb.heap.size, 4, none⟩ = some (.string ⟨#[]⟩) := HZ.out.cell 4
    have k5 : w1.cell? ⟨wb.heap.size, 5, none⟩ = some (.int .i64 0) := HZ.out.cell 5
    have k6 : w1.cell? ⟨wb.heap.size, 6, none⟩ = some (.int .i64 0) := HZ.out.cell 6
    have k7 : w1.cell? ⟨wb.heap.size, 7, none⟩ = some (.int .i64 0) := HZ.out.cell 7
    have HS1 := Lib.hid (HH.out.nob HF1.out)
    have HB0 : Hid (¬ stB g v wb.heap.size) := fun hk => by have := HH.out.stb.1 _ hk; omega
    go_wp2_with fail
    refine (swap_err g v km 12 13 l n ⟨1, false, 0, j, ⟨#[]⟩, 0, 0, 0⟩ (by omega) (by decide) w1 HS1.out.s.s).mono ?_
    rw [if_pos hn0]
    rintro e w2 ⟨rfl, hf2⟩
    have HS2 := Lib.hid (HS1.out.s.nob hf2)
    clear hf2
    go_wp2_with fail
    refine ActsQ.mk rfl rfl rfl rfl rfl rfl rfl rfl ?_
    exact ActsP.none HS2.out (by omega)
  by_cases hn1 : (l.length : Int) ≤ n
  · go_upto_region 53 with (fail)
    generalize wb.alloc (.cells #[.int .i64 1, .bool false, .int .i64 0, .int .i64 j, .string ⟨#[]⟩, .int .i64 0, .int .i64 0, .int .i64 0] 37) = w1 at *
    clear b0 b1 b2 b3 b4
    have b1 : w1.cell? ⟨ga, 1, none⟩ = some (.int .i64 n) := (HH.out.x.nob HF1.out).cell 1
    have k0 : w1.cell? ⟨wb.heap.size, 0, none⟩ = some (.int .i64 1) := HZ.out.cell 0
    have k1 : w1.cell? ⟨wb.heap.size, 1, none⟩ = some (.bool false) := HZ.out.cell 1
    have k2 : w1.cell? ⟨wb.heap.size, 2, none⟩ = some (.int .i64 0) := HZ.out.cell 2
    have k3 : w1.cell? ⟨wb.heap.size, 3, none⟩ = some (.int .i64 j) := HZ.out.cell 3
    have k4 : w1.cell? ⟨wb.heap.size, 4, none⟩ = some (.string ⟨#[]⟩) := HZ.out.cell 4
    have k5 : w1.cell? ⟨wb.heap.size, 5, none⟩ = some (.int .i64 0) := HZ.out.cell 5
    have k6 : w1.cell? ⟨wb.heap.size, 6, none⟩ = some (.int .i64 0) := HZ.out.cell 6
    have k7 : w1.cell? ⟨wb.heap.size, 7, none⟩ = some (.int .i64 0) := HZ.out.cell 7
    have HS1 := Lib.hid (HH.out.nob HF1.out)
    have HB0 : Hid (¬ stB g v wb.heap.size) := fun hk => by have := HH.out.stb.1 _ hk; omega
    go_wp2_with fail
    refine (swap_err g v km 12 13 l n ⟨1, false, 0, j, ⟨#[]⟩, 0, 0, 0⟩ (by omega) (by decide) w1 HS1.out.s.s).mono ?_
    rw [if_neg (show ¬ n < 0 by omega)]
    rintro e w2 ⟨rfl, hf2⟩
    have HS2 := Lib.hid (HS1.out.s.nob hf2)
    clear hf2
    go_wp2_with fail
    refine ActsQ.mk rfl rfl rfl rfl rfl rfl rfl rfl ?_
    exact ActsP.none HS2.out (by omega)
  obtain ⟨q, hq⟩ : ∃ q : Nat, n = q := ⟨n.toNat, by omega⟩
  subst hq
  obtain ⟨m, hm⟩ : ∃ m, m + 1 + q = l.length := ⟨l.length - 1 - q, by omega⟩
  have hml : m < l.length := by omega
  have e1 : (l.length : Int) - 1 - q = m := by omega
  have i1 : (m : Int) < l.length := by omega
  have HM := Lib.hid hm
  clear hm
  go_upto_region 53 with (fail)
  generalize wb.alloc (.cells #[.int .i64 1, .bool false, .int .i64 0, .int .i64 j, .string ⟨#[]⟩, .int .i64 0, .int .i64 0, .int .i64 0] 37) = w1 at *
  clear b0 b1 b2 b3 b4
  have b1 : w1.cell? ⟨ga, 1, none⟩ = some (.int .i64 (q : Int)) := (HH.out.x.nob HF1.out).cell 1
  have k0 : w1.cell? ⟨wb.heap.size, 0, none⟩ = some (.int .i64 1) := HZ.out.cell 0
  have k1 : w1.cell? ⟨wb.heap.size, 1, none⟩ = some (.bool false) := HZ.out.cell 1
  have k2 : w1.cell? ⟨wb.heap.size, 2, none⟩ = some (.int .i64 0) := HZ.out.cell 2
  have k3 : w1.cell? ⟨wb.heap.size, 3, none⟩ = some (.int .i64 j) := HZ.out.cell 3
  have k4 : w1.cell? ⟨wb.heap.size, 4, none⟩ = some (.string ⟨#[]⟩) := HZ.out.cell 4
  have k5 : w1.cell? ⟨wb.heap.size, 5, none⟩ = some (.int .i64 0) := HZ.out.cell 5
  have k6 : w1.cell? ⟨wb.heap.size, 6, none⟩ = some (.int .i64 0) := HZ.out.cell 6
  have k7 : w1.cell? ⟨wb.heap.size, 7, none⟩ = some (.int .i64 0) := HZ.out.cell 7
  have HS1 := Lib.hid (HH.out.nob HF1.out)
  have HB0 : Hid (¬ stB g v wb.heap.size) := fun hk => by have := HH.out.stb.1 _ hk; omega
  go_wp2_with fail
  refine (swap_in g v km 12 13 l q m ⟨1, false, 0, j, ⟨#[]⟩, 0, 0, 0⟩ hml HM.out w1 HS1.out.s.s).mono ?_
  rintro e w2 ⟨rfl, hto⟩
  obtain ⟨v3, hs3, hv3, hf3, hm3, hst3, hT3⟩ := HS1.out.s.step hto
  have HS3 := Lib.hid hs3
  have HV3 := Lib.hid hv3
  have HF3 := Lib.hid hf3
  have HM3 := Lib.hid (hm3.nob ((Fr.refl Nob w2).alloc (.cells #[] 37)))
  have HX2 := Lib.hid (HS1.out.x.fr hst3 HS1.out.stb.2.1)
  have HZ2 := Lib.hid (HZ.out.fr hst3 HB0.out)
  clear hto hs3 hv3 hf3 hm3 hst3 hT3 b1 k0 k1 k2 k3 k4 k5 k6 k7
  go_wp2_with (at_builtin; refine wpList_app _ rfl _ _ 22 rfl 37 i0 _ 8 72 Try.underlying22 hi.out hz0.out hz1.out hz2.out rfl (by decide) _ 0 [] rfl (OwnS.new0 w2 37 8) _ _ l.length (encs l) rfl HM3.out ?c1 ?c2 ?c3 ?_)
  case c1 => exact encs_one l
  case c2 => unfold maxLen; omega
  case c3 => omega
  intro v5 w5 hown hfr hat _
  have hN := app_new (w := w2) (NewV.at w2 0 0) ((Fr.refl _ _).alloc _) hfr (by simpa using hat)
  have HO := Lib.hid (show OwnS w5 37 8 v5 l.length (encs l) by simpa using hown)
  have HN := Lib.hid hN
  obtain ⟨b5, cap5, rfl, hc1, hc2, _⟩ := HO.out.ob rfl (by omega)
  obtain ⟨cur, hcur, hsz, hput⟩ := HO.out.putOb m hml ⟨1, false, 0, j, ⟨#[]⟩, 0, 0, 0⟩
  have HCUR := Lib.hid hcur
  have HPUT := Lib.hid hput
  have b1 : w5.cell? ⟨ga, 1, none⟩ = some (.int .i64 (q : Int)) := (HX2.out.nob hN.1).cell 1
  have i2 : (m : Int) < cap5 := by omega
  have k0 : w5.cell? ⟨wb.heap.size, 0, none⟩ = some (.int .i64 1) := (HZ2.out.nob hN.1).cell 0
  have k1 : w5.cell? ⟨wb.heap.size, 1, none⟩ = some (.bool false) := (HZ2.out.nob hN.1).cell 1
  have k2 : w5.cell? ⟨wb.heap.size, 2, none⟩ = some (.int .i64 0) := (HZ2.out.nob hN.1).cell 2
  have k3 : w5.cell? ⟨wb.heap.size, 3, none⟩ = some (.int .i64 j) := (HZ2.out.nob hN.1).cell 3
  have k4 : w5.cell? ⟨wb.heap.size, 4, none⟩ = some (.string ⟨#[]⟩) := (HZ2.out.nob hN.1).cell 4
  have k5 : w5.cell? ⟨wb.heap.size, 5, none⟩ = some (.int .i64 0) := (HZ2.out.nob hN.1).cell 5
  have k6 : w5.cell? ⟨wb.heap.size, 6, none⟩ = some (.int .i64 0) := (HZ2.out.nob hN.1).cell 6
  have k7 : w5.cell? ⟨wb.heap.size, 7, none⟩ = some (.int .i64 0) := (HZ2.out.nob hN.1).cell 7
  clear hown hfr hat hN hcur hput
  go_wp2_with (refine wpList_putAt rfl 37 (.tmp 194) (.tmp 193) rfl b5 (m * 8) (enc ⟨1, false, 0, j, ⟨#[]⟩, 0, 0, 0⟩) (by rfl) (by rfl) 37 _ HCUR.out hsz size37 (enc_one _) ?_)
  intro w6 hb6 hf6
  have HO6 := Lib.hid (HPUT.out w6 hb6)
  have HF6 := Lib.hid (HN.out.1.trans hf6 fun k hk => .inr (by rw [hk]; exact HN.out.2 _ rfl))
  clear hb6 hf6 k0 k1 k2 k3 k4 k5 k6 k7 b1
  have HN6 : Hid (NewV w2 (.slice (some ⟨b5, 0, none⟩) (l.set m ⟨1, false, 0, j, ⟨#[]⟩, 0, 0, 0⟩).length cap5)) := fun b hb => HN.out.2 b hb
  go_wp2_with fail
  refine ActsQ.mk rfl rfl rfl rfl rfl rfl rfl rfl ?_
  have hl6 : (l.set m ⟨1, false, 0, j, ⟨#[]⟩, 0, 0, 0⟩).length = l.length := List.length_set
  have hfin := ActsS.of HS3.out HH.out.s.g0 HV3.out HF3.out HF6.out HO6.out HN6.out
  rw [hl6] at hfin
  exact ⟨0, _, _, l.set m ⟨1, false, 0, j, ⟨#[]⟩, 0, 0, 0⟩, [], Nob, Nob, rfl, rfl, hfin, by rw [hl6]; omega, RowIn.nil _ _ _, RowIn.nil _ _ _⟩
end Go.Proofs.Ytdkgbakapinidaa
