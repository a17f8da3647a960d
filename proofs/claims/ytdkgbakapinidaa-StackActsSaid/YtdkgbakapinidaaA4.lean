/-
  StackActs: the cases of its switch: Pop, Take.
-/
import Derived.Test.YtdkgbakapinidaaA3
import Derived.Test.YtdkgbakapinidaaH1
namespace Go.Proofs.Ytdkgbakapinidaa
open Go.RowKit
set_option linter.unusedVariables false
set_option linter.unusedSimpArgs false
set_option maxRecDepth 100000
theorem Blk.nob {w w' : World} {g : Nat} {cs : Array Value} {t : TypeId} (h : Blk w g cs t) (hf : Fr Nob w w') : Blk w' g cs t := h.fr hf fun hh => hh
theorem RowIn.nob {w w' : World} {S : Nat → Prop} {size n : Nat} {v : Value} {cs : List Value} (h : RowIn w S size v n cs) (hf : Fr Nob w w') : RowIn w' S size v n cs := h.fr hf fun _ _ hh => hh
theorem RowIn.form {w : World} {S : Nat → Prop} {size n : Nat} {v : Value} {cs : List Value} (h : RowIn w S size v n cs) : ∃ A cap, v = .slice A n cap ∧ n ≤ cap ∧ cap ≤ maxLen := by
  obtain ⟨_, A, cap, hv, h1, h2, _⟩ := h
  exact ⟨A, cap, hv, h1, h2⟩
theorem size37 : (Try.prog.info? 37).map (·.size) = some 8 := by kernel_rfl
theorem enc_one (o : Ob) : ∀ u ∈ enc o, u.oneCell' = true := fun u hu => encs_one [o] u (by simpa [encs] using hu)
theorem RowIn.one (w : World) (o : Ob) : RowIn (w.alloc (.cells #[.int .i64 o.kind, .bool o.exec, .int .i64 o.access, .int .i64 o.n, .string o.name, .int .i64 o.ref, .int .i64 o.frm, .int .i64 o.len] 37)) (fun k => k = w.heap.size) 8 (.slice (some ⟨w.heap.size, 0, none⟩) 1 1) [o].length (encs [o]) :=
  RowIn.lit w 37 8 #[.int .i64 o.kind, .bool o.exec, .int .i64 o.access, .int .i64 o.n, .string o.name, .int .i64 o.ref, .int .i64 o.frm, .int .i64 o.len] 1 rfl (by decide)
theorem ActsS.other {w wr w' : World} {g : Nat} {v : Value} {S T : Nat → Prop} {km : Int} {mv : Value} {l : List Ob} (h : ActsS w wr g v S km mv l) (hf : Fr T wr w') (h1 : ∀ k, T k → w.heap.size ≤ k) (h2 : ∀ k, T k → ¬ stB g v k) (h3 : ∀ k, T k → ¬ S k) : ActsS w w' g v S km mv l :=
  ⟨h.s.fr hf fun k hk ht => h2 k ht hk, h.g0, h.v0, h.f.trans hf fun k hk => .inr (h1 k hk), h.m.fr hf fun k hk ht => h3 k ht hk, fun k hk => ⟨Nat.lt_of_lt_of_le (h.d k hk).1 hf.size, (h.d k hk).2⟩⟩
theorem row_take {w : World} {S : Nat → Prop} {A : Option Addr} {cap m : Nat} {l : List Ob} (h : RowIn w S 8 (.slice A l.length cap) l.length (encs l)) (hm : m ≤ l.length) : RowIn w S 8 (takeV (.slice A l.length cap) m) (l.take m).length (encs (l.take m)) := by
  have := h.takeV m hm
  rw [encs_take] at this
  rw [List.length_take, Nat.min_eq_left hm]
  exact this
theorem row_drop {w : World} {S : Nat → Prop} {A : Option Addr} {cap m : Nat} {l : List Ob} (h : RowIn w S 8 (.slice A l.length cap) l.length (encs l)) (hm : m ≤ l.length) : RowIn w S 8 (dropV 8 (.slice A l.length cap) m) (l.drop m).length (encs (l.drop m)) := by
  have := h.dropV m hm (by omega)
  rw [encs_drop] at this
  rw [List.length_drop]
  exact this
theorem drop_last (l : List Ob) (m : Nat) (h : l.length = m + 1) : l.drop m = [l[m]'(by omega)] := by
  rw [List.drop_eq_getElem_cons (by omega), List.drop_of_length_le (by omega)]
theorem take_last (l : List Ob) (m : Nat) (h : l.length = m + 1) : l = l.take m ++ [l[m]'(by omega)] := by
  conv => lhs; rw [← List.take_append_drop m l, drop_last l m h]
set_option maxHeartbeats 4000000 in
theorem sw_pop (w wb : World) (g ga : Nat) (v : Value) (S : Nat → Prop) (km : Int) (B : Nat) (Am : Option Addr) (cm : Nat) (l : List Ob) (av kv : Value) (n j : Int) (Al : Option Addr) (cl : Nat) (al : List Ob) (Ak : Option Addr) (ck : Nat) (ks : List Int) (u : Nat → Value)
    (h : Sw w wb g ga v S km B Am cm l 2 n j Al cl al Ak ck ks) :
    swCode.wp Try.prog (Exit.then (ActsQ w g km (B + 100) av kv) NoQ) (FR (.int .i64 km) av (.int .i64 12) (.int .i64 13) (.pointer (some ⟨g, 0, none⟩)) (.slice Am l.length cm) kv (.pointer (some ⟨ga, 0, none⟩)) (.int .i64 l.length) (.int .i64 0) (.int .i64 0) (.slice none 0 0) (.slice none 0 0) (.int .i64 2) u) wb := by
  obtain ⟨i0, hi, hz0, hz1, hz2⟩ := info_parts info37
  replace hi := Lib.hid hi
  replace hz0 := Lib.hid hz0
  replace hz1 := Lib.hid hz1
  replace hz2 := Lib.hid hz2
  have b0 : wb.cell? ⟨ga, 0, none⟩ = some (.int .i64 2) := h.x.cell 0
  have b1 : wb.cell? ⟨ga, 1, none⟩ = some (.int .i64 n) := h.x.cell 1
  have b2 : wb.cell? ⟨ga, 2, none⟩ = some (.int .i64 j) := h.x.cell 2
  have b3 : wb.cell? ⟨ga, 3, none⟩ = some (.slice Al al.length cl) := h.x.cell 3
  have b4 : wb.cell? ⟨ga, 4, none⟩ = some (.slice Ak ks.length ck) := h.x.cell 4
  have z1 := h.k0.1
  have z2 := h.k0.2
  have z3 := h.al
  have z4 := h.ks
  have z5 := h.hl
  have z6 := h.b
  have HZ : Hid (Blk (wb.alloc (.cells #[.int .i64 0, .bool false, .int .i64 0, .int .i64 0, .string ⟨#[]⟩, .int .i64 0, .int .i64 0, .int .i64 0] 37)) wb.heap.size #[.int .i64 0, .bool false, .int .i64 0, .int .i64 0, .string ⟨#[]⟩, .int .i64 0, .int .i64 0, .int .i64 0] 37) := Blk.new wb _ _
  have HF1 : Hid (Fr Nob wb (wb.alloc (.cells #[.int .i64 0, .bool false, .int .i64 0, .int .i64 0, .string ⟨#[]⟩, .int .i64 0, .int .i64 0, .int .i64 0] 37))) := (Fr.refl Nob wb).alloc _
  have HH := Lib.hid h
  clear h
  conv => arg 2; whnf
  unfold FR
  go_upto_region 28 with (fail)
  generalize wb.alloc (.cells #[.int .i64 0, .bool false, .int .i64 0, .int .i64 0, .string ⟨#[]⟩, .int .i64 0, .int .i64 0, .int .i64 0] 37) = w1 at *
  clear b0 b1 b2 b3 b4
  have HS1 := Lib.hid (HH.out.nob HF1.out)
  have HB0 : Hid (¬ stB g v wb.heap.size) := fun hk => by have := HH.out.stb.1 _ hk; omega
  have HZS := Lib.hid HZ.out.lt
  by_cases h0 : l.length = 0
  · have c0 : (l.length : Int) < 1 := by omega
    have c0' : chkF 1 l.length 13 = 13 := by unfold chkF; rw [if_neg (by omega), if_pos (by omega)]
    have C0 := Lib.hid c0'
    clear h0 c0'
    go_wp2_with fail
    refine (pop_err g v km 12 13 l 13 C0.out (by decide) w1 HS1.out.s.s).mono ?_
    rintro e w2 ⟨rfl, hf2⟩
    have HF2 := Lib.hid hf2
    have HZ2 := Lib.hid (HZ.out.nob hf2)
    have HS2 := Lib.hid (HS1.out.nob hf2)
    clear hf2
    go_wp2_with (refine wpList_putAt rfl 37 (.tmp 17) (.tmp 101) rfl wb.heap.size 0 (enc Ob.zero) (by rfl) (by rfl) 37 _ HZ2.out (Nat.le_refl 8) size37 (enc_one Ob.zero) ?_)
    intro w3 hb3 hf3
    rw [over_all #[.int .i64 0, .bool false, .int .i64 0, .int .i64 0, .string ⟨#[]⟩, .int .i64 0, .int .i64 0, .int .i64 0] (enc Ob.zero) rfl] at hb3
    have HF3 := Lib.hid hf3
    obtain ⟨k0, k1, k2, k3, k4, k5, k6, k7⟩ := ObC.of hb3
    clear hb3 hf3
    simp only [Ob.zero] at k0 k1 k2 k3 k4 k5 k6 k7
    have HS3 := Lib.hid (HS2.out.s.other HF3.out (fun k hk => by rw [hk]; exact Nat.le_trans HH.out.s.f.size (Nat.le_refl _)) (fun k hk hs => HB0.out (hk ▸ hs)) fun k hk hs => by have := (HH.out.s.d k hs).1; omega)
    have HX3 := Lib.hid (HS2.out.x.fr HF3.out fun hk => by have := HH.out.x.lt; omega)
    have HR4 := Lib.hid (show RowIn (w3.alloc (.cells #[.int .i64 0, .bool false, .int .i64 0, .int .i64 0, .string ⟨#[]⟩, .int .i64 0, .int .i64 0, .int .i64 0] 37)) (fun k => k = w3.heap.size) 8 (.slice (some ⟨w3.heap.size, 0, none⟩) 1 1) [Ob.zero].length (encs [Ob.zero]) from RowIn.one w3 Ob.zero)
    have HF4 : Hid (Fr Nob w3 (w3.alloc (.cells #[.int .i64 0, .bool false, .int .i64 0, .int .i64 0, .string ⟨#[]⟩, .int .i64 0, .int .i64 0, .int .i64 0] 37))) := (Fr.refl Nob w3).alloc _
    go_upto_block 3 with (fail)
    generalize w3.alloc (.cells #[.int .i64 0, .bool false, .int .i64 0, .int .i64 0, .string ⟨#[]⟩, .int .i64 0, .int .i64 0, .int .i64 0] 37) = w4 at *
    clear k0 k1 k2 k3 k4 k5 k6 k7
    have e0 : w4.cell? ⟨ga, 0, none⟩ = some (.int .i64 2) := (HX3.out.nob HF4.out).cell 0
    have HR5 := Lib.hid (show RowIn (w4.alloc (.cells #[.int .i64 0, .bool false, .int .i64 0, .int .i64 0, .string ⟨#[]⟩, .int .i64 0, .int .i64 0, .int .i64 0] 37)) (fun k => k = w4.heap.size) 8 (.slice (some ⟨w4.heap.size, 0, none⟩) 1 1) [Ob.zero].length (encs [Ob.zero]) from RowIn.one w4 Ob.zero)
    have HF5 : Hid (Fr Nob w4 (w4.alloc (.cells #[.int .i64 0, .bool false, .int .i64 0, .int .i64 0, .string ⟨#[]⟩, .int .i64 0, .int .i64 0, .int .i64 0] 37))) := (Fr.refl Nob w4).alloc _
    go_wp2_with fail
    refine ActsQ.mk rfl rfl rfl rfl rfl rfl rfl rfl ?_
    exact ⟨13, _, _, l, [Ob.zero], _, _, rfl, rfl, (HS3.out.nob HF4.out).nob HF5.out, by omega, HR4.out.nob HF5.out, HR5.out⟩
  · obtain ⟨m, hm⟩ : ∃ m, l.length = m + 1 := ⟨l.length - 1, by omega⟩
    have c0 : ¬ (l.length : Int) < 1 := by omega
    have cm' : (l.length : Int) - 1 = m := by omega
    have HM := Lib.hid hm
    have hcap : l.length ≤ cm := by obtain ⟨A, c, hv, h1, _⟩ := HH.out.s.m.form; cases hv; exact h1
    have hd := fun w => run_dropV (P := Try.prog) Try.underlying22 hi.out Am l.length cm m (by omega) w
    have ht := fun w => run_takeV (P := Try.prog) Try.underlying22 hi.out Am l.length cm m (by omega) w
    rw [hz1.out] at hd
    have HSP := Lib.hid (show Stk w1 g v km 12 13 (l.take m ++ [l[m]'(by omega)]) by rw [← take_last l m hm]; exact HS1.out.s.s)
    have HDL := Lib.hid (drop_last l m hm)
    have HTL : Hid ((l.take m).length = m) := by show (l.take m).length = m; simp; omega
    have hlen : (l.take m).length * 72 + 72 ≤ 140737488351232 := by rw [HTL.out]; omega
    have HLEN := Lib.hid hlen
    obtain ⟨x, hx⟩ : ∃ x, l[m]'(by omega) = x := ⟨_, rfl⟩
    rw [hx] at HSP HDL
    clear h0 hm hlen hx hcap
    go_wp2_with fail
    refine (pop_in g v km 12 13 (l.take m) x w1 HSP.out (by have := HLEN.out; omega)).mono ?_
    rintro e w2 ⟨rfl, hto⟩
    obtain ⟨v3, hs3, hv3, hf3, hm3, hst3, hT3⟩ := HS1.out.s.step hto
    have HZ2 := Lib.hid (HZ.out.fr hst3 HB0.out)
    have HX2 := Lib.hid (HS1.out.x.fr hst3 HS1.out.stb.2.1)
    have HB3 := Lib.hid ((hT3 (fun k => k = wb.heap.size) fun k hk => ⟨by rw [hk]; exact HZS.out, fun hs => HB0.out (hk ▸ hs)⟩) wb.heap.size rfl).2
    have HS2 : Hid (ActsS w w2 g v3 S km (takeV (.slice Am l.length cm) m) (l.take m)) := ⟨hs3, HH.out.s.g0, hv3, hf3, row_take hm3 (by have := HM.out; omega), hT3 S HS1.out.s.d⟩
    have HL2 := Lib.hid (row_drop (m := m) hm3 (by have := HM.out; omega))
    clear hto hs3 hv3 hf3 hm3 hst3 hT3
    go_wp2_with (refine wpList_putAt rfl 37 (.tmp 17) (.tmp 101) rfl wb.heap.size 0 (enc x) (by rfl) (by rfl) 37 _ HZ2.out (Nat.le_refl 8) size37 (enc_one x) ?_)
    intro w3 hb3 hf3
    rw [over_all #[.int .i64 0, .bool false, .int .i64 0, .int .i64 0, .string ⟨#[]⟩, .int .i64 0, .int .i64 0, .int .i64 0] (enc x) rfl] at hb3
    have HF3 := Lib.hid hf3
    obtain ⟨k0, k1, k2, k3, k4, k5, k6, k7⟩ := ObC.of hb3
    clear hb3 hf3
    have HS3 := Lib.hid (HS2.out.other HF3.out (fun k hk => by rw [hk]; exact HH.out.s.f.size) (fun k hk hs => HB3.out (hk ▸ hs)) fun k hk hs => by have := (HH.out.s.d k hs).1; omega)
    have HX3 := Lib.hid (HX2.out.fr HF3.out fun hk => by have := HH.out.x.lt; omega)
    have HL3 := Lib.hid (HL2.out.fr HF3.out fun k hs hk => by have := (HH.out.s.d k hs).1; omega)
    have HR4 := Lib.hid (RowIn.one w3 x)
    have HF4 : Hid (Fr Nob w3 (w3.alloc (.cells #[.int .i64 x.kind, .bool x.exec, .int .i64 x.access, .int .i64 x.n, .string x.name, .int .i64 x.ref, .int .i64 x.frm, .int .i64 x.len] 37))) := (Fr.refl Nob w3).alloc _
    go_upto_block 3 with (fail)
    generalize w3.alloc (.cells #[.int .i64 x.kind, .bool x.exec, .int .i64 x.access, .int .i64 x.n, .string x.name, .int .i64 x.ref, .int .i64 x.frm, .int .i64 x.len] 37) = w4 at *
    clear k0 k1 k2 k3 k4 k5 k6 k7
    have e0 : w4.cell? ⟨ga, 0, none⟩ = some (.int .i64 2) := (HX3.out.nob HF4.out).cell 0
    go_wp2_with fail
    refine ActsQ.mk rfl rfl rfl rfl rfl rfl rfl rfl ?_
    exact ⟨0, _, _, l.take m, [x], _, _, rfl, rfl, HS3.out.nob HF4.out, by rw [HTL.out]; have := HM.out; omega, HR4.out, by have := HL3.out.nob HF4.out; rw [HDL.out] at this; exact this⟩
set_option maxHeartbeats 4000000 in
theorem sw_take (w wb : World) (g ga : Nat) (v : Value) (S : Nat → Prop) (km : Int) (B : Nat) (Am : Option Addr) (cm : Nat) (l : List Ob) (av kv : Value) (n j : Int) (Al : Option Addr) (cl : Nat) (al : List Ob) (Ak : Option Addr) (ck : Nat) (ks : List Int) (u : Nat → Value)
    (h : Sw w wb g ga v S km B Am cm l 3 n j Al cl al Ak ck ks) :
    swCode.wp Try.prog (Exit.then (ActsQ w g km (B + 100) av kv) NoQ) (FR (.int .i64 km) av (.int .i64 12) (.int .i64 13) (.pointer (some ⟨g, 0, none⟩)) (.slice Am l.length cm) kv (.pointer (some ⟨ga, 0, none⟩)) (.int .i64 l.length) (.int .i64 0) (.int .i64 0) (.slice none 0 0) (.slice none 0 0) (.int .i64 3) u) wb := by
  obtain ⟨i0, hi, hz0, hz1, hz2⟩ := info_parts info37
  replace hi := Lib.hid hi
  replace hz0 := Lib.hid hz0
  replace hz1 := Lib.hid hz1
  replace hz2 := Lib.hid hz2
  have b0 : wb.cell? ⟨ga, 0, none⟩ = some (.int .i64 3) := h.x.cell 0
  have b1 : wb.cell? ⟨ga, 1, none⟩ = some (.int .i64 n) := h.x.cell 1
  have b2 : wb.cell? ⟨ga, 2, none⟩ = some (.int .i64 j) := h.x.cell 2
  have b3 : wb.cell? ⟨ga, 3, none⟩ = some (.slice Al al.length cl) := h.x.cell 3
  have b4 : wb.cell? ⟨ga, 4, none⟩ = some (.slice Ak ks.length ck) := h.x.cell 4
  have z1 := h.k0.1
  have z2 := h.k0.2
  have z3 := h.al
  have z4 := h.ks
  have z5 := h.hl
  have z6 := h.b
  have HH := Lib.hid h
  clear h
  conv => arg 2; whnf
  unfold FR
  by_cases hn0 : n < 0
  · have C0 := Lib.hid (show chkF n l.length 13 = 11 by unfold chkF; rw [if_pos hn0])
    go_wp2_with fail
    refine (take_err g v km 12 13 l n 11 C0.out (by decide) _ HH.out.s.s).mono ?_
    rintro e w2 ⟨rfl, rfl⟩
    go_wp2_with fail
    refine ActsQ.mk rfl rfl rfl rfl rfl rfl rfl rfl ?_
    exact ActsP.none HH.out.s (by omega)
  by_cases hn1 : (l.length : Int) < n
  · have C0 := Lib.hid (show chkF n l.length 13 = 13 by unfold chkF; rw [if_neg hn0, if_pos (by omega)])
    go_wp2_with fail
    refine (take_err g v km 12 13 l n 13 C0.out (by decide) _ HH.out.s.s).mono ?_
    rintro e w2 ⟨rfl, rfl⟩
    go_wp2_with fail
    refine ActsQ.mk rfl rfl rfl rfl rfl rfl rfl rfl ?_
    exact ActsP.none HH.out.s (by omega)
  obtain ⟨q, hq⟩ : ∃ q : Nat, n = q := ⟨n.toNat, by omega⟩
  subst hq
  obtain ⟨m, hm⟩ : ∃ m, l.length = m + q := ⟨l.length - q, by omega⟩
  have cm' : (l.length : Int) - q = m := by omega
  have hcap : l.length ≤ cm := by obtain ⟨A, c, hv, h1, _⟩ := HH.out.s.m.form; cases hv; exact h1
  have hd := fun w => run_dropV (P := Try.prog) Try.underlying22 hi.out Am l.length cm m (by omega) w
  have ht := fun w => run_takeV (P := Try.prog) Try.underlying22 hi.out Am l.length cm m (by omega) w
  rw [hz1.out] at hd
  have HM := Lib.hid hm
  clear hm hcap
  go_wp2_with fail
  refine (take_in g v km 12 13 l q (by have := HM.out; omega) wb HH.out.s.s (by omega)).mono ?_
  rintro e w2 ⟨vo, rfl, ho, hno, hto⟩
  obtain ⟨v3, hs3, hv3, hf3, hm3, hst3, hT3⟩ := HH.out.s.step hto
  have emq : l.length - q = m := by have := HM.out; omega
  rw [emq] at ho hs3
  have HQL : Hid ((l.drop m).length = q) := by show (l.drop m).length = q; simp; have := HM.out; omega
  have HO := Lib.hid (show OwnS w2 37 8 vo (l.drop m).length (encs (l.drop m)) by rw [HQL.out]; exact ho)
  have HX2 := Lib.hid (HH.out.x.fr hst3 HH.out.stb.2.1)
  have HS2 : Hid (ActsS w w2 g v3 S km (takeV (.slice Am l.length cm) m) (l.take m)) := ⟨hs3, HH.out.s.g0, hv3, hf3, row_take hm3 (by have := HM.out; omega), hT3 S HH.out.s.d⟩
  have HL2 := Lib.hid (row_drop (m := m) hm3 (by have := HM.out; omega))
  have e0 : w2.cell? ⟨ga, 0, none⟩ = some (.int .i64 3) := HX2.out.cell 0
  clear hto hs3 hv3 hf3 hm3 hst3 hT3 ho hno emq b0 b1 b2 b3 b4
  go_wp2_with fail
  refine ActsQ.mk rfl rfl rfl rfl rfl rfl rfl rfl ?_
  exact ⟨0, _, _, l.take m, l.drop m, _, _, rfl, rfl, HS2.out, by simp; omega, HO.out.row, HL2.out⟩
end Go.Proofs.Ytdkgbakapinidaa
