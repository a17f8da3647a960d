/-
  StackActs: the cases of its switch: nothing; Push.
-/
import Derived.Test.YtdkgbakapinidaaA2
namespace Go.Proofs.Ytdkgbakapinidaa
open Go.RowKit
set_option linter.unusedVariables false
set_option linter.unusedSimpArgs false
set_option maxRecDepth 100000
/-- The state ahead of the switch. -/
structure Sw (w wb : World) (g ga : Nat) (v : Value) (S : Nat → Prop) (km : Int) (B : Nat) (Am : Option Addr) (cm : Nat) (l : List Ob) (d n j : Int) (Al : Option Addr) (cl : Nat) (al : List Ob) (Ak : Option Addr) (ck : Nat) (ks : List Int) : Prop where
  s : ActsS w wb g v S km (.slice Am l.length cm) l
  b : l.length ≤ B
  x : Blk wb ga #[.int .i64 d, .int .i64 n, .int .i64 j, .slice Al al.length cl, .slice Ak ks.length ck] 35
  lr : RowIn wb (fun k => k < w.heap.size) 8 (.slice Al al.length cl) al.length (encs al)
  kr : RowIn wb (fun k => k < w.heap.size) 1 (.slice Ak ks.length ck) ks.length (ints ks)
  k0 : 0 ≤ km ∧ km ≤ 9223372036854775807
  al : al.length ≤ 100
  ks : ks.length ≤ 100
  hl : l.length ≤ 6000
  j : -9223372036854775808 ≤ j ∧ j ≤ 9223372036854775807
section
variable {w wb : World} {g ga : Nat} {v : Value} {S : Nat → Prop} {km : Int} {B : Nat} {Am : Option Addr} {cm : Nat} {l : List Ob} {d n j : Int} {Al : Option Addr} {cl : Nat} {al : List Ob} {Ak : Option Addr} {ck : Nat} {ks : List Int}
/-- The call's own cells and lists lie apart from the stack. -/
theorem Sw.stb (h : Sw w wb g ga v S km B Am cm l d n j Al cl al Ak ck ks) : (∀ k, stB g v k → k < wb.heap.size) ∧ ¬ stB g v ga ∧ ∀ k, k < w.heap.size → ¬ stB g v k := by
  refine ⟨fun k hk => ?_, fun hk => ?_, fun k hk hs => ?_⟩
  · rcases hk with rfl | hk
    · exact h.s.s.1.lt
    · exact h.s.s.2.lt k hk
  · rcases hk with rfl | hk
    · exact absurd rfl (h.x.ne h.s.s.1 (by decide))
    · exact absurd rfl (h.s.s.2.ne h.x (by decide) _ hk)
  · rcases hs with rfl | hs
    · have := h.s.g0; omega
    · have := h.s.v0 k hs; omega
theorem Sw.nob (h : Sw w wb g ga v S km B Am cm l d n j Al cl al Ak ck ks) {w' : World} (hf : Fr Nob wb w') : Sw w w' g ga v S km B Am cm l d n j Al cl al Ak ck ks :=
  ⟨h.s.nob hf, h.b, h.x.fr hf fun hh => hh, h.lr.fr hf fun _ _ hh => hh, h.kr.fr hf fun _ _ hh => hh, h.k0, h.al, h.ks, h.hl, h.j⟩
end
/-- The model's list is a new one. -/
theorem ActsS.of {w w3 w6 : World} {g : Nat} {v' mv : Value} {km : Int} {l : List Ob} (hs : Stk w3 g v' km 12 13 l) (g0 : w.heap.size ≤ g) (hv : NewV w v') (hf : Fr Nob w w3) (hf6 : Fr Nob w3 w6) (ho : OwnS w6 37 8 mv l.length (encs l)) (hn : NewV w3 mv) : ActsS w w6 g v' (inB mv) km mv l := by
  refine ⟨hs.fr hf6 fun _ _ hh => hh, g0, hv, hf.trans0 hf6, ho.row, fun k hk => ⟨ho.lt k hk, fun hst => ?_⟩⟩
  have h1 := hn k hk
  rcases hst with rfl | h2
  · have := hs.1.lt; omega
  · have := hs.2.lt k h2; omega
set_option maxHeartbeats 4000000 in
theorem sw_none (w wb : World) (g ga : Nat) (v : Value) (S : Nat → Prop) (km : Int) (B : Nat) (Am : Option Addr) (cm : Nat) (l : List Ob) (av kv : Value) (d n j : Int) (Al : Option Addr) (cl : Nat) (al : List Ob) (Ak : Option Addr) (ck : Nat) (ks : List Int) (u : Nat → Value)
    (h : Sw w wb g ga v S km B Am cm l d n j Al cl al Ak ck ks) (hd : d < 1 ∨ 9 < d) :
    swCode.wp Try.prog (Exit.then (ActsQ w g km (B + 100) av kv) NoQ) (FR (.int .i64 km) av (.int .i64 12) (.int .i64 13) (.pointer (some ⟨g, 0, none⟩)) (.slice Am l.length cm) kv (.pointer (some ⟨ga, 0, none⟩)) (.int .i64 l.length) (.int .i64 0) (.int .i64 0) (.slice none 0 0) (.slice none 0 0) (.int .i64 d) u) wb := by
  have d1 : (d == 1) = false := by simp; omega
  have d2 : (d == 2) = false := by simp; omega
  have d3 : (d == 3) = false := by simp; omega
  have d4 : (d == 4) = false := by simp; omega
  have d5 : (d == 5) = false := by simp; omega
  have d6 : (d == 6) = false := by simp; omega
  have d7 : (d == 7) = false := by simp; omega
  have d8 : (d == 8) = false := by simp; omega
  have d9 : (d == 9) = false := by simp; omega
  clear hd
  have HH := Lib.hid h
  clear h
  conv => arg 2; whnf
  unfold FR
  go_wp2_with fail
  refine ActsQ.mk rfl rfl rfl rfl rfl rfl rfl rfl ?_
  exact ActsP.none HH.out.s (by have := HH.out.b; omega)
set_option maxHeartbeats 4000000 in
theorem sw_push (w wb : World) (g ga : Nat) (v : Value) (S : Nat → Prop) (km : Int) (B : Nat) (Am : Option Addr) (cm : Nat) (l : List Ob) (av kv : Value) (n j : Int) (Al : Option Addr) (cl : Nat) (al : List Ob) (Ak : Option Addr) (ck : Nat) (ks : List Int) (u : Nat → Value)
    (h : Sw w wb g ga v S km B Am cm l 1 n j Al cl al Ak ck ks) :
    swCode.wp Try.prog (Exit.then (ActsQ w g km (B + 100) av kv) NoQ) (FR (.int .i64 km) av (.int .i64 12) (.int .i64 13) (.pointer (some ⟨g, 0, none⟩)) (.slice Am l.length cm) kv (.pointer (some ⟨ga, 0, none⟩)) (.int .i64 l.length) (.int .i64 0) (.int .i64 0) (.slice none 0 0) (.slice none 0 0) (.int .i64 1) u) wb := by
  obtain ⟨i0, hi, hz0, hz1, hz2⟩ := info_parts info37
  replace hi := Lib.hid hi
  replace hz0 := Lib.hid hz0
  replace hz1 := Lib.hid hz1
  replace hz2 := Lib.hid hz2
  have b0 : wb.cell? ⟨ga, 0, none⟩ = some (.int .i64 1) := h.x.cell 0
  have b1 : wb.cell? ⟨ga, 1, none⟩ = some (.int .i64 n) := h.x.cell 1
  have b2 : wb.cell? ⟨ga, 2, none⟩ = some (.int .i64 j) := h.x.cell 2
  have b3 : wb.cell? ⟨ga, 3, none⟩ = some (.slice Al al.length cl) := h.x.cell 3
  have b4 : wb.cell? ⟨ga, 4, none⟩ = some (.slice Ak ks.length ck) := h.x.cell 4
  have z1 := h.k0.1
  have z2 := h.k0.2
  have z3 := h.al
  have z4 := h.ks
  have z5 := h.hl
  have z6 := h.b
  have b3a : (wb.alloc (.cells #[] 37)).cell? ⟨ga, 3, none⟩ = some (.slice Al al.length cl) := (h.x.alloc _).cell 3
  have HLA := Lib.hid (h.lr.fr ((Fr.refl Nob wb).alloc (.cells #[] 37)) fun _ _ hh => hh)
  have HH := Lib.hid h
  clear h
  conv => arg 2; whnf
  unfold FR
  go_wp2_with (at_builtin; refine wpList_app _ rfl _ _ 22 rfl 37 i0 _ 8 72 Try.underlying22 hi.out hz0.out hz1.out hz2.out rfl (by decide) _ 0 [] rfl (OwnS.new0 wb 37 8) _ _ al.length (encs al) rfl HLA.out ?c1 ?c2 ?c3 ?_)
  case c1 => exact encs_one al
  case c2 => unfold maxLen; omega
  case c3 => omega
  intro v1 w2 hown hfr hat _
  have hN := app_new (w := wb) (NewV.at wb 0 0) ((Fr.refl _ _).alloc _) hfr (by simpa using hat)
  have HO := Lib.hid (show OwnS w2 37 8 v1 al.length (encs al) by simpa using hown)
  have HN := Lib.hid hN
  have HS2 := Lib.hid (HH.out.nob hN.1)
  obtain ⟨A1, c1, rfl, _, _⟩ := HO.out.form
  have e3 : w2.cell? ⟨ga, 3, none⟩ = some (.slice Al al.length cl) := HS2.out.x.cell 3
  clear hown hfr hat hN b0 b1 b2 b3 b4 b3a
  go_wp2_with fail
  by_cases hov : km - l.length < al.length
  · refine (push_over g v km 12 13 l A1 al.length c1 _ HS2.out.s.s ⟨z1, z2⟩ (by omega) hov).mono ?_
    rintro e w3 ⟨rfl, m3, hw3⟩
    have HF3 := Lib.hid (show Fr Nob w2 w3 by rw [hw3]; exact (Fr.refl Nob w2).drewN m3)
    have f3 : w3.cell? ⟨ga, 3, none⟩ = some (.slice Al al.length cl) := cell_nob e3 HF3.out
    clear hw3 e3
    go_wp2_with fail
    refine ActsQ.mk rfl rfl rfl rfl rfl rfl rfl rfl ?_
    exact ActsP.none (HS2.out.s.nob HF3.out) (by omega)
  · refine (push_in g v km 12 13 l al _ _ _ HS2.out.s.s HO.out.row ⟨z1, z2⟩ (fun k hk hs => by have := HN.out.2 k hk; have := HH.out.stb.1 k hs; omega) (by simp; omega) (by omega)).mono ?_
    rintro e w3 ⟨rfl, hto⟩
    obtain ⟨v3, hs3, hv3, hf3, hm3, hst3, hT3⟩ := HS2.out.s.step hto
    have HS3 := Lib.hid hs3
    have HV3 := Lib.hid hv3
    have HF3 := Lib.hid hf3
    have HM3 := Lib.hid hm3
    have HL3 := Lib.hid (HS2.out.lr.fr hst3 fun k hk hs => HS2.out.stb.2.2 k hk hs)
    have HX3 : Hid (∀ w', Fr Nob w3 w' → w'.cell? ⟨ga, 3, none⟩ = some (.slice Al al.length cl)) := fun w' hw' => ((HS2.out.x.fr hst3 HS2.out.stb.2.1).fr hw' fun hh => hh).cell 3
    have f3 := HX3.out w3 (Fr.refl _ _)
    clear hto hs3 hv3 hf3 hm3 hst3 hT3 e3
    go_wp2_with fail
    refine wp_region_held_drew (S := fun w' => w'.cell? ⟨ga, 3, none⟩ = some (.slice Al al.length cl)) (by kernel_rfl) (HX3.out _ (Fr.drew (Fr.refl Nob w3))) (fun hH => ?_)
    refine wpAnyH_take (i := 1) (v := ?vq1) rfl (by kernel_rfl) (by kernel_rfl) (by kernel_rfl) (fun _ _ _ h => h) (Or.inl ⟨by rfl, ?hq1⟩) hH ?rq1
    case hq1 => (intro w hSw; (try dsimp only at hSw); go_simp; (try with_reducible rfl))
    simp only [Act.put, List.getElem_toArray, List.getElem_cons_succ, List.getElem_cons_zero, List.setIfInBounds_toArray, List.set_cons_zero, List.set_cons_succ]
    refine wpAnyH_take (i := 3) (v := ?vq2) rfl (by kernel_rfl) (by kernel_rfl) (by kernel_rfl) (fun _ _ _ h => h) (Or.inl ⟨by rfl, ?hq2⟩) hH ?rq2
    case hq2 => (intro w hSw; (try dsimp only at hSw); go_simp; (try with_reducible rfl))
    simp only [Act.put, List.getElem_toArray, List.getElem_cons_succ, List.getElem_cons_zero, List.setIfInBounds_toArray, List.set_cons_zero, List.set_cons_succ]
    refine wpAnyH_take (i := 4) (v := ?vq3) rfl (by kernel_rfl) (by kernel_rfl) (by kernel_rfl) (fun _ _ _ h => h) (Or.inl ⟨by rfl, ?hq3⟩) hH ?rq3
    case hq3 => (intro w hSw; (try dsimp only at hSw); go_simp; (try with_reducible rfl))
    simp only [Act.put, List.getElem_toArray, List.getElem_cons_succ, List.getElem_cons_zero, List.setIfInBounds_toArray, List.set_cons_zero, List.set_cons_succ]
    refine held_oneG 0 rfl (by kernel_rfl) (by rfl) fun K hK => ?_
    replace hK := Lib.hid hK
    clear hH
    go_simp
    have hH := HX3.out (w3.drew.alloc (.cells #[] 37)) (show Fr Nob w3 _ from ((Fr.refl Nob w3).drew).alloc _)
    refine hK.out _ _ hH ?_
    clear hK K
    refine held_oneG 2 rfl (by kernel_rfl) (by rfl) fun K hK => ?_
    replace hK := Lib.hid hK
    clear hH
    refine wp_app (.tmp 84) (.tmp 85) 22 rfl 37 i0 _ 8 72 Try.underlying22 hi.out hz0.out hz1.out hz2.out rfl (by decide) _ 0 [] (by rfl) (OwnS.new0 w3.drew 37 8) _ _ l.length (encs l) (by rfl) (HM3.out.fr (show Fr Nob w3 _ from ((Fr.refl Nob w3).drew).alloc _) fun _ _ hh => hh) (encs_one _) (by unfold maxLen; omega) (by omega) ?_
    intro v5 w5 ho5 hf5 hat5 _
    have hN5 := app_new (w := w3) (NewV.at w3.drew 0 0) (show Fr Nob w3 _ from ((Fr.refl Nob w3).drew).alloc _) hf5 (by simpa using hat5)
    have HO5 := Lib.hid (show OwnS w5 37 8 v5 l.length (encs l) by simpa using ho5)
    have HN5 := Lib.hid hN5
    obtain ⟨A5, c5, rfl, _, _⟩ := HO5.out.form
    clear ho5 hf5 hat5 hN5
    have hH := HX3.out w5 HN5.out.1
    refine hK.out _ _ hH ?_
    clear hK K
    refine held_oneG 5 rfl (by kernel_rfl) (by rfl) fun K hK => ?_
    replace hK := Lib.hid hK
    clear hH
    refine wp_app (.tmp 86) (.tmp 88) 22 rfl 37 i0 _ 8 72 Try.underlying22 hi.out hz0.out hz1.out hz2.out rfl (by decide) _ l.length (encs l) (by rfl) (HO5.out) _ _ al.length (encs al) (by rfl) (HL3.out.fr HN5.out.1 fun _ _ hh => hh) (encs_one _) (by unfold maxLen; omega) (by omega) ?_
    intro v6 w6 ho6 hf6 hat6 _
    have hN6 := app_new (w := w3) HN5.out.2 HN5.out.1 hf6 hat6
    have HO6 := Lib.hid (show OwnS w6 37 8 v6 (l ++ al).length (encs (l ++ al)) by rw [List.length_append, encs_append]; exact ho6)
    have HN6 := Lib.hid hN6
    clear ho6 hf6 hat6 hN6
    have hH := HX3.out w6 HN6.out.1
    refine hK.out _ _ hH ?_
    clear hK K
    refine wpAnyH_take (i := 6) (v := ?vq7) rfl (by kernel_rfl) (by kernel_rfl) (by kernel_rfl) (fun _ _ _ h => h) (Or.inl ⟨by rfl, ?hq7⟩) hH ?rq7
    case hq7 => (intro w hSw; (try dsimp only at hSw); go_simp; (try with_reducible rfl))
    simp only [Act.put, List.getElem_toArray, List.getElem_cons_succ, List.getElem_cons_zero, List.setIfInBounds_toArray, List.set_cons_zero, List.set_cons_succ]
    refine wpAnyH_done (by kernel_rfl) ?_ _
    clear hH
    go_wp2_with fail
    refine ActsQ.mk rfl rfl rfl rfl rfl rfl rfl rfl ?_
    exact ⟨0, _, _, l ++ al, [], Nob, Nob, rfl, rfl, ActsS.of HS3.out HH.out.s.g0 HV3.out HF3.out HN6.out.1 HO6.out HN6.out.2, by simp; omega, RowIn.nil _ _ _, RowIn.nil _ _ _⟩
end Go.Proofs.Ytdkgbakapinidaa
