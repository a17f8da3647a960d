/-
  Texts joined in build order: The walk of chapter 16's 'open'. Chapter 16's 'answers'; the law ShowNone. Show and Spaced without a canvas or states; the walk of the law ShowNone. Reading of chapter 16's Set.
-/
import Derived.Test.YtkkejjfmidgciaaDoorJSNone14
import Derived.Deep.CutBlock
import Derived.Deep.CutRange
import Derived.BigRegion
import Derived.Lib.SlBytesConst
/- The walk of chapter 16's 'open'. -/
namespace Go.Proofs.YtkkejjfmidgciaaDoor
open Go.RowKit
set_option linter.unusedVariables false
set_option linter.unusedSimpArgs false
def canV : Value := .agg #[.int .i64 6553600, .int .i64 6553600, .slice none 0 0, .int .i64 2, .slice none 0 0]
theorem sizeRC : (Tryd.prog.info? 65).map (·.size) = some 5 := by kernel_rfl
theorem results_ttcc {P : Program} {fn : Func} {a b p q : Tmp} {ty ty' : TypeId} (h : fn.results = #[.tmp a, .tmp b, .cell p ty, .cell q ty']) (tmps : Array Value) (w : World) (g : Nat) (t : TypeId) (cs : Array Value) (d : TypeDesc) (g' : Nat) (t' : TypeId) (cs' : Array Value) (d' : TypeDesc)
    (hp : tmps.getD p undef = .pointer (some ⟨g, 0, none⟩)) (hg : Blk w g cs t) (hu : P.underlying ty = some d) (hd : (match d with | .struct _ | .array _ _ => true | _ => false) = true) (hi : (P.info? ty).map (·.size) = some cs.size)
    (hp' : tmps.getD q undef = .pointer (some ⟨g', 0, none⟩)) (hg' : Blk w g' cs' t') (hu' : P.underlying ty' = some d') (hd' : (match d' with | .struct _ | .array _ _ => true | _ => false) = true) (hi' : (P.info? ty').map (·.size) = some cs'.size) :
    (results fn tmps).run P w = .ok (.tuple #[tmps.getD a undef, tmps.getD b undef, .agg cs, .agg cs']) w := by
  have e1 : tmps[p]?.getD undef = .pointer (some ⟨g, 0, none⟩) := by simpa using hp
  have e2 : tmps[q]?.getD undef = .pointer (some ⟨g', 0, none⟩) := by simpa using hp'
  simp [results, h, e1, e2, asAddr, run_loadVar_row w g t ty cs (0, 0) d hg hu hd hi, run_loadVar_row w g' t' ty' cs' (0, 0) d' hg' hu' hd' hi']
theorem OpenJ.blk {F0 : Nat → Prop} {w5 wc : World} {g gr : Nat} {n : Int} {F S : Nat → Prop} {s : GS} {st : Gst} {l : List Sg} {lv : Value} (h : OpenJ F0 w5 wc g gr n F S s st l lv) {b : Nat} {cs : Array Value} {ty : TypeId} (hb : Blk w5 b cs ty) (h1 : ¬ F0 b) (h2 : b ≠ gr) : Blk wc b cs ty :=
  hb.fr h.fr fun hk => hk.elim h1 h2
set_option maxRecDepth 8000 in
set_option maxHeartbeats 16000000 in
theorem open_any (t : T16) (w : World) (hN : NamesIn w) (hs : 0 ≤ t.segs ∧ t.segs ≤ 255) :
    Calls Tryd.prog 25 #[.agg (encT t).toArray] w fun e w' => ∃ g c F S lv, e = .returned (.tuple #[.pointer (some ⟨g, 0, none⟩), .pointer (some ⟨c, 0, none⟩), rV (openS t).cur.st nilV nilV (tN t) lv, canV]) ∧ OpenR w w' g c F S (openS t) lv := by
  obtain ⟨n, hn⟩ : ∃ n, t.segs % 10 + 1 = n := ⟨_, rfl⟩
  have HTN := Lib.hid (show tN t = n from hn)
  obtain ⟨sg0, sg1⟩ := hs
  have n1 : 1 ≤ n := by omega
  have n2 : n ≤ 10 := by omega
  have HSB0 := Lib.hid (SB.new 2 n (by omega) (by omega))
  have HOS : Hid (openS t = oP t (oD t (oF t (oM t (sNew 2 n))))) := by show openS t = _; unfold openS; rw [HTN.out]
  have hfa : Fr Nob w (((w.alloc (.cells (encT t).toArray 58)).alloc (.cells #[.int .i64 0, .int .i64 0, .int .i64 0, .int .i64 0, .int .i64 0, .int .i64 0, .int .i64 0, .int .i64 0, .int .i64 0, .int .i64 0, .int .i64 0, .int .i64 0, .int .i64 0, .int .i64 0, .int .i64 0, .slice none 0 0, .int .i64 0, .int .i64 0, .int .i64 0, .int .i64 0, .int .i64 0, .int .i64 0, .int .i64 0, .int .i64 0, .slice none 0 0, .bool false, .int .i64 0, .slice none 0 0] 63)).alloc (.cells #[.int .i64 0, .int .i64 0, .slice none 0 0, .int .i64 0, .slice none 0 0] 65)) := (((Fr.refl Nob w).alloc _).alloc _).alloc _
  have HT := Lib.hid (show Blk (((w.alloc (.cells (encT t).toArray 58)).alloc (.cells #[.int .i64 0, .int .i64 0, .int .i64 0, .int .i64 0, .int .i64 0, .int .i64 0, .int .i64 0, .int .i64 0, .int .i64 0, .int .i64 0, .int .i64 0, .int .i64 0, .int .i64 0, .int .i64 0, .int .i64 0, .slice none 0 0, .int .i64 0, .int .i64 0, .int .i64 0, .int .i64 0, .int .i64 0, .int .i64 0, .int .i64 0, .int .i64 0, .slice none 0 0, .bool false, .int .i64 0, .slice none 0 0] 63)).alloc (.cells #[.int .i64 0, .int .i64 0, .slice none 0 0, .int .i64 0, .slice none 0 0] 65)) w.heap.size (encT t).toArray 58 from ((Blk.new w _ _).alloc _).alloc _)
  have HR := Lib.hid (show Blk (((w.alloc (.cells (encT t).toArray 58)).alloc (.cells #[.int .i64 0, .int .i64 0, .int .i64 0, .int .i64 0, .int .i64 0, .int .i64 0, .int .i64 0, .int .i64 0, .int .i64 0, .int .i64 0, .int .i64 0, .int .i64 0, .int .i64 0, .int .i64 0, .int .i64 0, .slice none 0 0, .int .i64 0, .int .i64 0, .int .i64 0, .int .i64 0, .int .i64 0, .int .i64 0, .int .i64 0, .int .i64 0, .slice none 0 0, .bool false, .int .i64 0, .slice none 0 0] 63)).alloc (.cells #[.int .i64 0, .int .i64 0, .slice none 0 0, .int .i64 0, .slice none 0 0] 65)) (w.heap.size + 1) #[.int .i64 0, .int .i64 0, .int .i64 0, .int .i64 0, .int .i64 0, .int .i64 0, .int .i64 0, .int .i64 0, .int .i64 0, .int .i64 0, .int .i64 0, .int .i64 0, .int .i64 0, .int .i64 0, .int .i64 0, .slice none 0 0, .int .i64 0, .int .i64 0, .int .i64 0, .int .i64 0, .int .i64 0, .int .i64 0, .int .i64 0, .int .i64 0, .slice none 0 0, .bool false, .int .i64 0, .slice none 0 0] 63 from (Blk.new1 w _ _ _).alloc _)
  have HC := Lib.hid (show Blk (((w.alloc (.cells (encT t).toArray 58)).alloc (.cells #[.int .i64 0, .int .i64 0, .int .i64 0, .int .i64 0, .int .i64 0, .int .i64 0, .int .i64 0, .int .i64 0, .int .i64 0, .int .i64 0, .int .i64 0, .int .i64 0, .int .i64 0, .int .i64 0, .int .i64 0, .slice none 0 0, .int .i64 0, .int .i64 0, .int .i64 0, .int .i64 0, .int .i64 0, .int .i64 0, .int .i64 0, .int .i64 0, .slice none 0 0, .bool false, .int .i64 0, .slice none 0 0] 63)).alloc (.cells #[.int .i64 0, .int .i64 0, .slice none 0 0, .int .i64 0, .slice none 0 0] 65)) (w.heap.size + 2) #[.int .i64 0, .int .i64 0, .slice none 0 0, .int .i64 0, .slice none 0 0] 65 from Blk.new2 w _ _ _ _)
  have HFa := Lib.hid hfa
  have HN := Lib.hid hN
  clear hfa hN
  go_enter Tryd.func25, Tryd.ntmps25
  go_upto_region 1 with (fail)
  generalize (((w.alloc (.cells (encT t).toArray 58)).alloc (.cells #[.int .i64 0, .int .i64 0, .int .i64 0, .int .i64 0, .int .i64 0, .int .i64 0, .int .i64 0, .int .i64 0, .int .i64 0, .int .i64 0, .int .i64 0, .int .i64 0, .int .i64 0, .int .i64 0, .int .i64 0, .slice none 0 0, .int .i64 0, .int .i64 0, .int .i64 0, .int .i64 0, .int .i64 0, .int .i64 0, .int .i64 0, .int .i64 0, .slice none 0 0, .bool false, .int .i64 0, .slice none 0 0] 63)).alloc (.cells #[.int .i64 0, .int .i64 0, .slice none 0 0, .int .i64 0, .slice none 0 0] 65)) = wa at *
  have k17 : wa.cell? ⟨w.heap.size, 17, none⟩ = some (.int .u8 t.segs) := HT.out.cell 17
  have HAS : Hid (wa.heap.size ≥ w.heap.size + 3) := by have := HC.out.lt; show _ ≤ _; omega
  go_wp2_with fail
  refine (gnew_any 2 n _).mono ?_
  rintro e w1 ⟨g, rfl, hg, hf1⟩
  have HG1 := Lib.hid hg
  have HF1 := Lib.hid hf1
  clear hg hf1 k17
  go_wp2_with fail
  refine (pnew_any 6553600 6553600 2 (by decide) (by decide) (by decide) _).mono ?_
  rintro e w2 ⟨rfl, hc2, hf2⟩
  have HC2 := Lib.hid hc2
  have HF2 := Lib.hid hf2
  clear hc2 hf2
  go_wp2_with fail
  refine (rstart_any n _).mono ?_
  unfold rV
  rintro e w3 ⟨rfl, hf3⟩
  have HF3 := Lib.hid hf3
  have HZ := Lib.hid (Blk.new w3 (encR gZero nilV nilV 0 nilV).toArray 63)
  clear hf3
  go_wp2_with (refine wpList_putAt rfl 63 (.tmp 10) (.tmp 24) rfl w3.heap.size 0 (encR gStart nilV nilV n nilV) (by rfl) (by rfl) 63 _ HZ.out (Nat.le_refl 28) sizeR (encR_one _ _ _ _ _ ⟨_, _, _, rfl⟩ ⟨_, _, _, rfl⟩ ⟨_, _, _, rfl⟩) ?_)
  intro w4 hb4 hf4
  rw [over_all (encR gZero nilV nilV 0 nilV).toArray (encR gStart nilV nilV n nilV) rfl] at hb4
  have HB4 := Lib.hid hb4
  have HF4 := Lib.hid (((Fr.refl (fun k => k = w3.heap.size) w3).alloc (.cells (encR gZero nilV nilV 0 nilV).toArray 63)).trans hf4 fun k hk => .inl hk)
  clear hb4 hf4
  have HCM := Lib.hid (Blk.new w4 #[.int .i64 6553600, .int .i64 6553600, .slice none 0 0, .int .i64 2, .slice none 0 0] 65)
  have HF5 : Hid (Fr Nob w4 (w4.alloc (.cells #[.int .i64 6553600, .int .i64 6553600, .slice none 0 0, .int .i64 2, .slice none 0 0] 65))) := (Fr.refl Nob w4).alloc _
  go_upto_region 6 with (fail)
  generalize w4.alloc (.cells #[.int .i64 6553600, .int .i64 6553600, .slice none 0 0, .int .i64 2, .slice none 0 0] 65) = w5 at *
  have z0 := HAS.out
  have z1 := HF1.out.size
  have z2 := HC2.out.lt
  have z3 := HF3.out.size
  have z4 := HB4.out.lt
  have z5 := HCM.out.lt
  have hf13 : Fr Nob w1 w3 := HF2.out.trans0 HF3.out
  have hf15 : Fr (fun k => k = w3.heap.size) w1 w5 := ((hf13.mono (T := fun k => k = w3.heap.size) fun _ hh => hh.elim).trans HF4.out fun k hk => .inl hk).trans0 HF5.out
  have hf25 : Fr (fun k => k = w3.heap.size) w2 w5 := ((HF3.out.mono (T := fun k => k = w3.heap.size) fun _ hh => hh.elim).trans HF4.out fun k hk => .inl hk).trans0 HF5.out
  have HJ0 : Hid (OpenJ (Bt wa w1) w5 w5 g w3.heap.size n (Bt wa w1) Nob (sNew 2 n) gStart [] nilV) :=
    ⟨HG1.out.fr hf15 fun k hk e => by have := hk.2; omega, fun k hk => ⟨.inl hk, by have := hk.2; omega⟩, Fr.refl _ _, HB4.out.nob HF5.out, RowIn.nil _ _ _, fun k hk => hk.elim, fun hk => by have := hk.2; omega, by omega⟩
  have HT5 := Lib.hid ((HT.out.nob HF1.out).fr hf15 (by omega))
  have HR5 := Lib.hid ((HR.out.nob HF1.out).fr hf15 (by omega))
  have HC5 := Lib.hid ((HC.out.nob HF1.out).fr hf15 (by omega))
  have HCB5 := Lib.hid (HC2.out.fr hf25 (by omega))
  have HFW5 := Lib.hid ((HFa.out.trans0 HF1.out).trans hf15 fun k hk => .inr (by omega))
  have HFW : Hid (∀ wc, Fr (fun k => Bt wa w1 k ∨ k = w3.heap.size) w5 wc → Fr Nob w wc) := fun wc h => HFW5.out.trans h fun k hk => .inr (by rcases hk with hk | hk; have := hk.1; omega; omega)
  have HNT : Hid (¬ Bt wa w1 w.heap.size ∧ w.heap.size ≠ w3.heap.size) := ⟨fun hk => by have := hk.1; omega, by omega⟩
  have HNR : Hid (¬ Bt wa w1 (w.heap.size + 1) ∧ w.heap.size + 1 ≠ w3.heap.size) := ⟨fun hk => by have := hk.1; omega, by omega⟩
  have HNC : Hid (¬ Bt wa w1 (w.heap.size + 2) ∧ w.heap.size + 2 ≠ w3.heap.size) := ⟨fun hk => by have := hk.1; omega, by omega⟩
  have HNB : Hid (¬ Bt wa w1 w1.heap.size ∧ w1.heap.size ≠ w3.heap.size ∧ w.heap.size ≤ w1.heap.size ∧ w1.heap.size < w5.heap.size) := ⟨fun hk => by have := hk.2; omega, by omega, by omega, by omega⟩
  have HNM : Hid (¬ Bt wa w1 w4.heap.size ∧ w4.heap.size ≠ w3.heap.size) := ⟨fun hk => by have := hk.2; omega, by omega⟩
  have HGR : Hid (w.heap.size + 3 ≤ w3.heap.size) := by show _ ≤ _; omega
  have HB0 : Hid (∀ k, Bt wa w1 k → w.heap.size + 3 ≤ k) := fun k hk => by have := hk.1; omega
  have HW5 : Hid (w.heap.size + 3 ≤ w5.heap.size) := by show _ ≤ _; omega
  have HM4 : Hid (w.heap.size + 3 ≤ w4.heap.size) := by show _ ≤ _; omega
  have HC1 : Hid (w.heap.size + 3 ≤ w1.heap.size) := by show _ ≤ _; omega
  clear HT HR HC HG1 HC2 HB4 HF1 HF2 HF3 HF4 HF5 HZ HAS hf13 hf15 hf25 z0 z1 z2 z3 z4 z5 HFa
  generalize w3.heap.size = gr at *
  have k0 : w5.cell? ⟨w.heap.size, 0, none⟩ = some (.int .i64 t.ctm.a) := HT5.out.cell 0
  have k1 : w5.cell? ⟨w.heap.size, 1, none⟩ = some (.int .i64 t.ctm.b) := HT5.out.cell 1
  have k2 : w5.cell? ⟨w.heap.size, 2, none⟩ = some (.int .i64 t.ctm.c) := HT5.out.cell 2
  have k3 : w5.cell? ⟨w.heap.size, 3, none⟩ = some (.int .i64 t.ctm.d) := HT5.out.cell 3
  have k4 : w5.cell? ⟨w.heap.size, 4, none⟩ = some (.int .i64 t.ctm.e) := HT5.out.cell 4
  have k5 : w5.cell? ⟨w.heap.size, 5, none⟩ = some (.int .i64 t.ctm.f) := HT5.out.cell 5
  go_wp2_with fail
  refine (gmatrix_any g _ _ t.ctm _ HJ0.out.gs).mono ?_
  rintro e w6 ⟨rfl, ht6⟩
  have HJ6 : Hid (OpenJ (Bt wa w1) w5 w6 g gr n (Ext (Bt wa w1) w5 w6) Nob (oM t (sNew 2 n)) gStart [] nilV) := HJ0.out.prog ht6
  clear ht6 k0 k1 k2 k3 k4 k5 HJ0
  go_upto_if 31 with (fail)
  go_cut [] from 27 to 67 (fun wc => Hid (∃ F, OpenJ (Bt wa w1) w5 wc g gr n F Nob (oM t (sNew 2 n)) (oM t (sNew 2 n)).cur.st [] nilV))
  case first =>
    by_cases hM : (m6L t.ctm).all fitZ = true
    · have e1 : ((matrixF t.ctm (sNew 2 n).cur.st).1 == 0) = true := by unfold matrixF; rw [if_pos hM]; rfl
      have HST := Lib.hid (show (oM t (sNew 2 n)).cur.st = { gStart with ctm := t.ctm } by unfold oM matrixF; rw [if_pos hM]; rfl)
      have HT6 := Lib.hid (HJ6.out.blk HT5.out HNT.out.1 HNT.out.2)
      have k0 : w6.cell? ⟨w.heap.size, 0, none⟩ = some (.int .i64 t.ctm.a) := HT6.out.cell 0
      have k1 : w6.cell? ⟨w.heap.size, 1, none⟩ = some (.int .i64 t.ctm.b) := HT6.out.cell 1
      have k2 : w6.cell? ⟨w.heap.size, 2, none⟩ = some (.int .i64 t.ctm.c) := HT6.out.cell 2
      have k3 : w6.cell? ⟨w.heap.size, 3, none⟩ = some (.int .i64 t.ctm.d) := HT6.out.cell 3
      have k4 : w6.cell? ⟨w.heap.size, 4, none⟩ = some (.int .i64 t.ctm.e) := HT6.out.cell 4
      have k5 : w6.cell? ⟨w.heap.size, 5, none⟩ = some (.int .i64 t.ctm.f) := HT6.out.cell 5
      clear hM
      go_wp2_with (refine wpList_putAt rfl 33 (.tmp 34) (.tmp 33) rfl gr 0 (encM t.ctm) (by rfl) (by rfl) 63 _ HJ6.out.rs (show 0 + 6 ≤ 28 by omega) sizeM6 (encM_one _) ?_)
      intro w7 hb7 hf7
      have HJ7 : Hid (OpenJ (Bt wa w1) w5 w7 g gr n (Ext (Bt wa w1) w5 w6) Nob (oM t (sNew 2 n)) { gStart with ctm := t.ctm } [] nilV) := HJ6.out.ref hf7 hb7
      clear hb7 hf7
      go_wp2_with fail
      go_meet
      exact ⟨_, by rw [HST.out]; exact HJ7.out⟩
    · have e1 : ((matrixF t.ctm (sNew 2 n).cur.st).1 == 0) = false := by unfold matrixF; rw [if_neg hM]; rfl
      have HST := Lib.hid (show (oM t (sNew 2 n)).cur.st = gStart by unfold oM matrixF; rw [if_neg hM]; rfl)
      clear hM
      go_wp2_with fail
      go_meet
      exact ⟨_, by rw [HST.out]; exact HJ6.out⟩
  case rest =>
  clear HJ6
  obtain ⟨F1, hj1⟩ := hcut.out
  have HJ1 := Lib.hid hj1
  clear hcut hj1
  have HSB1 := Lib.hid (HSB0.out.oM t)
  have HP1 : Hid ((oM t (sNew 2 n)).cur.p = ⟨n, [], oo, oo⟩) := rfl
  have HC1 : Hid ((oM t (sNew 2 n)).cur.st.clips = []) := (matrixF_same t.ctm (sNew 2 n).cur.st).2
  obtain ⟨s1, hs1⟩ : ∃ s1, oM t (sNew 2 n) = s1 := ⟨_, rfl⟩
  rw [hs1] at HJ1 HSB1 HOS HP1 HC1
  clear hs1 HSB0
  obtain ⟨wd, hwd⟩ : ∃ wd : World, wd = wc := ⟨_, rfl⟩
  subst hwd
  have HT7 := Lib.hid (HJ1.out.blk HT5.out HNT.out.1 HNT.out.2)
  have k6 : wd.cell? ⟨w.heap.size, 6, none⟩ = some (.int .i64 t.fm.a) := HT7.out.cell 6
  have k7 : wd.cell? ⟨w.heap.size, 7, none⟩ = some (.int .i64 t.fm.b) := HT7.out.cell 7
  have k8 : wd.cell? ⟨w.heap.size, 8, none⟩ = some (.int .i64 t.fm.c) := HT7.out.cell 8
  have k9 : wd.cell? ⟨w.heap.size, 9, none⟩ = some (.int .i64 t.fm.d) := HT7.out.cell 9
  have k10 : wd.cell? ⟨w.heap.size, 10, none⟩ = some (.int .i64 t.fm.e) := HT7.out.cell 10
  have k11 : wd.cell? ⟨w.heap.size, 11, none⟩ = some (.int .i64 t.fm.f) := HT7.out.cell 11
  have k12 : wd.cell? ⟨w.heap.size, 12, none⟩ = some (.int .i64 t.font) := HT7.out.cell 12
  go_wp2_with fail
  refine (gfont_any g _ _ t.font t.fm _ HJ1.out.gs (HN.out.nob (HFW.out _ HJ1.out.fr))).mono ?_
  rintro e w8 ⟨rfl, ht8⟩
  have HJ8 : Hid (OpenJ (Bt wa w1) w5 w8 g gr n (Ext F1 wd w8) Nob (oF t s1) s1.cur.st [] nilV) := HJ1.out.prog ht8
  clear ht8 k6 k7 k8 k9 k10 k11 k12 HT7 HJ1
  go_upto_if 41 with (fail)
  go_cut [] from 27 to 67 (fun wc => Hid (∃ F, OpenJ (Bt wa w1) w5 wc g gr n F Nob (oF t s1) (oF t s1).cur.st [] nilV))
  case first =>
    by_cases hM : (fontF t.font t.fm s1.cur.st).1 = 0
    · have e1 : ((fontF t.font t.fm s1.cur.st).1 == 0) = true := by rw [hM]; rfl
      have HST := Lib.hid (show (oF t s1).cur.st = { s1.cur.st with font := t.font, fm := t.fm } by
        unfold fontF at hM
        unfold oF fontF
        split at hM
        · split at hM
          · next h1 h2 => rw [if_pos h1, if_pos h2]
          · cases hM
        · cases hM)
      have HT8 := Lib.hid (HJ8.out.blk HT5.out HNT.out.1 HNT.out.2)
      clear hM
      go_upto_region 9 with (fail)
      have HSW : Hid (∀ w', Fr Nob w8 w' → w'.cell? ⟨w.heap.size, 12, none⟩ = some (.int .i64 t.font) ∧ w'.rangeAt w.heap.size 6 (encM t.fm)) := fun w' hw' => ⟨(HT8.out.nob hw').cell 12, (HT8.out.nob hw').range 6 _ rfl⟩
      have HSX : Hid (∀ w', Fr (fun k => k = gr) w8 w' → w'.cell? ⟨w.heap.size, 12, none⟩ = some (.int .i64 t.font) ∧ w'.rangeAt w.heap.size 6 (encM t.fm)) := fun w' hw' => by
        have hb := HT8.out.fr hw' HNT.out.2
        exact ⟨hb.cell 12, hb.range 6 _ rfl⟩
      refine wp_region_held_drew (S := fun w' => w'.cell? ⟨w.heap.size, 12, none⟩ = some (.int .i64 t.font) ∧ w'.rangeAt w.heap.size 6 (encM t.fm)) (by kernel_rfl) (HSW.out _ (Fr.drew (Fr.refl Nob w8))) (fun hH => ?_)
      refine wpAnyH_take (i := 0) (v := ?vf1) rfl (by kernel_rfl) (by kernel_rfl) (by kernel_rfl) (fun _ _ _ h => h) (Or.inl ⟨by rfl, ?hf1⟩) hH ?rf1
      case hf1 => (intro w hSw; (try dsimp only at hSw); go_simp; (try with_reducible rfl))
      simp only [Act.put, List.getElem_toArray, List.getElem_cons_succ, List.getElem_cons_zero, List.setIfInBounds_toArray, List.set_cons_zero, List.set_cons_succ]
      refine wpAnyH_take (i := 1) (v := ?vf2) rfl (by kernel_rfl) (by kernel_rfl) (by kernel_rfl) (fun _ _ _ h => h) (Or.inl ⟨by rfl, ?hf2⟩) hH ?rf2
      case hf2 => (intro w hSw; (try dsimp only at hSw); obtain ⟨hSw, _⟩ := hSw; go_simp; (try with_reducible rfl))
      simp only [Act.put, List.getElem_toArray, List.getElem_cons_succ, List.getElem_cons_zero, List.setIfInBounds_toArray, List.set_cons_zero, List.set_cons_succ]
      refine wpAnyH_take (i := 2) (v := ?vf3) rfl (by kernel_rfl) (by kernel_rfl) (by kernel_rfl) (fun _ _ _ h => h) (Or.inl ⟨by rfl, ?hf3⟩) hH ?rf3
      case hf3 => (intro w hSw; (try dsimp only at hSw); go_simp; (try with_reducible rfl))
      simp only [Act.put, List.getElem_toArray, List.getElem_cons_succ, List.getElem_cons_zero, List.setIfInBounds_toArray, List.set_cons_zero, List.set_cons_succ]
      refine wpAnyH_take (i := 3) (v := _) rfl (by kernel_rfl) (by kernel_rfl) (by kernel_rfl) (fun _ _ _ h => h) (yieldsIf_load_mid (by rfl) 33 (.tmp 44) rfl w.heap.size 6 (by rfl) (encM t.fm) _ (fun w hw => hw.2) Tryd.underlying33 rfl sizeM6) hH ?_
      simp only [Act.put, List.getElem_toArray, List.getElem_cons_succ, List.getElem_cons_zero, List.setIfInBounds_toArray, List.set_cons_zero, List.set_cons_succ]
      refine wpAnyH_take (i := 4) (v := ?vf5) rfl (by kernel_rfl) (by kernel_rfl) (by kernel_rfl) (fun _ _ _ h => h) (Or.inl ⟨by rfl, ?hf5⟩) hH ?rf5
      case hf5 => (intro w hSw; (try dsimp only at hSw); go_simp; (try with_reducible rfl))
      simp only [Act.put, List.getElem_toArray, List.getElem_cons_succ, List.getElem_cons_zero, List.setIfInBounds_toArray, List.set_cons_zero, List.set_cons_succ]
      refine held_oneG 5 rfl (by kernel_rfl) (by rfl) fun K hK => ?_
      replace hK := Lib.hid hK
      clear hH
      have q17 : w8.cell? ⟨gr, 17, none⟩ = some (.int .i64 s1.cur.st.font) := HJ8.out.rs.cells.cell 17
      have r17 := HJ8.out.rs.cells.free 17
      go_simp
      have HB1 := Lib.hid (show Blk (w8.drew.setCell ⟨gr, 17, none⟩ (.int .i64 t.font)) gr (encG { s1.cur.st with font := t.font } nilV nilV ++ [.int .i64 n, nilV]).toArray 63 from (HJ8.out.rs.cells.drew.set 17 (.int .i64 t.font)))
      have HF1 := Lib.hid (((Fr.refl (fun k => k = gr) w8).drew).setCell (p := ⟨gr, 17, none⟩) (.inl rfl) (.int .i64 t.font))
      clear q17 r17
      have hH := HSX.out _ HF1.out
      refine hK.out _ _ hH ?_
      clear hK K
      refine wpAnyH_take (i := 6) (v := ?vf7) rfl (by kernel_rfl) (by kernel_rfl) (by kernel_rfl) (fun _ _ _ h => h) (Or.inl ⟨by rfl, ?hf7⟩) hH ?rf7
      case hf7 => (intro w hSw; (try dsimp only at hSw); go_simp; (try with_reducible rfl))
      simp only [Act.put, List.getElem_toArray, List.getElem_cons_succ, List.getElem_cons_zero, List.setIfInBounds_toArray, List.set_cons_zero, List.set_cons_succ]
      refine held_oneG 7 rfl (by kernel_rfl) (by rfl) fun K hK => ?_
      replace hK := Lib.hid hK
      clear hH
      refine wp_putAt 33 (.tmp 47) (.tmp 45) rfl gr 18 (encM t.fm) (by rfl) (by rfl) 63 _ HB1.out (show 18 + 6 ≤ 28 by omega) sizeM6 (encM_one _) ?_
      intro w9 hb9 hf9
      have HF9 := Lib.hid (HF1.out.trans hf9 fun k hk => .inl hk)
      have HJ9 : Hid (OpenJ (Bt wa w1) w5 w9 g gr n (Ext F1 wd w8) Nob (oF t s1) { s1.cur.st with font := t.font, fm := t.fm } [] nilV) := HJ8.out.ref HF9.out hb9
      clear hb9 hf9
      have hH := HSX.out _ HF9.out
      refine hK.out _ _ hH ?_
      clear hK K
      refine wpAnyH_done (by kernel_rfl) ?_ _
      clear hH
      go_wp2_with fail
      go_meet
      exact ⟨_, by rw [HST.out]; exact HJ9.out⟩
    · have e1 : ((fontF t.font t.fm s1.cur.st).1 == 0) = false := by simpa using hM
      have HST := Lib.hid (show (oF t s1).cur.st = s1.cur.st by
        unfold fontF at hM
        unfold oF fontF
        split at hM
        · split at hM
          · exact (hM rfl).elim
          · next h1 h2 => rw [if_pos h1, if_neg h2]
        · next h1 => rw [if_neg h1])
      clear hM
      go_wp2_with fail
      go_meet
      exact ⟨_, by rw [HST.out]; exact HJ8.out⟩
  case rest =>
  clear HJ8
  obtain ⟨F2, hj2⟩ := hcut.out
  have HJ2 := Lib.hid hj2
  clear hcut hj2
  have HSB2 := Lib.hid (HSB1.out.oF t)
  have HP2 : Hid ((oF t s1).cur.p = ⟨n, [], oo, oo⟩) := HP1.out
  have HC2 : Hid ((oF t s1).cur.st.clips = []) := (fontF_same t.font t.fm s1.cur.st).2.trans HC1.out
  obtain ⟨s2, hs2⟩ : ∃ s2, oF t s1 = s2 := ⟨_, rfl⟩
  rw [hs2] at HJ2 HSB2 HOS HP2 HC2
  clear hs2 HSB1 HP1 HC1
  obtain ⟨we, hwe⟩ : ∃ we : World, we = wc := ⟨_, rfl⟩
  subst hwe
  have k16 : we.cell? ⟨w.heap.size, 16, none⟩ = some (.bool t.dark) := (HJ2.out.blk HT5.out HNT.out.1 HNT.out.2).cell 16
  go_upto_if 49 with (fail)
  clear k16
  go_cut [] from 27 to 67 (fun wc => Hid (∃ F, OpenJ (Bt wa w1) w5 wc g gr n F Nob (oD t s2) (oD t s2).cur.st [] nilV))
  case first =>
    cases hd : t.dark with
    | true =>
      have HOD := Lib.hid (show oD t s2 = { s2 with cur := { s2.cur with st := { s2.cur.st with dark := true } } } by unfold oD; rw [if_pos hd])
      clear hd
      go_wp2_with fail
      refine (gclip_dark g _ s2 false _ HJ2.out.gs (by rw [HC2.out]; decide) (by rw [HP2.out]; rfl) HSB2.out.ps.pb).mono ?_
      rintro e w10 ⟨rfl, ht⟩
      have HJ10 := Lib.hid (HJ2.out.prog ht)
      clear ht
      go_wp2_with fail
      refine (rclip_dark gr s2.cur.st nilV n false _ ⟨_, _, _, rfl⟩ HJ10.out.rs).mono ?_
      rintro e w11 ⟨rfl, hr, hf⟩
      have HJ11 := Lib.hid (HJ10.out.ref hf hr)
      clear hr hf
      go_wp2_with fail
      go_meet
      exact ⟨_, by rw [HOD.out]; exact HJ11.out⟩
    | false =>
      have HOD := Lib.hid (show oD t s2 = s2 by unfold oD; rw [hd]; rfl)
      clear hd
      go_wp2_with fail
      go_meet
      exact ⟨_, by rw [HOD.out]; exact HJ2.out⟩
  case rest =>
  obtain ⟨F3, hj3⟩ := hcut.out
  have HJ3 := Lib.hid hj3
  clear hcut hj3 HJ2
  have HSB3 := Lib.hid (HSB2.out.oD t)
  have HP3 : Hid ((oD t s2).cur.p = ⟨n, [], oo, oo⟩) := by
    show (oD t s2).cur.p = _
    unfold oD
    split
    · exact HP2.out
    · exact HP2.out
  obtain ⟨s3, hs3⟩ : ∃ s3, oD t s2 = s3 := ⟨_, rfl⟩
  rw [hs3] at HJ3 HSB3 HOS HP3
  clear hs3 HSB2 HP2 HC2
  obtain ⟨wf, hwf⟩ : ∃ wf : World, wf = wc := ⟨_, rfl⟩
  subst hwf
  have k15 : wf.cell? ⟨w.heap.size, 15, none⟩ = some (.bool t.place) := (HJ3.out.blk HT5.out HNT.out.1 HNT.out.2).cell 15
  go_upto_if 54 with (fail)
  clear k15
  go_cut [] from 27 to 67 (fun wc => Hid (∃ F S lv, OpenJ (Bt wa w1) w5 wc g gr n F S (oP t s3) (oP t s3).cur.st (oP t s3).cur.p.list lv))
  case first =>
    cases hd : t.place with
    | true =>
      have HOD := Lib.hid (show oP t s3 = { s3 with cur := { s3.cur with p := (moveF s3.cur.p ⟨t.ax, t.ay⟩).2 } } by unfold oP; rw [if_pos hd])
      have HLK := Lib.hid (show (rMove n [] ⟨t.ax, t.ay⟩).2 = (moveF s3.cur.p ⟨t.ax, t.ay⟩).2.list by
        rw [HP3.out]
        exact (move_like ⟨n, [], oo, oo⟩ ⟨t.ax, t.ay⟩ (Good.nil _ _ _)).l.symm)
      clear hd
      go_upto_region 14 with (fail)
      have HT8 := Lib.hid (HJ3.out.blk HT5.out HNT.out.1 HNT.out.2)
      have HSW : Hid (∀ w', Fr Nob wf w' → w'.cell? ⟨w.heap.size, 13, none⟩ = some (.int .i64 t.ax) ∧ w'.cell? ⟨w.heap.size, 14, none⟩ = some (.int .i64 t.ay)) := fun w' hw' => ⟨(HT8.out.nob hw').cell 13, (HT8.out.nob hw').cell 14⟩
      have HNF : Hid (¬ F3 w.heap.size) := fun hk => by
        rcases (HJ3.out.hF _ hk).1 with h | h
        · exact HNT.out.1 h
        · have := HW5.out; omega
      have HSX : Hid (∀ w', Fr F3 wf w' → w'.cell? ⟨w.heap.size, 13, none⟩ = some (.int .i64 t.ax) ∧ w'.cell? ⟨w.heap.size, 14, none⟩ = some (.int .i64 t.ay)) := fun w' hw' => by
        have hb := HT8.out.fr hw' HNF.out
        exact ⟨hb.cell 13, hb.cell 14⟩
      have hgs := HJ3.out.gs
      obtain ⟨lab, x, sv, xs, hx⟩ := hgs
      have HX := Lib.hid hx
      clear hx
      refine wp_region_held_drew (S := fun w' => w'.cell? ⟨w.heap.size, 13, none⟩ = some (.int .i64 t.ax) ∧ w'.cell? ⟨w.heap.size, 14, none⟩ = some (.int .i64 t.ay)) (by kernel_rfl) (HSW.out _ (Fr.drew (Fr.refl Nob wf))) (fun hH => ?_)
      refine wpAnyH_take (i := 0) (v := ?vm1) rfl (by kernel_rfl) (by kernel_rfl) (by kernel_rfl) (fun _ _ _ h => h) (Or.inl ⟨by rfl, ?hm1⟩) hH ?rm1
      case hm1 => (intro w hSw; (try dsimp only at hSw); go_simp; (try with_reducible rfl))
      simp only [Act.put, List.getElem_toArray, List.getElem_cons_succ, List.getElem_cons_zero, List.setIfInBounds_toArray, List.set_cons_zero, List.set_cons_succ]
      refine wpAnyH_take (i := 2) (v := ?vm2) rfl (by kernel_rfl) (by kernel_rfl) (by kernel_rfl) (fun _ _ _ h => h) (Or.inl ⟨by rfl, ?hm2⟩) hH ?rm2
      case hm2 => (intro w hSw; (try dsimp only at hSw); go_simp; (try with_reducible rfl))
      simp only [Act.put, List.getElem_toArray, List.getElem_cons_succ, List.getElem_cons_zero, List.setIfInBounds_toArray, List.set_cons_zero, List.set_cons_succ]
      refine wpAnyH_take (i := 3) (v := ?vm3) rfl (by kernel_rfl) (by kernel_rfl) (by kernel_rfl) (fun _ _ _ h => h) (Or.inl ⟨by rfl, ?hm3⟩) hH ?rm3
      case hm3 => (intro w hSw; (try dsimp only at hSw); obtain ⟨hSw, hSw2⟩ := hSw; go_simp; (try with_reducible rfl))
      simp only [Act.put, List.getElem_toArray, List.getElem_cons_succ, List.getElem_cons_zero, List.setIfInBounds_toArray, List.set_cons_zero, List.set_cons_succ]
      refine held_oneG 1 rfl (by kernel_rfl) (by rfl) fun K hK => ?_
      replace hK := Lib.hid hK
      clear hH
      go_simp
      refine (gpath_any g _ _ _ lab x sv xs (HX.out.nob (T := Nob) (show Fr Nob wf _ from Fr.drew (Fr.refl _ _)) fun _ _ hh => hh)).mono ?_
      rintro e w9 ⟨rfl, rfl⟩
      dsimp only
      have hH := HSW.out _ (Fr.drew (Fr.refl Nob wf))
      refine hK.out _ _ hH ?_
      clear hK K
      refine held_oneG 4 rfl (by kernel_rfl) (by rfl) fun K hK => ?_
      replace hK := Lib.hid hK
      clear hH
      go_simp
      refine (move_any x.pg x.pv s3.cur.p ⟨t.ax, t.ay⟩ _ (HX.out.nob (T := Nob) (show Fr Nob wf _ from Fr.drew (Fr.refl _ _)) fun _ _ hh => hh).c.p HSB3.out.ps.pb).mono ?_
      rintro e w10 ⟨rfl, ht⟩
      have hgt := GsX.path (HX.out.nob (T := Nob) (show Fr Nob wf wf.drew from Fr.drew (Fr.refl _ _)) fun _ _ hh => hh) _ ht
      have HJ10 := Lib.hid ((HJ3.out.nob (w' := wf.drew) (Fr.drew (Fr.refl _ _))).prog hgt)
      have HF10 := Lib.hid (show Fr F3 wf w10 from ((Fr.refl F3 wf).drew).trans hgt.2 fun k hk => .inl hk)
      clear ht hgt
      dsimp only
      have hH := HSX.out w10 HF10.out
      refine hK.out _ _ hH ?_
      clear hK K
      refine wpAnyH_done (by kernel_rfl) ?_ _
      clear hH
      have k13 : w10.cell? ⟨w.heap.size, 13, none⟩ = some (.int .i64 t.ax) := (HSX.out w10 HF10.out).1
      have k14 : w10.cell? ⟨w.heap.size, 14, none⟩ = some (.int .i64 t.ay) := (HSX.out w10 HF10.out).2
      go_wp2_with fail
      refine (rmove_any _ gr 26 _ n [] ⟨t.ax, t.ay⟩ _ HJ10.out.rq (by omega) (by simp)).mono ?_
      rintro e w11 ⟨rfl, ht⟩
      obtain ⟨S', lv', hj11⟩ := HJ10.out.mv ht
      rw [HLK.out] at hj11
      have HJ11 := Lib.hid hj11
      clear ht hj11 k13 k14
      go_wp2_with fail
      go_meet
      exact ⟨_, _, _, by rw [HOD.out]; exact HJ11.out⟩
    | false =>
      have HOD := Lib.hid (show oP t s3 = s3 by unfold oP; rw [hd]; rfl)
      clear hd
      go_wp2_with fail
      go_meet
      exact ⟨_, _, _, by rw [HOD.out, HP3.out]; exact HJ3.out⟩
  case rest =>
  obtain ⟨F4, S4, lv4, hj4⟩ := hcut.out
  have HJ4 := Lib.hid hj4
  clear hcut hj4 HJ3
  obtain ⟨s4, hs4⟩ : ∃ s4, oP t s3 = s4 := ⟨_, rfl⟩
  rw [hs4] at HJ4 HOS
  clear hs4 HSB3 HP3
  obtain ⟨wz, hwz⟩ : ∃ wz : World, wz = wc := ⟨_, rfl⟩
  subst hwz
  obtain ⟨Al, cl, hlv, _⟩ := HJ4.out.row.form
  subst hlv
  have HRz := Lib.hid (HJ4.out.blk HR5.out HNR.out.1 HNR.out.2)
  have HCz := Lib.hid (HJ4.out.blk HC5.out HNC.out.1 HNC.out.2)
  have HMz := Lib.hid (HJ4.out.blk HCM.out HNM.out.1 HNM.out.2)
  have HBz := Lib.hid (HJ4.out.blk HCB5.out HNB.out.1 HNB.out.2.1)
  have HNS : Hid (∀ k, (k = w.heap.size + 1 ∨ k = w.heap.size + 2) → k ≠ gr ∧ k ≠ w4.heap.size ∧ ¬ F4 k ∧ ¬ S4 k ∧ k ≠ w1.heap.size) := fun k hk => by
    have h1 := HGR.out
    have h2 := HW5.out
    refine ⟨by omega, fun e => ?_, fun hF => ?_, fun hS => by have := (HJ4.out.sd k hS).1; omega, fun e => ?_⟩
    · have h3 := HMz.out
      have hx := HM4.out
      omega
    · rcases (HJ4.out.hF k hF).1 with h | h
      · have := HB0.out k h; omega
      · omega
    · have := HC1.out; omega
  have HSW : Hid (∀ w', Fr (fun k => k = w.heap.size + 1 ∨ k = w.heap.size + 2) wz w' → w'.rangeAt gr 0 (encR s4.cur.st nilV nilV n (.slice Al s4.cur.p.list.length cl)) ∧ w'.rangeAt w4.heap.size 0 [.int .i64 6553600, .int .i64 6553600, .slice none 0 0, .int .i64 2, .slice none 0 0]) := fun w' hw' =>
    ⟨(Blk.fr HJ4.out.rs hw' fun hk => (HNS.out gr hk).1 rfl).range 0 _ rfl, (HMz.out.fr hw' fun hk => (HNS.out _ hk).2.1 rfl).range 0 _ rfl⟩
  go_wp2_with fail
  refine wp_region_held_drew (S := fun w' => w'.rangeAt gr 0 (encR s4.cur.st nilV nilV n (.slice Al s4.cur.p.list.length cl)) ∧ w'.rangeAt w4.heap.size 0 [.int .i64 6553600, .int .i64 6553600, .slice none 0 0, .int .i64 2, .slice none 0 0]) (by kernel_rfl) (HSW.out _ (Fr.drew (Fr.refl _ wz))) (fun hH => ?_)
  refine wpAnyH_take (i := 0) (v := ?ve1) rfl (by kernel_rfl) (by kernel_rfl) (by kernel_rfl) (fun _ _ _ h => h) (Or.inl ⟨by rfl, ?he1⟩) hH ?re1
  case he1 => (intro w hSw; (try dsimp only at hSw); go_simp; (try with_reducible rfl))
  simp only [Act.put, List.getElem_toArray, List.getElem_cons_succ, List.getElem_cons_zero, List.setIfInBounds_toArray, List.set_cons_zero, List.set_cons_succ]
  refine wpAnyH_take (i := 1) (v := ?ve2) rfl (by kernel_rfl) (by kernel_rfl) (by kernel_rfl) (fun _ _ _ h => h) (Or.inl ⟨by rfl, ?he2⟩) hH ?re2
  case he2 => (intro w hSw; (try dsimp only at hSw); go_simp; (try with_reducible rfl))
  simp only [Act.put, List.getElem_toArray, List.getElem_cons_succ, List.getElem_cons_zero, List.setIfInBounds_toArray, List.set_cons_zero, List.set_cons_succ]
  refine wpAnyH_take (i := 2) (v := _) rfl (by kernel_rfl) (by kernel_rfl) (by kernel_rfl) (fun _ _ _ h => h) (yieldsIf_load_mid (by rfl) 63 (.tmp 10) rfl gr 0 (by rfl) (encR s4.cur.st nilV nilV n (.slice Al s4.cur.p.list.length cl)) _ (fun w hw => hw.1) Tryd.underlying63 rfl sizeR) hH ?_
  simp only [Act.put, List.getElem_toArray, List.getElem_cons_succ, List.getElem_cons_zero, List.setIfInBounds_toArray, List.set_cons_zero, List.set_cons_succ]
  refine wpAnyH_take (i := 3) (v := _) rfl (by kernel_rfl) (by kernel_rfl) (by kernel_rfl) (fun _ _ _ h => h) (yieldsIf_load_mid (by rfl) 65 (.tmp 11) rfl w4.heap.size 0 (by rfl) [.int .i64 6553600, .int .i64 6553600, .slice none 0 0, .int .i64 2, .slice none 0 0] _ (fun w hw => hw.2) Tryd.underlying65 rfl sizeRC) hH ?_
  simp only [Act.put, List.getElem_toArray, List.getElem_cons_succ, List.getElem_cons_zero, List.setIfInBounds_toArray, List.set_cons_zero, List.set_cons_succ]
  refine wpAnyH_take (i := 4) (v := ?ve5) rfl (by kernel_rfl) (by kernel_rfl) (by kernel_rfl) (fun _ _ _ h => h) (Or.inl ⟨by rfl, ?he5⟩) hH ?re5
  case he5 => (intro w hSw; (try dsimp only at hSw); go_simp; (try with_reducible rfl))
  simp only [Act.put, List.getElem_toArray, List.getElem_cons_succ, List.getElem_cons_zero, List.setIfInBounds_toArray, List.set_cons_zero, List.set_cons_succ]
  refine wpAnyH_take (i := 5) (v := ?ve6) rfl (by kernel_rfl) (by kernel_rfl) (by kernel_rfl) (fun _ _ _ h => h) (Or.inl ⟨by rfl, ?he6⟩) hH ?re6
  case he6 => (intro w hSw; (try dsimp only at hSw); go_simp; (try with_reducible rfl))
  simp only [Act.put, List.getElem_toArray, List.getElem_cons_succ, List.getElem_cons_zero, List.setIfInBounds_toArray, List.set_cons_zero, List.set_cons_succ]
  refine held_oneG 6 rfl (by kernel_rfl) (by rfl) fun K hK => ?_
  replace hK := Lib.hid hK
  clear hH
  refine wp_putAt 63 (.tmp 4) (.tmp 66) rfl (w.heap.size + 1) 0 (encR s4.cur.st nilV nilV n (.slice Al s4.cur.p.list.length cl)) (by rfl) (by rfl) 63 _ (HRz.out.drew) (Nat.le_refl 28) sizeR (encR_one _ _ _ _ _ ⟨_, _, _, rfl⟩ ⟨_, _, _, rfl⟩ ⟨_, _, _, rfl⟩) ?_
  intro w10 hb10 hf10
  rw [over_all #[.int .i64 0, .int .i64 0, .int .i64 0, .int .i64 0, .int .i64 0, .int .i64 0, .int .i64 0, .int .i64 0, .int .i64 0, .int .i64 0, .int .i64 0, .int .i64 0, .int .i64 0, .int .i64 0, .int .i64 0, .slice none 0 0, .int .i64 0, .int .i64 0, .int .i64 0, .int .i64 0, .int .i64 0, .int .i64 0, .int .i64 0, .int .i64 0, .slice none 0 0, .bool false, .int .i64 0, .slice none 0 0] (encR s4.cur.st nilV nilV n (.slice Al s4.cur.p.list.length cl)) rfl] at hb10
  have HB10 := Lib.hid hb10
  have HF10 := Lib.hid (show Fr (fun k => k = w.heap.size + 1 ∨ k = w.heap.size + 2) wz w10 from ((Fr.refl _ wz).drew).trans hf10 fun k hk => .inl (.inl hk))
  have HC10 := Lib.hid (HCz.out.drew.fr hf10 (by omega))
  clear hb10 hf10
  have hH := HSW.out w10 HF10.out
  refine hK.out _ _ hH ?_
  clear hK K
  refine held_oneG 7 rfl (by kernel_rfl) (by rfl) fun K hK => ?_
  replace hK := Lib.hid hK
  clear hH
  refine wp_putAt 65 (.tmp 5) (.tmp 67) rfl (w.heap.size + 2) 0 [.int .i64 6553600, .int .i64 6553600, .slice none 0 0, .int .i64 2, .slice none 0 0] (by rfl) (by rfl) 65 _ HC10.out (Nat.le_refl 5) sizeRC (by intro u hu; simp at hu; rcases hu with rfl | rfl | rfl | rfl | rfl <;> rfl) ?_
  intro w11 hb11 hf11
  have HB11 := Lib.hid (show Blk w11 (w.heap.size + 2) #[.int .i64 6553600, .int .i64 6553600, .slice none 0 0, .int .i64 2, .slice none 0 0] 65 from hb11)
  have HF11 := Lib.hid (HF10.out.trans hf11 fun k hk => .inl (.inr hk))
  have HA11 := Lib.hid (HB10.out.fr hf11 (by omega))
  clear hb11 hf11
  have hH := HSW.out w11 HF11.out
  refine hK.out _ _ hH ?_
  clear hK K
  refine wpAnyH_done (by kernel_rfl) ?_ _
  clear hH
  go_wp2_with fail
  refine bodyPost_ret (results_ttcc rfl _ _ (w.heap.size + 1) 63 _ _ (w.heap.size + 2) 65 _ _ rfl HA11.out Tryd.underlying63 rfl (by rw [sizeR]; rfl) rfl HB11.out Tryd.underlying65 rfl (by rw [sizeRC]; rfl)) rfl ⟨g, w1.heap.size, F4, S4, .slice Al s4.cur.p.list.length cl, ?_, ?_⟩
  · rw [HOS.out, HTN.out]; rfl
  · rw [HOS.out]
    have hnf : ∀ k, F4 k → ¬ (k = w.heap.size + 1 ∨ k = w.heap.size + 2) := fun k hk e => (HNS.out k e).2.2.1 hk
    refine ⟨HJ4.out.gs.fr HF11.out hnf, fun k hk => ⟨?_, Nat.lt_of_lt_of_le (HJ4.out.hF k hk).2 HF11.out.size, fun e => ?_, fun hS => (HJ4.out.sd k hS).2.1 hk⟩, HBz.out.fr HF11.out fun hk => (HNS.out _ hk).2.2.2.2 rfl, HNB.out.2.2.1, HJ4.out.row.fr HF11.out fun k hk e => (HNS.out k e).2.2.2.1 hk, fun k hk => ?_, (HFW.out wz HJ4.out.fr).trans HF11.out fun k hk => .inr (by omega)⟩
    · rcases (HJ4.out.hF k hk).1 with h | h
      · have := HB0.out k h; omega
      · have := HW5.out; omega
    · subst e
      rcases (HJ4.out.hF _ hk).1 with h | h
      · exact HNB.out.1 h
      · have := HNB.out.2.2.2; omega
    · have := (HJ4.out.sd k hk).1; have := HW5.out; omega
end Go.Proofs.YtkkejjfmidgciaaDoor
/- Chapter 16's 'answers'; the law ShowNone. -/
namespace Go.Proofs.YtkkejjfmidgciaaDoor
open Go.RowKit
set_option linter.unusedVariables false
set_option linter.unusedSimpArgs false
theorem RowIn.litM (w : World) (e : TypeId) (size : Nat) (cs : Array Value) (n : Nat) (m : Nat × Nat) (hl : cs.size = n * size) (hn : n ≤ maxLen) :
    RowIn (w.alloc (.cells cs e m)) (fun k => k = w.heap.size) size (.slice (some ⟨w.heap.size, 0, none⟩) n n) n cs.toList :=
  ⟨by rw [Array.length_toList, hl], some ⟨w.heap.size, 0, none⟩, n, rfl, Nat.le_refl _, hn, (fun h => by cases h), fun j u hu => ⟨_, _, rfl, rfl, by
    rw [Nat.zero_add]
    exact (cell_of_row (w.alloc (.cells cs e m)) w.heap.size j cs e m (heap_alloc_new w _)).trans (by simpa using hu)⟩⟩
def stA : Gst := (fontF 0 mId (sNew 2 5).cur.st).2
theorem stA_ext : extF stA [97] = (⟨39322, 0⟩, 0) := by decide +kernel
theorem fontA : (fontF 0 mId (sNew 2 5).cur.st).1 = 0 := by decide +kernel
set_option maxRecDepth 8000 in
set_option maxHeartbeats 1600000 in
theorem ans16_any (w : World) (hN : NamesIn w) : Calls Tryd.prog 24 #[] w fun e w' => e = .returned (.bool true) ∧ Fr Nob w w' := by
  have HN := Lib.hid hN
  clear hN
  have kc := fun (w : World) (C : Array Value) (n c : Nat) => Lib.run_convert_bytes_const (P := Tryd.prog) w 34 5 C n c Tryd.underlying34 Tryd.underlying5
  go_enter Tryd.func24, Tryd.ntmps24
  go_wp2_with fail
  refine (new_gl w 2 5 _ (Fr.refl _ _)).mono ?_
  rintro e w1 ⟨g, rfl, h1⟩
  have H1 := Lib.hid h1
  clear h1
  go_wp2_with fail
  refine (gfont_any g _ _ 0 mId _ H1.out.1 (HN.out.nob H1.out.2)).mono ?_
  rw [fontA]
  rintro e w2 ⟨rfl, ht⟩
  have H2 : Hid (LG w w2 g { (sNew 2 5) with cur := { (sNew 2 5).cur with st := stA } }) := H1.out.to ht
  have HR := Lib.hid (show RowIn (w2.alloc (.cells #[.int .u8 97] 5 (1, 2))) (fun k => k = w2.heap.size) 1 (.slice (some ⟨w2.heap.size, 0, none⟩) 1 1) [(97 : Int)].length (bytesV [97]) from RowIn.litM w2 5 1 #[.int .u8 97] 1 (1, 2) rfl (by decide))
  have H3 := Lib.hid (H2.out.nob ((Fr.refl Nob w2).alloc (.cells #[.int .u8 97] 5 (1, 2))))
  clear ht
  go_wp2_with fail
  refine (extent_any g _ _ _ _ [97] _ H3.out.1 (by exact ⟨by decide, by decide, fun c hc => by cases hc⟩) HR.out (by decide)).mono ?_
  rw [show extF ({ (sNew 2 5) with cur := { (sNew 2 5).cur with st := stA } } : GS).cur.st [97] = (⟨39322, 0⟩, 0) from stA_ext]
  unfold pairV ptV
  rintro e w4 ⟨rfl, hf4⟩
  have HF4 := Lib.hid (H3.out.2.trans0 hf4)
  clear hf4
  go_wp2_with fail
  go_ret
  exact ⟨rfl, HF4.out.alloc _⟩
end Go.Proofs.YtkkejjfmidgciaaDoor
/- Show and Spaced without a canvas or states; the walk of the law ShowNone. -/
namespace Go.Proofs.YtkkejjfmidgciaaDoor
open Go.RowKit
set_option linter.unusedVariables false
set_option linter.unusedSimpArgs false
theorem show_noc (Y : Option Addr) (A : Option Addr) (n c : Nat) (w : World) : Calls Tryd.prog 44 #[.pointer none, .pointer Y, .slice A n c] w fun e w' => e = .returned (.int .i64 21) ∧ Fr Nob w w' := by
  have HF := Lib.hid (Fr.refl Nob w)
  go_enter Tryd.func44, Tryd.ntmps44
  go_wp2_with fail
  all_goals (go_ret; exact ⟨rfl, HF.out⟩)
theorem show_nog (g : Nat) (A : Option Addr) (n c : Nat) (w : World) : Calls Tryd.prog 44 #[.pointer (some ⟨g, 0, none⟩), .pointer none, .slice A n c] w fun e w' => e = .returned (.int .i64 21) ∧ Fr Nob w w' := by
  have HF := Lib.hid (Fr.refl Nob w)
  go_enter Tryd.func44, Tryd.ntmps44
  go_wp2_with fail
  all_goals (go_ret; exact ⟨rfl, HF.out⟩)
theorem spaced_noc (Y : Option Addr) (A : Option Addr) (n c : Nat) (x y x' y' z : Int) (w : World) : Calls Tryd.prog 45 #[.pointer none, .pointer Y, .slice A n c, .agg #[.int .i64 x, .int .i64 y], .agg #[.int .i64 x', .int .i64 y'], .int .i64 z] w fun e w' => e = .returned (.int .i64 21) ∧ Fr Nob w w' := by
  have HF := Lib.hid (((Fr.refl Nob w).alloc (.cells #[.int .i64 x, .int .i64 y] 56)).alloc (.cells #[.int .i64 x', .int .i64 y'] 56))
  go_enter Tryd.func45, Tryd.ntmps45
  go_wp2_with fail
  all_goals (go_ret; exact ⟨rfl, HF.out⟩)
theorem spaced_nog (g : Nat) (A : Option Addr) (n c : Nat) (x y x' y' z : Int) (w : World) : Calls Tryd.prog 45 #[.pointer (some ⟨g, 0, none⟩), .pointer none, .slice A n c, .agg #[.int .i64 x, .int .i64 y], .agg #[.int .i64 x', .int .i64 y'], .int .i64 z] w fun e w' => e = .returned (.int .i64 21) ∧ Fr Nob w w' := by
  have HF := Lib.hid (((Fr.refl Nob w).alloc (.cells #[.int .i64 x, .int .i64 y] 56)).alloc (.cells #[.int .i64 x', .int .i64 y'] 56))
  go_enter Tryd.func45, Tryd.ntmps45
  go_wp2_with fail
  all_goals (go_ret; exact ⟨rfl, HF.out⟩)
set_option maxRecDepth 8000 in
set_option maxHeartbeats 1600000 in
theorem snone_walk (t : T16) (A : Option Addr) (n c : Nat) (w : World) (hN : NamesIn w) (hs : 0 ≤ t.segs ∧ t.segs ≤ 255) : Calls Tryd.prog 9 #[.agg (encT t).toArray, .slice A n c] w fun e w' => e = .returned (.bool true) ∧ Fr Nob w w' := by
  have hfa : Fr Nob w (w.alloc (.cells (encT t).toArray 58)) := (Fr.refl Nob w).alloc _
  have HT := Lib.hid (Blk.new w (encT t).toArray 58)
  have HN := Lib.hid (hN.nob hfa)
  have HFa := Lib.hid hfa
  have HS := Lib.hid hs
  clear hN hfa hs
  go_enter Tryd.func9, Tryd.ntmps9
  go_upto_region 1 with (fail)
  generalize w.alloc (.cells (encT t).toArray 58) = wa at *
  have HWA : Hid (w.heap.size < wa.heap.size) := HT.out.lt
  obtain ⟨tm, tf, tt, tax, tay, tp, td, ts⟩ := t
  obtain ⟨ma, mb, mc, md, me, mf⟩ := tm
  obtain ⟨fa, fb, fc, fd, fe, ff⟩ := tf
  have k0 := HT.out.cell 0
  have k1 := HT.out.cell 1
  have k2 := HT.out.cell 2
  have k3 := HT.out.cell 3
  have k4 := HT.out.cell 4
  have k5 := HT.out.cell 5
  have k6 := HT.out.cell 6
  have k7 := HT.out.cell 7
  have k8 := HT.out.cell 8
  have k9 := HT.out.cell 9
  have k10 := HT.out.cell 10
  have k11 := HT.out.cell 11
  have k12 := HT.out.cell 12
  have k13 := HT.out.cell 13
  have k14 := HT.out.cell 14
  have k15 := HT.out.cell 15
  have k16 := HT.out.cell 16
  have k17 := HT.out.cell 17
  simp only [encT, List.getElem?_toArray, List.getElem?_cons_succ, List.getElem?_cons_zero] at k0 k1 k2 k3 k4 k5 k6 k7 k8 k9 k10 k11 k12 k13 k14 k15 k16 k17
  go_wp2_with fail
  refine (open_any ⟨⟨ma, mb, mc, md, me, mf⟩, ⟨fa, fb, fc, fd, fe, ff⟩, tt, tax, tay, tp, td, ts⟩ _ HN.out HS.out).mono ?_
  unfold rV canV
  rintro e w1 ⟨g, c', F, S, lv, rfl, ho⟩
  have HO := Lib.hid ho
  clear ho k0 k1 k2 k3 k4 k5 k6 k7 k8 k9 k10 k11 k12 k13 k14 k15 k16 k17
  obtain ⟨s, hs⟩ : ∃ s, openS ⟨⟨ma, mb, mc, md, me, mf⟩, ⟨fa, fb, fc, fd, fe, ff⟩, tt, tax, tay, tp, td, ts⟩ = s := ⟨_, rfl⟩
  obtain ⟨nn, hnn⟩ : ∃ nn, tN ⟨⟨ma, mb, mc, md, me, mf⟩, ⟨fa, fb, fc, fd, fe, ff⟩, tt, tax, tay, tp, td, ts⟩ = nn := ⟨_, rfl⟩
  simp only [hs, hnn] at HO ⊢
  clear hs hnn
  have HF1 := Lib.hid (HFa.out.trans0 HO.out.f)
  have HN1 := Lib.hid (HN.out.nob HO.out.f)
  have HT1 := Lib.hid (HT.out.nob HO.out.f)
  obtain ⟨Al, cl, hlv, _⟩ := HO.out.row.form
  subst hlv
  obtain ⟨ln, hln⟩ : ∃ ln, s.cur.p.list.length = ln := ⟨_, rfl⟩
  rw [hln]
  clear hln HO HN HS
  have HZ := Lib.hid ((Blk.new w1 #[.int .i64 0, .int .i64 0, .int .i64 0, .int .i64 0, .int .i64 0, .int .i64 0, .int .i64 0, .int .i64 0, .int .i64 0, .int .i64 0, .int .i64 0, .int .i64 0, .int .i64 0, .int .i64 0, .int .i64 0, .slice none 0 0, .int .i64 0, .int .i64 0, .int .i64 0, .int .i64 0, .int .i64 0, .int .i64 0, .int .i64 0, .int .i64 0, .slice none 0 0, .bool false, .int .i64 0, .slice none 0 0] 63).alloc (.cells #[.int .i64 0, .int .i64 0, .slice none 0 0, .int .i64 0, .slice none 0 0] 65))
  have HY := Lib.hid (Blk.new1 w1 (.cells #[.int .i64 0, .int .i64 0, .int .i64 0, .int .i64 0, .int .i64 0, .int .i64 0, .int .i64 0, .int .i64 0, .int .i64 0, .int .i64 0, .int .i64 0, .int .i64 0, .int .i64 0, .int .i64 0, .int .i64 0, .slice none 0 0, .int .i64 0, .int .i64 0, .int .i64 0, .int .i64 0, .int .i64 0, .int .i64 0, .int .i64 0, .int .i64 0, .slice none 0 0, .bool false, .int .i64 0, .slice none 0 0] 63) #[.int .i64 0, .int .i64 0, .slice none 0 0, .int .i64 0, .slice none 0 0] 65)
  have HFy := Lib.hid (((Fr.refl (fun k => k = w1.heap.size ∨ k = w1.heap.size + 1) w1).alloc (.cells #[.int .i64 0, .int .i64 0, .int .i64 0, .int .i64 0, .int .i64 0, .int .i64 0, .int .i64 0, .int .i64 0, .int .i64 0, .int .i64 0, .int .i64 0, .int .i64 0, .int .i64 0, .int .i64 0, .int .i64 0, .slice none 0 0, .int .i64 0, .int .i64 0, .int .i64 0, .int .i64 0, .int .i64 0, .int .i64 0, .int .i64 0, .int .i64 0, .slice none 0 0, .bool false, .int .i64 0, .slice none 0 0] 63)).alloc (.cells #[.int .i64 0, .int .i64 0, .slice none 0 0, .int .i64 0, .slice none 0 0] 65))
  go_wp2_with (refine wpList_putAt rfl 63 (.tmp 7) (.tmp 17) rfl w1.heap.size 0 (encR s.cur.st nilV nilV nn (.slice Al ln cl)) (by rfl) (by rfl) 63 _ HZ.out (Nat.le_refl 28) sizeR (encR_one _ _ _ _ _ ⟨_, _, _, rfl⟩ ⟨_, _, _, rfl⟩ ⟨_, _, _, rfl⟩) ?_)
  intro w2 hb2 hf2
  have HF2 := Lib.hid (HFy.out.trans hf2 fun k hk => .inl (.inl hk))
  have HY2 := Lib.hid (HY.out.fr hf2 (by omega))
  clear hb2 hf2
  go_wp2_with (refine wpList_putAt rfl 65 (.tmp 8) (.tmp 18) rfl (w1.heap.size + 1) 0 [.int .i64 6553600, .int .i64 6553600, .slice none 0 0, .int .i64 2, .slice none 0 0] (by rfl) (by rfl) 65 _ HY2.out (Nat.le_refl 5) sizeRC (by intro u hu; simp at hu; rcases hu with rfl | rfl | rfl | rfl | rfl <;> rfl) ?_)
  intro w3 hb3 hf3
  have HF3n : Hid (Fr Nob w1 w3) := (show Fr Nob w1 w3 from by
    have h := HF2.out.trans hf3 fun k hk => .inl (.inr hk)
    exact ⟨h.os, h.tape, h.output, h.size, fun k hk _ => h.block k hk (by omega)⟩)
  have HF3 := Lib.hid (HF1.out.trans0 HF3n.out)
  have HN3 := Lib.hid (HN1.out.nob HF3n.out)
  have HT3 := Lib.hid (HT1.out.nob HF3n.out)
  clear hb3 hf3
  go_wp2_with fail
  refine (extent_none _ _ _ _).mono ?_
  unfold pairV ptV
  rintro e w4 ⟨rfl, hf4⟩
  have HF4 := Lib.hid ((HF3.out.trans0 hf4).alloc (.cells #[.int .i64 oo.x, .int .i64 oo.y] 56))
  have HN4 := Lib.hid ((HN3.out.nob hf4).nob ((Fr.refl Nob w4).alloc (.cells #[.int .i64 oo.x, .int .i64 oo.y] 56)))
  have HT4 := Lib.hid ((HT3.out.nob hf4).alloc (.cells #[.int .i64 oo.x, .int .i64 oo.y] 56))
  clear hf4
  go_wp2_with fail
  refine (ans16_any _ HN4.out).mono ?_
  rintro e w5 ⟨rfl, hf5⟩
  have HF5 := Lib.hid (HF4.out.trans0 hf5)
  have HT5 := Lib.hid (HT4.out.nob hf5)
  clear hf5
  go_wp2_with fail
  refine (show_noc _ _ _ _ _).mono ?_
  rintro e w6 ⟨rfl, hf6⟩
  have HF6 := Lib.hid (HF5.out.trans0 hf6)
  have HT6 := Lib.hid (HT5.out.nob hf6)
  clear hf6
  go_wp2_with fail
  refine (show_nog _ _ _ _ _).mono ?_
  rintro e w7 ⟨rfl, hf7⟩
  have HF7 := Lib.hid (HF6.out.trans0 hf7)
  have HT7 := Lib.hid (HT6.out.nob hf7)
  clear hf7
  have k13 : w7.cell? ⟨w.heap.size, 13, none⟩ = some (.int .i64 tax) := HT7.out.cell 13
  have k14 : w7.cell? ⟨w.heap.size, 14, none⟩ = some (.int .i64 tay) := HT7.out.cell 14
  go_wp2_with fail
  refine (spaced_noc _ _ _ _ _ _ _ _ _ _).mono ?_
  rintro e w8 ⟨rfl, hf8⟩
  have HF8 := Lib.hid (HF7.out.trans0 hf8)
  have HT8 := Lib.hid (HT7.out.nob hf8)
  clear hf8 k13 k14
  have k13 : w8.cell? ⟨w.heap.size, 13, none⟩ = some (.int .i64 tax) := HT8.out.cell 13
  have k14 : w8.cell? ⟨w.heap.size, 14, none⟩ = some (.int .i64 tay) := HT8.out.cell 14
  go_wp2_with fail
  refine (spaced_nog _ _ _ _ _ _ _ _ _ _).mono ?_
  rintro e w9 ⟨rfl, hf9⟩
  have HF9 := Lib.hid (HF8.out.trans0 hf9)
  clear hf9 k13 k14
  go_wp2_with fail
  go_ret
  exact ⟨rfl, HF9.out⟩
end Go.Proofs.YtkkejjfmidgciaaDoor
/- Reading of chapter 16's Set. -/
namespace Go.Proofs.YtkkejjfmidgciaaDoor
open Go.ChangeShapes Go.WideShapes Go.ChangeAt Go.WideMaps Go.WideElems Go.RowKit
set_option linter.unusedVariables false
set_option linter.unusedSimpArgs false
theorem list18 {cs : List Value} (h : cs.length = 18) : ∃ a b c d e f g h i j k l m n o p q r, cs = [a, b, c, d, e, f, g, h, i, j, k, l, m, n, o, p, q, r] := by
  match cs, h with
  | [a, b, c, d, e, f, g, h, i, j, k, l, m, n, o, p, q, r], _ => exact ⟨a, b, c, d, e, f, g, h, i, j, k, l, m, n, o, p, q, r, rfl⟩
theorem cells_set : Tryd.prog.cellsOf 58 = 18 := by kernel_rfl
theorem cells_u8 : Tryd.prog.cellsOf 5 = 1 := by kernel_rfl
theorem cells_bool : Tryd.prog.cellsOf 4 = 1 := by kernel_rfl
theorem read_set {H : Type} {enc' : TypeId × Value → H} {w : World} {base : Nat} {spare : Nat → Bool} {held : Bool} (n : Nat) (cs : List Value) (y : DataW H × List MemPlace)
    (h : DataW.trod enc' Tryd.prog w base spare held n 58 cs = some y) : ∃ t : T16, cs = encT t ∧ 0 ≤ t.segs ∧ t.segs ≤ 255 := by
  obtain ⟨xs, n, _, rfl, hl, hlen, hf⟩ := DataW.trod_struct Tryd.underlying58 h
  rw [cells_set] at hl
  have hx : xs.length = 7 := hlen
  have h0 : DataW.trod enc' Tryd.prog w base spare held n 33 ((cs.drop 0).take (Tryd.prog.cellsOf 33)) = xs[0]? := hf 0 _ rfl
  have h1 : DataW.trod enc' Tryd.prog w base spare held n 33 ((cs.drop 6).take (Tryd.prog.cellsOf 33)) = xs[1]? := hf 1 _ rfl
  obtain ⟨z2, h2, _⟩ := field_int (hf 2 _ rfl) (by omega) Tryd.underlying3 cells3
  have h3 : DataW.trod enc' Tryd.prog w base spare held n 56 ((cs.drop 13).take (Tryd.prog.cellsOf 56)) = xs[3]? := hf 3 _ rfl
  obtain ⟨z4, h4⟩ := field_bool (hf 4 _ rfl) (by omega) Tryd.underlying4 cells_bool
  obtain ⟨z5, h5⟩ := field_bool (hf 5 _ rfl) (by omega) Tryd.underlying4 cells_bool
  obtain ⟨z6, h6, hw⟩ := field_int (hf 6 _ rfl) (by omega) Tryd.underlying5 cells_u8
  rw [cellsM6] at h0 h1
  rw [cells23] at h3
  obtain ⟨c0, c1, c2, c3, c4, c5, c6, c7, c8, c9, c10, c11, c12, c13, c14, c15, c16, c17, rfl⟩ := list18 hl
  rw [List.getElem?_eq_getElem (by omega)] at h0 h1 h3
  obtain ⟨m, hm⟩ := read_m6 (cs := [c0, c1, c2, c3, c4, c5]) h0
  obtain ⟨m', hm'⟩ := read_m6 (cs := [c6, c7, c8, c9, c10, c11]) h1
  obtain ⟨p, hp⟩ := read_pt _ [c13, c14] _ h3
  simp at h2 h4 h5 h6
  simp [encM] at hm hm'
  simp [encP] at hp
  have hb := bounds_u8 hw
  exact ⟨⟨m, m', z2, p.x, p.y, z4, z5, z6⟩, by simp [encT, h2, h4, h5, h6, hm, hm', hp], hb.1, hb.2⟩
end Go.Proofs.YtkkejjfmidgciaaDoor
