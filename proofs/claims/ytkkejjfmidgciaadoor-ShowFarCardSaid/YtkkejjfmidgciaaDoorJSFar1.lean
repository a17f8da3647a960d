/-
  Texts joined in build order: 'agree' (chapter 16) where nothing is painted. The walk of the law ShowFar.
-/
import Derived.Test.YtkkejjfmidgciaaDoorJSNone15
/- 'agree' (chapter 16) where nothing is painted. -/
namespace Go.Proofs.YtkkejjfmidgciaaDoor
open Go.RowKit
set_option linter.unusedVariables false
set_option linter.unusedSimpArgs false
theorem item_zero : (Tryd.prog.info? 36).map (fun i => i.zero.isSome) = some true := by kernel_rfl
theorem make_items : ∃ CS, ∀ w : World, (Instr.makeSlice 22 (.int .i64 0) (.int .i64 0)).run Tryd.prog w = .ok (.slice (some ⟨w.heap.size, 0, none⟩) 0 0) (w.alloc (.cells CS 36)) := by
  have h := item_zero
  cases hi : Tryd.prog.info? 36 with
  | none => rw [hi] at h; cases h
  | some i =>
    rw [hi] at h
    simp only [Option.map_some, Option.some.injEq] at h
    obtain ⟨z, hz⟩ := Option.isSome_iff_exists.1 h
    exact ⟨_, fun w => run_make w 22 36 i z Tryd.underlying22 hi hz .i64 .i64 0 0 (by omega) (by omega) (by omega) (by omega)⟩
set_option maxRecDepth 16000 in
set_option maxHeartbeats 1600000 in
theorem owns_none (w : World) : Calls Tryd.prog 57 #[.slice none 0 0] w fun e w' => ∃ A c, e = .returned (.slice A 0 c) ∧ Fr Nob w w' := by
  obtain ⟨CS, hmk⟩ := make_items
  have HF : Hid (∀ wr, Fr Nob (w.alloc (.cells CS 36)) wr → Fr Nob w wr) := fun wr hf => ((Fr.refl Nob w).alloc _).trans0 hf
  go_enter Tryd.func57, Tryd.ntmps57
  go_wp2_with fail
  go_loopw [3, 11] (fun o q wr => o = .slice (some ⟨w.heap.size, 0, none⟩) 0 0 ∧ q = .int .i64 0 ∧ wr = w.alloc (.cells CS 36)) (fun _ _ _ => 0)
  case atStart => exact ⟨rfl, rfl, rfl⟩
  case round =>
    obtain ⟨rfl, rfl, rfl⟩ := hrel
    go_wp2_with fail
    go_ret
    exact ⟨_, _, rfl, HF.out _ (Fr.refl _ _)⟩
theorem items_none (c : Nat) (a b m : Int) (w : World) (h : Blk w c #[.int .i64 a, .int .i64 b, .slice none 0 0, .int .i64 m, .slice none 0 0] 103) : Calls Tryd.prog 20 #[.pointer (some ⟨c, 0, none⟩)] w fun e w' => ∃ A k, e = .returned (.slice A 0 k) ∧ Fr Nob w w' := by
  have k2 : w.cell? ⟨c, 2, none⟩ = some (.slice none 0 0) := h.cell 2
  clear h
  go_enter Tryd.func20, Tryd.ntmps20
  go_wp2_with fail
  refine (owns_none _).mono ?_
  rintro e w1 ⟨A, k, rfl, hf⟩
  have HF := Lib.hid hf
  clear hf k2
  go_wp2_with fail
  go_ret
  exact ⟨A, k, rfl, HF.out⟩
theorem ritems_none (A B : Option Addr) (c d : Nat) (w : World) : Calls Tryd.prog 46 #[.slice A 0 c, .slice B 0 d] w fun e w' => e = .returned (.bool true) ∧ Fr Nob w w' := by
  go_enter Tryd.func46, Tryd.ntmps46
  go_wp2
  go_loopw [5] (fun q wr => q = .int .i64 0 ∧ wr = w) (fun _ _ => 0)
  case atStart => exact ⟨rfl, rfl⟩
  case round =>
    obtain ⟨rfl, rfl⟩ := hrel
    go_wp2
    go_ret
    exact ⟨rfl, Fr.refl _ _⟩
set_option maxRecDepth 8000 in
set_option maxHeartbeats 1600000 in
theorem agree_any (w0 w : World) (g c : Nat) (F S : Nat → Prop) (s : GS) (lv : Value) (n : Int) (hpb : PB s.cur.p) (h : OpenR w0 w g c F S s lv) :
    Calls Tryd.prog 28 #[.pointer (some ⟨g, 0, none⟩), .pointer (some ⟨c, 0, none⟩), rV s.cur.st nilV nilV n lv, canV] w fun e w' => e = .returned (.bool true) ∧ Fr Nob w w' := by
  obtain ⟨Al, cl, hlv, _⟩ := h.row.form
  subst hlv
  obtain ⟨ln, hln⟩ : ∃ ln, s.cur.p.list.length = ln := ⟨_, rfl⟩
  have hfa : Fr Nob w ((w.alloc (.cells (encR s.cur.st nilV nilV n (.slice Al ln cl)).toArray 63)).alloc (.cells #[.int .i64 6553600, .int .i64 6553600, .slice none 0 0, .int .i64 2, .slice none 0 0] 65)) := ((Fr.refl Nob w).alloc _).alloc _
  have HLN : Hid (∀ {wz : World}, RowIn wz S 7 (.slice Al ln cl) ln (encSs s.cur.p.list) → RowIn wz S 7 (.slice Al ln cl) s.cur.p.list.length (encSs s.cur.p.list)) := fun hh => by rw [hln]; exact hh
  have hh := h.nob hfa
  have HRW : Hid (RowIn ((w.alloc (.cells (encR s.cur.st nilV nilV n (.slice Al ln cl)).toArray 63)).alloc (.cells #[.int .i64 6553600, .int .i64 6553600, .slice none 0 0, .int .i64 2, .slice none 0 0] 65)) S 7 (.slice Al ln cl) ln (encSs s.cur.p.list)) := by
    have := hh.row
    rw [hln] at this
    exact this
  have HCB := Lib.hid hh.cb
  obtain ⟨lab, x1, sv1, xs1, hx1⟩ := hh.gs
  have HX1 := Lib.hid hx1
  have HPB := Lib.hid hpb
  have HFa := Lib.hid hfa
  have HBR := Lib.hid ((Blk.new w (encR s.cur.st nilV nilV n (.slice Al ln cl)).toArray 63).alloc (.cells #[.int .i64 6553600, .int .i64 6553600, .slice none 0 0, .int .i64 2, .slice none 0 0] 65))
  have HBC := Lib.hid (Blk.new1 w (.cells (encR s.cur.st nilV nilV n (.slice Al ln cl)).toArray 63) #[.int .i64 6553600, .int .i64 6553600, .slice none 0 0, .int .i64 2, .slice none 0 0] 65)
  rw [hln]
  clear h hfa hln hh hx1 hpb
  unfold rV canV
  go_enter Tryd.func28, Tryd.ntmps28
  go_upto_region 1 with (fail)
  obtain ⟨wb, hwb⟩ : ∃ wb, (w.alloc (.cells (encR s.cur.st nilV nilV n (.slice Al ln cl)).toArray 63)).alloc (.cells #[.int .i64 6553600, .int .i64 6553600, .slice none 0 0, .int .i64 2, .slice none 0 0] 65) = wb := ⟨_, rfl⟩
  rw [hwb] at HRW HCB HX1 HFa HBR HBC
  have HSW : Hid (∀ w', Fr Nob wb w' → w'.cell? ⟨w.heap.size, 27, none⟩ = some (.slice Al ln cl) ∧ w'.cell? ⟨w.heap.size + 1, 2, none⟩ = some (.slice none 0 0)) := fun w' hw' => ⟨(HBR.out.nob hw').cell 27, (HBC.out.nob hw').cell 2⟩
  first | rw [hwb] | (have hwb' := hwb; unfold encR at hwb'; rw [hwb']; clear hwb')
  clear hwb
  go_wp2_with fail
  refine wp_region_held_drew (S := fun w' => w'.cell? ⟨w.heap.size, 27, none⟩ = some (.slice Al ln cl) ∧ w'.cell? ⟨w.heap.size + 1, 2, none⟩ = some (.slice none 0 0)) (by kernel_rfl) (HSW.out _ (Fr.drew (Fr.refl Nob wb))) (fun hH => ?_)
  refine wpAnyH_take (i := 0) (v := ?vq1) rfl (by kernel_rfl) (by kernel_rfl) (by kernel_rfl) (fun _ _ _ h => h) (Or.inl ⟨by rfl, ?hq1⟩) hH ?rq1
  case hq1 => (intro w hSw; (try dsimp only at hSw); go_simp; (try with_reducible rfl))
  simp only [Act.put, List.getElem_toArray, List.getElem_cons_succ, List.getElem_cons_zero, List.setIfInBounds_toArray, List.set_cons_zero, List.set_cons_succ]
  refine wpAnyH_take (i := 3) (v := ?vq2) rfl (by kernel_rfl) (by kernel_rfl) (by kernel_rfl) (fun _ _ _ h => h) (Or.inl ⟨by rfl, ?hq2⟩) hH ?rq2
  case hq2 => (intro w hSw; (try dsimp only at hSw); go_simp; (try with_reducible rfl))
  simp only [Act.put, List.getElem_toArray, List.getElem_cons_succ, List.getElem_cons_zero, List.setIfInBounds_toArray, List.set_cons_zero, List.set_cons_succ]
  refine wpAnyH_take (i := 4) (v := ?vq3) rfl (by kernel_rfl) (by kernel_rfl) (by kernel_rfl) (fun _ _ _ h => h) (Or.inl ⟨by rfl, ?hq3⟩) hH ?rq3
  case hq3 => (intro w hSw; (try dsimp only at hSw); go_simp; (try with_reducible rfl))
  simp only [Act.put, List.getElem_toArray, List.getElem_cons_succ, List.getElem_cons_zero, List.setIfInBounds_toArray, List.set_cons_zero, List.set_cons_succ]
  refine wpAnyH_take (i := 5) (v := ?vq4) rfl (by kernel_rfl) (by kernel_rfl) (by kernel_rfl) (fun _ _ _ h => h) (Or.inl ⟨by rfl, ?hq4⟩) hH ?rq4
  case hq4 => (intro w hSw; (try dsimp only at hSw); obtain ⟨hSw, _⟩ := hSw; go_simp; (try with_reducible rfl))
  simp only [Act.put, List.getElem_toArray, List.getElem_cons_succ, List.getElem_cons_zero, List.setIfInBounds_toArray, List.set_cons_zero, List.set_cons_succ]
  refine held_oneG 1 rfl (by kernel_rfl) (by rfl) fun K hK => ?_
  replace hK := Lib.hid hK
  clear hH
  go_simp
  refine (gpath_any g _ _ _ lab x1 sv1 xs1 (HX1.out.nob (T := Nob) (show Fr Nob wb _ from (by repeat (first | exact Fr.refl _ _ | refine Fr.alloc ?_ _ | refine Fr.drew ?_))) fun _ _ hh => hh)).mono ?_
  rintro e w9 ⟨rfl, rfl⟩
  dsimp only
  have hH := HSW.out _ (show Fr Nob wb _ from (by repeat (first | exact Fr.refl _ _ | refine Fr.alloc ?_ _ | refine Fr.drew ?_)))
  refine hK.out _ _ hH ?_
  clear hK K
  refine held_oneG 2 rfl (by kernel_rfl) (by rfl) fun K hK => ?_
  replace hK := Lib.hid hK
  clear hH
  go_simp
  refine (seg_any x1.pg x1.pv s.cur.p _ ((HX1.out.nob (T := Nob) (show Fr Nob wb _ from (by repeat (first | exact Fr.refl _ _ | refine Fr.alloc ?_ _ | refine Fr.drew ?_))) fun _ _ hh => hh).c.p) HPB.out).mono ?_
  rintro e w11 ⟨vo, rfl, ho, hf11, hn11⟩
  have N3 := Lib.hid (show Fr Nob wb w11 from Fr.trans0 (by repeat (first | exact Fr.refl _ _ | refine Fr.alloc ?_ _ | refine Fr.drew ?_)) hf11)
  have HO11 := Lib.hid ho.row
  clear ho hf11 hn11
  dsimp only
  have hH := HSW.out w11 N3.out
  refine hK.out _ _ hH ?_
  clear hK K
  refine held_oneG 6 rfl (by kernel_rfl) (by rfl) fun K hK => ?_
  replace hK := Lib.hid hK
  clear hH
  go_simp
  refine (same_any _ _ s.cur.p.list s.cur.p.list _ _ _ (HO11.out.nob (by repeat (first | exact Fr.refl _ _ | refine Fr.alloc ?_ _ | refine Fr.drew ?_))) (HLN.out (HRW.out.nob (show Fr Nob wb _ from (by repeat (first | exact Fr.refl _ _ | refine Fr.alloc ?_ _ | refine Fr.drew ?_ | exact N3.out)))))).mono ?_
  rw [decide_eq_true (rfl : s.cur.p.list = s.cur.p.list)]
  rintro e w12 ⟨rfl, hf12⟩
  have N4 := Lib.hid (show Fr Nob wb w12 from Fr.trans0 (by repeat (first | exact Fr.refl _ _ | refine Fr.alloc ?_ _ | refine Fr.drew ?_ | exact N3.out)) hf12)
  clear hf12
  dsimp only
  have hH := HSW.out w12 N4.out
  refine hK.out _ _ hH ?_
  clear hK K
  refine wpAnyH_take (i := 7) (v := ?vq8) rfl (by kernel_rfl) (by kernel_rfl) (by kernel_rfl) (fun _ _ _ h => h) (Or.inl ⟨by rfl, ?hq8⟩) hH ?rq8
  case hq8 => (intro w hSw; (try dsimp only at hSw); go_simp; (try with_reducible rfl))
  simp only [Act.put, List.getElem_toArray, List.getElem_cons_succ, List.getElem_cons_zero, List.setIfInBounds_toArray, List.set_cons_zero, List.set_cons_succ]
  refine wpAnyH_take (i := 8) (v := ?vq9) rfl (by kernel_rfl) (by kernel_rfl) (by kernel_rfl) (fun _ _ _ h => h) (Or.inl ⟨by rfl, ?hq9⟩) hH ?rq9
  case hq9 => (intro w hSw; (try dsimp only at hSw); go_simp; (try with_reducible rfl))
  simp only [Act.put, List.getElem_toArray, List.getElem_cons_succ, List.getElem_cons_zero, List.setIfInBounds_toArray, List.set_cons_zero, List.set_cons_succ]
  refine wpAnyH_take (i := 10) (v := ?vq10) rfl (by kernel_rfl) (by kernel_rfl) (by kernel_rfl) (fun _ _ _ h => h) (Or.inl ⟨by rfl, ?hq10⟩) hH ?rq10
  case hq10 => (intro w hSw; (try dsimp only at hSw); go_simp; (try with_reducible rfl))
  simp only [Act.put, List.getElem_toArray, List.getElem_cons_succ, List.getElem_cons_zero, List.setIfInBounds_toArray, List.set_cons_zero, List.set_cons_succ]
  refine wpAnyH_take (i := 11) (v := ?vq11) rfl (by kernel_rfl) (by kernel_rfl) (by kernel_rfl) (fun _ _ _ h => h) (Or.inl ⟨by rfl, ?hq11⟩) hH ?rq11
  case hq11 => (intro w hSw; (try dsimp only at hSw); go_simp; (try with_reducible rfl))
  simp only [Act.put, List.getElem_toArray, List.getElem_cons_succ, List.getElem_cons_zero, List.setIfInBounds_toArray, List.set_cons_zero, List.set_cons_succ]
  refine wpAnyH_take (i := 12) (v := ?vq12) rfl (by kernel_rfl) (by kernel_rfl) (by kernel_rfl) (fun _ _ _ h => h) (Or.inl ⟨by rfl, ?hq12⟩) hH ?rq12
  case hq12 => (intro w hSw; (try dsimp only at hSw); obtain ⟨_, hSw⟩ := hSw; go_simp; (try with_reducible rfl))
  simp only [Act.put, List.getElem_toArray, List.getElem_cons_succ, List.getElem_cons_zero, List.setIfInBounds_toArray, List.set_cons_zero, List.set_cons_succ]
  refine held_oneG 9 rfl (by kernel_rfl) (by rfl) fun K hK => ?_
  replace hK := Lib.hid hK
  clear hH
  go_simp
  refine (items_none c _ _ _ _ (HCB.out.nob (show Fr Nob wb _ from (by repeat (first | exact Fr.refl _ _ | refine Fr.alloc ?_ _ | refine Fr.drew ?_ | exact N4.out))))).mono ?_
  rintro e w13 ⟨Ai, ci, rfl, hf13⟩
  have N5 := Lib.hid (show Fr Nob wb w13 from Fr.trans0 (by repeat (first | exact Fr.refl _ _ | refine Fr.alloc ?_ _ | refine Fr.drew ?_ | exact N4.out)) hf13)
  clear hf13
  dsimp only
  have hH := HSW.out w13 N5.out
  refine hK.out _ _ hH ?_
  clear hK K
  refine held_oneG 13 rfl (by kernel_rfl) (by rfl) fun K hK => ?_
  replace hK := Lib.hid hK
  clear hH
  go_simp
  refine (ritems_none _ _ _ _ _).mono ?_
  rintro e w14 ⟨rfl, hf14⟩
  have N6 := Lib.hid (show Fr Nob wb w14 from Fr.trans0 (by repeat (first | exact Fr.refl _ _ | refine Fr.alloc ?_ _ | refine Fr.drew ?_ | exact N5.out)) hf14)
  clear hf14
  dsimp only
  have hH := HSW.out w14 N6.out
  refine hK.out _ _ hH ?_
  clear hK K
  refine wpAnyH_take (i := 14) (v := ?vq15) rfl (by kernel_rfl) (by kernel_rfl) (by kernel_rfl) (fun _ _ _ h => h) (Or.inl ⟨by rfl, ?hq15⟩) hH ?rq15
  case hq15 => (intro w hSw; (try dsimp only at hSw); go_simp; (try with_reducible rfl))
  simp only [Act.put, List.getElem_toArray, List.getElem_cons_succ, List.getElem_cons_zero, List.setIfInBounds_toArray, List.set_cons_zero, List.set_cons_succ]
  refine wpAnyH_take (i := 15) (v := ?vq16) rfl (by kernel_rfl) (by kernel_rfl) (by kernel_rfl) (fun _ _ _ h => h) (Or.inl ⟨by rfl, ?hq16⟩) hH ?rq16
  case hq16 => (intro w hSw; (try dsimp only at hSw); go_simp; (try with_reducible rfl))
  simp only [Act.put, List.getElem_toArray, List.getElem_cons_succ, List.getElem_cons_zero, List.setIfInBounds_toArray, List.set_cons_zero, List.set_cons_succ]
  refine wpAnyH_done (by kernel_rfl) ?_ _
  clear hH
  go_wp2_with fail
  go_ret
  exact ⟨rfl, HFa.out.trans0 N6.out⟩
end Go.Proofs.YtkkejjfmidgciaaDoor
/- The walk of the law ShowFar. -/
namespace Go.Proofs.YtkkejjfmidgciaaDoor
open Go.RowKit
set_option linter.unusedVariables false
set_option linter.unusedSimpArgs false
theorem sizeT16 : (Tryd.prog.info? 58).map (·.size) = some 18 := by kernel_rfl
theorem far_long (t : T16) (A : Option Addr) (n c : Nat) (w : World) (hN : NamesIn w) (hl : 3000 < n) : Calls Tryd.prog 5 #[.agg (encT t).toArray, .slice A n c] w fun e w' => e = .returned (.bool true) ∧ Fr Nob w w' := by
  have hfa : Fr Nob w (w.alloc (.cells (encT t).toArray 58)) := (Fr.refl Nob w).alloc _
  have HN := Lib.hid (hN.nob hfa)
  have HFa := Lib.hid hfa
  clear hN hfa
  have hl' : (3000 : Int) < (n : Int) := by omega
  go_enter Tryd.func5, Tryd.ntmps5
  go_wp2_with fail
  refine (ans16_any _ HN.out).mono ?_
  rintro e w5 ⟨rfl, hf5⟩
  have HF5 := Lib.hid (HFa.out.trans0 hf5)
  clear hf5
  go_wp2_with fail
  go_ret
  exact ⟨rfl, HF5.out⟩
theorem wpList_getAtG {P : Program} {ops : Array Oper} {rest : List Oper} {op : Oper} {a : Act} {w : World} {Q : Exit → Act → World → Prop} (hg : Region.wanted op (yielded ops a.tmps) = true) (ty : TypeId) (x : Operand) (ho : op.op = .load ty x)
    (b o : Nat) (hx : a.eval x = .pointer (some ⟨b, o, none⟩)) (cs : List Value) (d : TypeDesc) (hc : w.rangeAt b o cs)
    (hu : P.underlying ty = some d) (hd : d.isRow = true) (hi : (P.info? ty).map (·.size) = some cs.length)
    (h : wpList P ops Q rest (a.put op.dst (.agg cs.toArray)) w) : wpList P ops Q (op :: rest) a w := by
  unfold wpList
  rw [if_pos hg]
  exact .inl (wp_load_mid ty x ho b o hx cs d hc hu hd hi h)
theorem infoU8 : (Tryd.prog.info? 5).map (fun i => (i.zero, i.size, i.bytes)) = some (some (.int .u8 0), 1, 1) := by kernel_rfl
set_option maxRecDepth 8000 in
set_option maxHeartbeats 1600000 in
theorem far_walk (t : T16) (v : Value) (l : List Int) (S0 : Nat → Prop) (w : World) (hN : NamesIn w) (hs : 0 ≤ t.segs ∧ t.segs ≤ 255) (hr : RowIn w S0 1 v l.length (bytesV l)) (hl : l.length ≤ 3000) : Calls Tryd.prog 5 #[.agg (encT t).toArray, v] w fun e w' => e = .returned (.bool true) ∧ Fr Nob w w' := by
  obtain ⟨i8, hi8, hz8, hs8, hb8⟩ := info_parts infoU8
  have HI8 := Lib.hid hi8
  have HZ8 := Lib.hid hz8
  have HS8 := Lib.hid hs8
  have HB8 := Lib.hid hb8
  clear hi8 hz8 hs8 hb8
  have hfa : Fr Nob w (w.alloc (.cells (encT t).toArray 58)) := (Fr.refl Nob w).alloc _
  obtain ⟨A, c, rfl, _⟩ := hr.form
  obtain ⟨ln, hln⟩ : ∃ ln, l.length = ln := ⟨_, rfl⟩
  have HRW := Lib.hid (hr.nob hfa)
  have HLN := Lib.hid hln
  have HT := Lib.hid (Blk.new w (encT t).toArray 58)
  have HN := Lib.hid (hN.nob hfa)
  have HFa := Lib.hid hfa
  have HS := Lib.hid hs
  have HSB := Lib.hid (SB.openS t hs)
  have hl' : ¬ (3000 : Int) < (ln : Int) := by omega
  rw [hln]
  rw [hln] at HRW hl
  have HL := Lib.hid hl
  clear hN hfa hs hr hl hln
  go_enter Tryd.func5, Tryd.ntmps5
  go_upto_region 3 with (fail)
  obtain ⟨wa, hwa⟩ : ∃ wa, w.alloc (.cells (encT t).toArray 58) = wa := ⟨_, rfl⟩
  rw [hwa] at HRW HT HN HFa
  rw [hwa]
  clear hwa
  clear hl'
  have HWA : Hid (w.heap.size < wa.heap.size) := Lib.hid HT.out.lt
  go_wp2_with (refine wpList_getAt rfl 58 (.tmp 2) rfl w.heap.size 0 rfl (encT t) _ (HT.out.range 0 (encT t) rfl) Tryd.underlying58 rfl sizeT16 ?_)
  go_wp2_with fail
  refine (open_any t _ HN.out HS.out).mono ?_
  unfold rV canV
  rintro e w1 ⟨g, c', F, S, lv, rfl, ho⟩
  have HO := Lib.hid ho
  clear ho
  obtain ⟨s, hs⟩ : ∃ s, openS t = s := ⟨_, rfl⟩
  obtain ⟨nn, hnn⟩ : ∃ nn, tN t = nn := ⟨_, rfl⟩
  simp only [hs] at HSB
  simp only [hs, hnn] at HO ⊢
  clear hs hnn
  have HF1 := Lib.hid (HFa.out.trans0 HO.out.f)
  have HN1 := Lib.hid (HN.out.nob HO.out.f)
  have HRW1 := Lib.hid (HRW.out.nob HO.out.f)
  clear HN HS HT HRW
  obtain ⟨Al, cl, hlv, _⟩ := HO.out.row.form
  subst hlv
  obtain ⟨sn, hsn⟩ : ∃ sn, s.cur.p.list.length = sn := ⟨_, rfl⟩
  rw [hsn]
  have HSN := Lib.hid hsn
  clear hsn
  have HZ := Lib.hid ((Blk.new w1 #[.int .i64 0, .int .i64 0, .int .i64 0, .int .i64 0, .int .i64 0, .int .i64 0, .int .i64 0, .int .i64 0, .int .i64 0, .int .i64 0, .int .i64 0, .int .i64 0, .int .i64 0, .int .i64 0, .int .i64 0, .slice none 0 0, .int .i64 0, .int .i64 0, .int .i64 0, .int .i64 0, .int .i64 0, .int .i64 0, .int .i64 0, .int .i64 0, .slice none 0 0, .bool false, .int .i64 0, .slice none 0 0] 63).alloc (.cells #[.int .i64 0, .int .i64 0, .slice none 0 0, .int .i64 0, .slice none 0 0] 65))
  have HY := Lib.hid (Blk.new1 w1 (.cells #[.int .i64 0, .int .i64 0, .int .i64 0, .int .i64 0, .int .i64 0, .int .i64 0, .int .i64 0, .int .i64 0, .int .i64 0, .int .i64 0, .int .i64 0, .int .i64 0, .int .i64 0, .int .i64 0, .int .i64 0, .slice none 0 0, .int .i64 0, .int .i64 0, .int .i64 0, .int .i64 0, .int .i64 0, .int .i64 0, .int .i64 0, .int .i64 0, .slice none 0 0, .bool false, .int .i64 0, .slice none 0 0] 63) #[.int .i64 0, .int .i64 0, .slice none 0 0, .int .i64 0, .slice none 0 0] 65)
  have HFy := Lib.hid (((Fr.refl (fun k => k = w1.heap.size ∨ k = w1.heap.size + 1) w1).alloc (.cells #[.int .i64 0, .int .i64 0, .int .i64 0, .int .i64 0, .int .i64 0, .int .i64 0, .int .i64 0, .int .i64 0, .int .i64 0, .int .i64 0, .int .i64 0, .int .i64 0, .int .i64 0, .int .i64 0, .int .i64 0, .slice none 0 0, .int .i64 0, .int .i64 0, .int .i64 0, .int .i64 0, .int .i64 0, .int .i64 0, .int .i64 0, .int .i64 0, .slice none 0 0, .bool false, .int .i64 0, .slice none 0 0] 63)).alloc (.cells #[.int .i64 0, .int .i64 0, .slice none 0 0, .int .i64 0, .slice none 0 0] 65))
  go_wp2_with (refine wpList_putAt rfl 63 (.tmp 7) (.tmp 22) rfl w1.heap.size 0 (encR s.cur.st nilV nilV nn (.slice Al sn cl)) (by rfl) (by rfl) 63 _ HZ.out (Nat.le_refl 28) sizeR (encR_one _ _ _ _ _ ⟨_, _, _, rfl⟩ ⟨_, _, _, rfl⟩ ⟨_, _, _, rfl⟩) ?_)
  intro w2 hb2 hf2
  rw [over_all #[.int .i64 0, .int .i64 0, .int .i64 0, .int .i64 0, .int .i64 0, .int .i64 0, .int .i64 0, .int .i64 0, .int .i64 0, .int .i64 0, .int .i64 0, .int .i64 0, .int .i64 0, .int .i64 0, .int .i64 0, .slice none 0 0, .int .i64 0, .int .i64 0, .int .i64 0, .int .i64 0, .int .i64 0, .int .i64 0, .int .i64 0, .int .i64 0, .slice none 0 0, .bool false, .int .i64 0, .slice none 0 0] (encR s.cur.st nilV nilV nn (.slice Al sn cl)) rfl] at hb2
  have HF2 := Lib.hid (HFy.out.trans hf2 fun k hk => .inl (.inl hk))
  have HY2 := Lib.hid (HY.out.fr hf2 (by omega))
  have HR2 := Lib.hid hb2
  clear hb2 hf2
  go_wp2_with (refine wpList_putAt rfl 65 (.tmp 8) (.tmp 23) rfl (w1.heap.size + 1) 0 [.int .i64 6553600, .int .i64 6553600, .slice none 0 0, .int .i64 2, .slice none 0 0] (by rfl) (by rfl) 65 _ HY2.out (Nat.le_refl 5) sizeRC (by intro u hu; simp at hu; rcases hu with rfl | rfl | rfl | rfl | rfl <;> rfl) ?_)
  intro w3 hb3 hf3
  have HF3n : Hid (Fr Nob w1 w3) := (show Fr Nob w1 w3 from by
    have h := HF2.out.trans hf3 fun k hk => .inl (.inr hk)
    exact ⟨h.os, h.tape, h.output, h.size, fun k hk _ => h.block k hk (by omega)⟩)
  have HF3 := Lib.hid (HF1.out.trans0 HF3n.out)
  have HN3 := Lib.hid (HN1.out.nob HF3n.out)
  have HO3 := Lib.hid (HO.out.nob HF3n.out)
  have HRW3 := Lib.hid (HRW1.out.nob HF3n.out)
  have HR3 := Lib.hid (HR2.out.fr hf3 (by omega))
  have HC3 := Lib.hid (show Blk w3 (w1.heap.size + 1) #[.int .i64 6553600, .int .i64 6553600, .slice none 0 0, .int .i64 2, .slice none 0 0] 65 from hb3)
  clear hb3 hf3 HO HN1 HRW1 HR2 HY2 HF2 HFy HZ HY
  have HE := Lib.hid (Blk.new w3 #[] 5)
  have hfe : Fr Nob w3 (w3.alloc (.cells #[] 5)) := (Fr.refl Nob w3).alloc _
  have HFE := Lib.hid hfe
  have HRE := Lib.hid (HRW3.out.nob hfe)
  clear hfe
  go_upto_region 4 with (fail)
  go_wp2_with (refine wpList_app0 _ rfl (.tmp 26) (.tmp 27) 34 rfl 5 i8 _ 1 1 Tryd.underlying34 HI8.out HZ8.out HS8.out HB8.out rfl (by omega) w3.heap.size (by rfl) HE.out S0 _ ln (bytesV l) (by rfl) HRE.out (bytes_one l) (by have := HL.out; simp only [maxLen]; omega) (by have := HL.out; omega) ?_)
  intro v4 w4 ho4 hf4 _
  have HF4n := Lib.hid (HFE.out.trans0 hf4)
  have HB4 := Lib.hid ho4.row
  obtain ⟨A4, c4, rfl, _⟩ := ho4.row.form
  have HO4 := Lib.hid (HO3.out.nob HF4n.out)
  clear hf4 ho4 HE HFE HRE
  go_wp2_with fail
  refine (extent_any g _ _ s _ l _ HO4.out.gs (HSB.out.small (by omega)).c (by rw [HLN.out]; exact HB4.out) (by have := HL.out; have := HLN.out; omega)).mono ?_
  obtain ⟨qx, qy, qe, hq⟩ : ∃ qx qy qe, extF s.cur.st l = (⟨qx, qy⟩, qe) := ⟨_, _, _, rfl⟩
  rw [hq]
  have HQ := Lib.hid hq
  clear hq
  unfold pairV ptV
  rintro e w5 ⟨rfl, hf5⟩
  have HF5n := Lib.hid ((HF4n.out.trans0 hf5).alloc (.cells #[.int .i64 qx, .int .i64 qy] 56))
  have HP5 := Lib.hid (Blk.new w5 #[.int .i64 qx, .int .i64 qy] 56)
  clear hf5
  go_upto_region 5 with (fail)
  obtain ⟨w6, hw6⟩ : ∃ w6, w5.alloc (.cells #[.int .i64 qx, .int .i64 qy] 56) = w6 := ⟨_, rfl⟩
  rw [hw6] at HF5n HP5
  rw [hw6]
  clear hw6 HB4 HO4
  have HF6 := Lib.hid (HF3.out.trans0 HF5n.out)
  have HN6 := Lib.hid (HN3.out.nob HF5n.out)
  have HR6 := Lib.hid (HR3.out.nob HF5n.out)
  have HC6 := Lib.hid (HC3.out.nob HF5n.out)
  have HO6 := Lib.hid (HO3.out.nob HF5n.out)
  have HRW6 := Lib.hid (HRW3.out.nob HF5n.out)
  clear HF3 HF4n HF5n HN3 HR3 HC3 HO3 HRW3 HF1 HF3n HFa
  have k17 : w6.cell? ⟨w1.heap.size, 17, none⟩ = some (.int .i64 s.cur.st.font) := HR6.out.cell 17
  by_cases hft : s.cur.st.font < 0
  · have hq := HQ.out
    unfold extF at hq
    rw [if_pos hft] at hq
    obtain ⟨rfl, rfl, rfl⟩ : qx = 0 ∧ qy = 0 ∧ qe = 7 := by
      simp only [oo, Prod.mk.injEq, Pt.mk.injEq] at hq
      exact ⟨hq.1.1.symm, hq.1.2.symm, hq.2.symm⟩
    clear hq
    go_wp2_with fail
    refine (ans16_any _ HN6.out).mono ?_
    rintro e w7 ⟨rfl, hf7⟩
    have HF7 := Lib.hid (HF6.out.trans0 hf7)
    have kp0 : w7.cell? ⟨w5.heap.size, 0, none⟩ = some (.int .i64 0) := (HP5.out.nob hf7).cell 0
    have kp1 : w7.cell? ⟨w5.heap.size, 1, none⟩ = some (.int .i64 0) := (HP5.out.nob hf7).cell 1
    clear hf7 k17
    go_wp2_with fail
    go_ret
    exact ⟨rfl, HF7.out⟩
  · have hq := HQ.out
    unfold extF at hq
    rw [if_neg hft] at hq
    have HQ2 := Lib.hid hq
    clear hq
    go_wp2_with fail
    refine (rfar_any w1.heap.size s.cur.st nilV nilV _ _ nn l S0 _ HR6.out (by rw [HLN.out]; exact HRW6.out) (by have := HL.out; have := HLN.out; omega)).mono ?_
    rw [HQ2.out]
    unfold pairV ptV
    rintro e w7 ⟨rfl, hf7⟩
    have HF7n := Lib.hid ((show Fr Nob w6 w7 from hf7).alloc (.cells #[.int .i64 qx, .int .i64 qy] 56))
    have HQ7 := Lib.hid (Blk.new w7 #[.int .i64 qx, .int .i64 qy] 56)
    clear hf7 k17
    have HN7 := Lib.hid (HN6.out.nob HF7n.out)
    go_wp2_with fail
    refine (ans16_any _ HN7.out).mono ?_
    rintro e w8 ⟨rfl, hf8⟩
    have HF8n := Lib.hid (HF7n.out.trans0 hf8)
    have HF8 := Lib.hid (HF6.out.trans0 HF8n.out)
    have HR8 := Lib.hid (HR6.out.nob HF8n.out)
    have HC8 := Lib.hid (HC6.out.nob HF8n.out)
    have HO8 := Lib.hid (HO6.out.nob HF8n.out)
    have kp0 : w8.cell? ⟨w5.heap.size, 0, none⟩ = some (.int .i64 qx) := (HP5.out.nob HF8n.out).cell 0
    have kp1 : w8.cell? ⟨w5.heap.size, 1, none⟩ = some (.int .i64 qy) := (HP5.out.nob HF8n.out).cell 1
    have kq0 : w8.cell? ⟨w7.heap.size, 0, none⟩ = some (.int .i64 qx) := (HQ7.out.nob hf8).cell 0
    have kq1 : w8.cell? ⟨w7.heap.size, 1, none⟩ = some (.int .i64 qy) := (HQ7.out.nob hf8).cell 1
    clear hf8
    go_wp2_with (first | (refine wpList_getAtG (by rfl) 63 (.tmp 7) rfl w1.heap.size 0 (by rfl) (encR s.cur.st nilV nilV nn (.slice Al sn cl)) _ (HR8.out.range 0 _ rfl) Tryd.underlying63 rfl sizeR ?_) | (refine wpList_getAtG (by rfl) 65 (.tmp 8) rfl (w1.heap.size + 1) 0 (by rfl) [.int .i64 6553600, .int .i64 6553600, .slice none 0 0, .int .i64 2, .slice none 0 0] _ (HC8.out.range 0 _ rfl) Tryd.underlying65 rfl sizeRC ?_))
    have hag := agree_any _ w8 g c' F S s _ nn (HSB.out.small (by omega)).p HO8.out
    unfold rV canV at hag
    rw [HSN.out] at hag
    refine hag.mono ?_
    rintro e w9 ⟨rfl, hf9⟩
    have HF9 := Lib.hid (HF8.out.trans0 hf9)
    clear hf9 hag kp0 kp1 kq0 kq1
    go_wp2_with fail
    go_ret
    exact ⟨rfl, HF9.out⟩
theorem far_all (t : T16) (v : Value) (l : List Int) (w : World) (hN : NamesIn w) (hs : 0 ≤ t.segs ∧ t.segs ≤ 255) (hr : RowIn w (Lt w) 1 v l.length (bytesV l)) : Calls Tryd.prog 5 #[.agg (encT t).toArray, v] w fun e w' => e = .returned (.bool true) ∧ Fr Nob w w' := by
  by_cases hl : l.length ≤ 3000
  · exact far_walk t v l _ w hN hs hr hl
  · obtain ⟨A, c, rfl, _⟩ := hr.form
    exact far_long t A l.length c w hN (by omega)
end Go.Proofs.YtkkejjfmidgciaaDoor
