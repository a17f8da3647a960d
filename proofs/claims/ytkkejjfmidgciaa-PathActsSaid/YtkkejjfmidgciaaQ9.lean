/-
  The walk of the law's both: Move, Line, Curve.
-/
import Derived.Test.YtkkejjfmidgciaaQ8
namespace Go.Proofs.Ytkkejjfmidgciaa
open Go.RowKit
set_option linter.unusedVariables false
set_option linter.unusedSimpArgs false
set_option maxRecDepth 8000 in
set_option maxHeartbeats 3200000 in
theorem both_move (w : World) (F : Nat → Prop) (pg mg : Nat) (p : PS) (a : Sg) (h : Duo w F pg mg p p.most p.list) (hg : Good p) (hb : PB p) (hr : RB p.most p.list) (hk : a.kind = 1) :
    Calls Try.prog 23 #[.pointer (some ⟨pg, 0, none⟩), .pointer (some ⟨mg, 0, none⟩), sgV a] w (BothPost w F pg mg p) := by
  have hf0 : Fr Nob w (w.alloc (.cells #[.int .i64 a.kind, .int .i64 a.a.x, .int .i64 a.a.y, .int .i64 a.b.x, .int .i64 a.b.y, .int .i64 a.c.x, .int .i64 a.c.y] 52)) := (Fr.refl Nob w).alloc _
  have hbk : Blk (w.alloc (.cells #[.int .i64 a.kind, .int .i64 a.a.x, .int .i64 a.a.y, .int .i64 a.b.x, .int .i64 a.b.y, .int .i64 a.c.x, .int .i64 a.c.y] 52)) w.heap.size (encS a).toArray 52 := Blk.new w _ _
  rw [hk] at hf0 hbk
  have HD := Lib.hid (h.nob hf0)
  have HL := Lib.hid (move_like p a.a hg)
  have HF0 := Lib.hid hf0
  have HLT := Lib.hid h.flt
  have HPB := Lib.hid hb
  have HRB := Lib.hid hr
  have hS : ∀ w', Fr F (w.alloc (.cells #[.int .i64 1, .int .i64 a.a.x, .int .i64 a.a.y, .int .i64 a.b.x, .int .i64 a.b.y, .int .i64 a.c.x, .int .i64 a.c.y] 52)) w' → w'.cell? ⟨w.heap.size, 0, none⟩ = some (.int .i64 1) ∧ w'.cell? ⟨w.heap.size, 1, none⟩ = some (.int .i64 a.a.x) ∧ w'.cell? ⟨w.heap.size, 2, none⟩ = some (.int .i64 a.a.y) ∧ w'.cell? ⟨w.heap.size, 3, none⟩ = some (.int .i64 a.b.x) ∧ w'.cell? ⟨w.heap.size, 4, none⟩ = some (.int .i64 a.b.y) ∧ w'.cell? ⟨w.heap.size, 5, none⟩ = some (.int .i64 a.c.x) ∧ w'.cell? ⟨w.heap.size, 6, none⟩ = some (.int .i64 a.c.y) := fun w' hw' => by
    have hb := hbk.fr hw' fun hh => by have := h.flt _ hh; omega
    have e0 := hb.cell 0
    have e1 := hb.cell 1
    have e2 := hb.cell 2
    have e3 := hb.cell 3
    have e4 := hb.cell 4
    have e5 := hb.cell 5
    have e6 := hb.cell 6
    simp only [encS, hk] at e0 e1 e2 e3 e4 e5 e6
    exact ⟨e0, e1, e2, e3, e4, e5, e6⟩
  have HS := Lib.hid hS
  have hsv : sgV a = .agg #[.int .i64 1, .int .i64 a.a.x, .int .i64 a.a.y, .int .i64 a.b.x, .int .i64 a.b.y, .int .i64 a.c.x, .int .i64 a.c.y] := by unfold sgV; rw [hk]
  rw [hsv]
  obtain ⟨k0, k1, k2, k3, k4, k5, k6⟩ := HS.out _ (Fr.refl _ _)
  clear h hf0 hb hr hS hsv hbk hg
  obtain ⟨q, hq⟩ : ∃ q, moveF p a.a = q := ⟨_, rfl⟩
  obtain ⟨r, hr⟩ : ∃ r, rMove p.most p.list a.a = r := ⟨_, rfl⟩
  rw [hq, hr] at HL
  have HQ := Lib.hid hq
  have HR := Lib.hid hr
  clear hq hr hk
  go_enter Try.func23, Try.ntmps23
  go_wp2_with fail
  generalize w.alloc (.cells #[.int .i64 1, .int .i64 a.a.x, .int .i64 a.a.y, .int .i64 a.b.x, .int .i64 a.b.y, .int .i64 a.c.x, .int .i64 a.c.y] 52) = wa at *
  go_region_held3 (fun w' => w'.cell? ⟨w.heap.size, 0, none⟩ = some (.int .i64 1) ∧ w'.cell? ⟨w.heap.size, 1, none⟩ = some (.int .i64 a.a.x) ∧ w'.cell? ⟨w.heap.size, 2, none⟩ = some (.int .i64 a.a.y) ∧ w'.cell? ⟨w.heap.size, 3, none⟩ = some (.int .i64 a.b.x) ∧ w'.cell? ⟨w.heap.size, 4, none⟩ = some (.int .i64 a.b.y) ∧ w'.cell? ⟨w.heap.size, 5, none⟩ = some (.int .i64 a.c.x) ∧ w'.cell? ⟨w.heap.size, 6, none⟩ = some (.int .i64 a.c.y))
    ((refine HS.out _ ?_; (repeat (first | exact Fr.refl _ _ | exact G2.out | exact G1.out | refine Fr.alloc ?_ _ | refine Fr.drew ?_)); done))
    ((first
      | (go_at_call 11
         refine ((HD.out.nob (by repeat (first | exact Fr.refl _ _ | refine Fr.alloc ?_ _ | refine Fr.drew ?_))).call fun v hp => move_any pg v p a.a _ hp HPB.out).mono ?_
         rw [HQ.out]
         rintro e w1 ⟨rfl, hd1, hf1⟩
         have D1 := Lib.hid hd1
         have F1 := Lib.hid hf1
         have G1 := Lib.hid (show Fr F wa w1 from Fr.trans (show Fr F wa _ from (by repeat (first | exact Fr.refl _ _ | refine Fr.alloc ?_ _ | refine Fr.drew ?_))) hf1 fun k hk => .inl hk)
         clear hd1 hf1)
      | (go_at_call 45
         refine ((D1.out.nob (by repeat (first | exact Fr.refl _ _ | refine Fr.alloc ?_ _ | refine Fr.drew ?_))).rcall fun S rv hp => rmove_any S mg 0 rv p.most p.list a.a _ hp HRB.out.m HRB.out.l).mono ?_
         rw [HR.out]
         rintro e w2 ⟨rfl, hd2, hf2⟩
         have D2 := Lib.hid hd2
         have F2 := Lib.hid hf2
         have G2 := Lib.hid (show Fr F wa w2 from (Fr.trans (show Fr F wa _ from (by repeat (first | exact G1.out | refine Fr.alloc ?_ _ | refine Fr.drew ?_))) hf2 fun k hk => hk.elim .inl fun hk => .inr (Nat.le_trans (by simp) hk.1)))
         clear hd2 hf2)))
  all_goals
    go_wp2_with fail
    go_ret2
    exact BothPost.of (w := w) HL.out HLT.out (HF0.out.trans0 (by repeat (first | exact Fr.refl _ _ | refine Fr.alloc ?_ _ | refine Fr.drew ?_))) F1.out (by repeat (first | exact Fr.refl _ _ | refine Fr.alloc ?_ _ | refine Fr.drew ?_)) F2.out (Fr.refl _ _) D2.out
set_option maxRecDepth 8000 in
set_option maxHeartbeats 3200000 in
theorem both_line (w : World) (F : Nat → Prop) (pg mg : Nat) (p : PS) (a : Sg) (h : Duo w F pg mg p p.most p.list) (hg : Good p) (hb : PB p) (hr : RB p.most p.list) (hk : a.kind = 2) :
    Calls Try.prog 23 #[.pointer (some ⟨pg, 0, none⟩), .pointer (some ⟨mg, 0, none⟩), sgV a] w (BothPost w F pg mg p) := by
  have hf0 : Fr Nob w (w.alloc (.cells #[.int .i64 a.kind, .int .i64 a.a.x, .int .i64 a.a.y, .int .i64 a.b.x, .int .i64 a.b.y, .int .i64 a.c.x, .int .i64 a.c.y] 52)) := (Fr.refl Nob w).alloc _
  have hbk : Blk (w.alloc (.cells #[.int .i64 a.kind, .int .i64 a.a.x, .int .i64 a.a.y, .int .i64 a.b.x, .int .i64 a.b.y, .int .i64 a.c.x, .int .i64 a.c.y] 52)) w.heap.size (encS a).toArray 52 := Blk.new w _ _
  rw [hk] at hf0 hbk
  have HD := Lib.hid (h.nob hf0)
  have HL := Lib.hid (line_like p a.a hg)
  have HF0 := Lib.hid hf0
  have HLT := Lib.hid h.flt
  have HPB := Lib.hid hb
  have HRB := Lib.hid hr
  have hS : ∀ w', Fr F (w.alloc (.cells #[.int .i64 2, .int .i64 a.a.x, .int .i64 a.a.y, .int .i64 a.b.x, .int .i64 a.b.y, .int .i64 a.c.x, .int .i64 a.c.y] 52)) w' → w'.cell? ⟨w.heap.size, 0, none⟩ = some (.int .i64 2) ∧ w'.cell? ⟨w.heap.size, 1, none⟩ = some (.int .i64 a.a.x) ∧ w'.cell? ⟨w.heap.size, 2, none⟩ = some (.int .i64 a.a.y) ∧ w'.cell? ⟨w.heap.size, 3, none⟩ = some (.int .i64 a.b.x) ∧ w'.cell? ⟨w.heap.size, 4, none⟩ = some (.int .i64 a.b.y) ∧ w'.cell? ⟨w.heap.size, 5, none⟩ = some (.int .i64 a.c.x) ∧ w'.cell? ⟨w.heap.size, 6, none⟩ = some (.int .i64 a.c.y) := fun w' hw' => by
    have hb := hbk.fr hw' fun hh => by have := h.flt _ hh; omega
    have e0 := hb.cell 0
    have e1 := hb.cell 1
    have e2 := hb.cell 2
    have e3 := hb.cell 3
    have e4 := hb.cell 4
    have e5 := hb.cell 5
    have e6 := hb.cell 6
    simp only [encS, hk] at e0 e1 e2 e3 e4 e5 e6
    exact ⟨e0, e1, e2, e3, e4, e5, e6⟩
  have HS := Lib.hid hS
  have hsv : sgV a = .agg #[.int .i64 2, .int .i64 a.a.x, .int .i64 a.a.y, .int .i64 a.b.x, .int .i64 a.b.y, .int .i64 a.c.x, .int .i64 a.c.y] := by unfold sgV; rw [hk]
  rw [hsv]
  obtain ⟨k0, k1, k2, k3, k4, k5, k6⟩ := HS.out _ (Fr.refl _ _)
  clear h hf0 hb hr hS hsv hbk hg
  obtain ⟨q, hq⟩ : ∃ q, lineF p a.a = q := ⟨_, rfl⟩
  obtain ⟨r, hr⟩ : ∃ r, rLine p.most p.list a.a = r := ⟨_, rfl⟩
  rw [hq, hr] at HL
  have HQ := Lib.hid hq
  have HR := Lib.hid hr
  clear hq hr hk
  go_enter Try.func23, Try.ntmps23
  go_wp2_with fail
  generalize w.alloc (.cells #[.int .i64 2, .int .i64 a.a.x, .int .i64 a.a.y, .int .i64 a.b.x, .int .i64 a.b.y, .int .i64 a.c.x, .int .i64 a.c.y] 52) = wa at *
  go_region_held3 (fun w' => w'.cell? ⟨w.heap.size, 0, none⟩ = some (.int .i64 2) ∧ w'.cell? ⟨w.heap.size, 1, none⟩ = some (.int .i64 a.a.x) ∧ w'.cell? ⟨w.heap.size, 2, none⟩ = some (.int .i64 a.a.y) ∧ w'.cell? ⟨w.heap.size, 3, none⟩ = some (.int .i64 a.b.x) ∧ w'.cell? ⟨w.heap.size, 4, none⟩ = some (.int .i64 a.b.y) ∧ w'.cell? ⟨w.heap.size, 5, none⟩ = some (.int .i64 a.c.x) ∧ w'.cell? ⟨w.heap.size, 6, none⟩ = some (.int .i64 a.c.y))
    ((refine HS.out _ ?_; (repeat (first | exact Fr.refl _ _ | exact G2.out | exact G1.out | refine Fr.alloc ?_ _ | refine Fr.drew ?_)); done))
    ((first
      | (go_at_call 12
         refine ((HD.out.nob (by repeat (first | exact Fr.refl _ _ | refine Fr.alloc ?_ _ | refine Fr.drew ?_))).call fun v hp => line_any pg v p a.a _ hp HPB.out).mono ?_
         rw [HQ.out]
         rintro e w1 ⟨rfl, hd1, hf1⟩
         have D1 := Lib.hid hd1
         have F1 := Lib.hid hf1
         have G1 := Lib.hid (show Fr F wa w1 from Fr.trans (show Fr F wa _ from (by repeat (first | exact Fr.refl _ _ | refine Fr.alloc ?_ _ | refine Fr.drew ?_))) hf1 fun k hk => .inl hk)
         clear hd1 hf1)
      | (go_at_call 46
         refine ((D1.out.nob (by repeat (first | exact Fr.refl _ _ | refine Fr.alloc ?_ _ | refine Fr.drew ?_))).rcall fun S rv hp => rline_any S mg 0 rv p.most p.list a.a _ hp HRB.out).mono ?_
         rw [HR.out]
         rintro e w2 ⟨rfl, hd2, hf2⟩
         have D2 := Lib.hid hd2
         have F2 := Lib.hid hf2
         have G2 := Lib.hid (show Fr F wa w2 from (Fr.trans (show Fr F wa _ from (by repeat (first | exact G1.out | refine Fr.alloc ?_ _ | refine Fr.drew ?_))) hf2 fun k hk => hk.elim .inl fun hk => .inr (Nat.le_trans (by simp) hk.1)))
         clear hd2 hf2)))
  all_goals
    go_wp2_with fail
    go_ret2
    exact BothPost.of (w := w) HL.out HLT.out (HF0.out.trans0 (by repeat (first | exact Fr.refl _ _ | refine Fr.alloc ?_ _ | refine Fr.drew ?_))) F1.out (by repeat (first | exact Fr.refl _ _ | refine Fr.alloc ?_ _ | refine Fr.drew ?_)) F2.out (Fr.refl _ _) D2.out
set_option maxRecDepth 8000 in
set_option maxHeartbeats 3200000 in
theorem both_curve (w : World) (F : Nat → Prop) (pg mg : Nat) (p : PS) (a : Sg) (h : Duo w F pg mg p p.most p.list) (hg : Good p) (hb : PB p) (hr : RB p.most p.list) (hk : a.kind = 3) :
    Calls Try.prog 23 #[.pointer (some ⟨pg, 0, none⟩), .pointer (some ⟨mg, 0, none⟩), sgV a] w (BothPost w F pg mg p) := by
  have hf0 : Fr Nob w (w.alloc (.cells #[.int .i64 a.kind, .int .i64 a.a.x, .int .i64 a.a.y, .int .i64 a.b.x, .int .i64 a.b.y, .int .i64 a.c.x, .int .i64 a.c.y] 52)) := (Fr.refl Nob w).alloc _
  have hbk : Blk (w.alloc (.cells #[.int .i64 a.kind, .int .i64 a.a.x, .int .i64 a.a.y, .int .i64 a.b.x, .int .i64 a.b.y, .int .i64 a.c.x, .int .i64 a.c.y] 52)) w.heap.size (encS a).toArray 52 := Blk.new w _ _
  rw [hk] at hf0 hbk
  have HD := Lib.hid (h.nob hf0)
  have HL := Lib.hid (curve_like p a.a a.b a.c hg)
  have HF0 := Lib.hid hf0
  have HLT := Lib.hid h.flt
  have HPB := Lib.hid hb
  have HRB := Lib.hid hr
  have hS : ∀ w', Fr F (w.alloc (.cells #[.int .i64 3, .int .i64 a.a.x, .int .i64 a.a.y, .int .i64 a.b.x, .int .i64 a.b.y, .int .i64 a.c.x, .int .i64 a.c.y] 52)) w' → w'.cell? ⟨w.heap.size, 0, none⟩ = some (.int .i64 3) ∧ w'.cell? ⟨w.heap.size, 1, none⟩ = some (.int .i64 a.a.x) ∧ w'.cell? ⟨w.heap.size, 2, none⟩ = some (.int .i64 a.a.y) ∧ w'.cell? ⟨w.heap.size, 3, none⟩ = some (.int .i64 a.b.x) ∧ w'.cell? ⟨w.heap.size, 4, none⟩ = some (.int .i64 a.b.y) ∧ w'.cell? ⟨w.heap.size, 5, none⟩ = some (.int .i64 a.c.x) ∧ w'.cell? ⟨w.heap.size, 6, none⟩ = some (.int .i64 a.c.y) := fun w' hw' => by
    have hb := hbk.fr hw' fun hh => by have := h.flt _ hh; omega
    have e0 := hb.cell 0
    have e1 := hb.cell 1
    have e2 := hb.cell 2
    have e3 := hb.cell 3
    have e4 := hb.cell 4
    have e5 := hb.cell 5
    have e6 := hb.cell 6
    simp only [encS, hk] at e0 e1 e2 e3 e4 e5 e6
    exact ⟨e0, e1, e2, e3, e4, e5, e6⟩
  have HS := Lib.hid hS
  have hsv : sgV a = .agg #[.int .i64 3, .int .i64 a.a.x, .int .i64 a.a.y, .int .i64 a.b.x, .int .i64 a.b.y, .int .i64 a.c.x, .int .i64 a.c.y] := by unfold sgV; rw [hk]
  rw [hsv]
  obtain ⟨k0, k1, k2, k3, k4, k5, k6⟩ := HS.out _ (Fr.refl _ _)
  clear h hf0 hb hr hS hsv hbk hg
  obtain ⟨q, hq⟩ : ∃ q, curveF p a.a a.b a.c = q := ⟨_, rfl⟩
  obtain ⟨r, hr⟩ : ∃ r, rCurve p.most p.list a.a a.b a.c = r := ⟨_, rfl⟩
  rw [hq, hr] at HL
  have HQ := Lib.hid hq
  have HR := Lib.hid hr
  clear hq hr hk
  go_enter Try.func23, Try.ntmps23
  go_wp2_with fail
  generalize w.alloc (.cells #[.int .i64 3, .int .i64 a.a.x, .int .i64 a.a.y, .int .i64 a.b.x, .int .i64 a.b.y, .int .i64 a.c.x, .int .i64 a.c.y] 52) = wa at *
  go_region_held3 (fun w' => w'.cell? ⟨w.heap.size, 0, none⟩ = some (.int .i64 3) ∧ w'.cell? ⟨w.heap.size, 1, none⟩ = some (.int .i64 a.a.x) ∧ w'.cell? ⟨w.heap.size, 2, none⟩ = some (.int .i64 a.a.y) ∧ w'.cell? ⟨w.heap.size, 3, none⟩ = some (.int .i64 a.b.x) ∧ w'.cell? ⟨w.heap.size, 4, none⟩ = some (.int .i64 a.b.y) ∧ w'.cell? ⟨w.heap.size, 5, none⟩ = some (.int .i64 a.c.x) ∧ w'.cell? ⟨w.heap.size, 6, none⟩ = some (.int .i64 a.c.y))
    ((refine HS.out _ ?_; (repeat (first | exact Fr.refl _ _ | exact G2.out | exact G1.out | refine Fr.alloc ?_ _ | refine Fr.drew ?_)); done))
    ((first
      | (go_at_call 13
         refine ((HD.out.nob (by repeat (first | exact Fr.refl _ _ | refine Fr.alloc ?_ _ | refine Fr.drew ?_))).call fun v hp => curve_any pg v p a.a a.b a.c _ hp HPB.out).mono ?_
         rw [HQ.out]
         rintro e w1 ⟨rfl, hd1, hf1⟩
         have D1 := Lib.hid hd1
         have F1 := Lib.hid hf1
         have G1 := Lib.hid (show Fr F wa w1 from Fr.trans (show Fr F wa _ from (by repeat (first | exact Fr.refl _ _ | refine Fr.alloc ?_ _ | refine Fr.drew ?_))) hf1 fun k hk => .inl hk)
         clear hd1 hf1)
      | (go_at_call 47
         refine ((D1.out.nob (by repeat (first | exact Fr.refl _ _ | refine Fr.alloc ?_ _ | refine Fr.drew ?_))).rcall fun S rv hp => rcurve_any S mg 0 rv p.most p.list a.a a.b a.c _ hp HRB.out).mono ?_
         rw [HR.out]
         rintro e w2 ⟨rfl, hd2, hf2⟩
         have D2 := Lib.hid hd2
         have F2 := Lib.hid hf2
         have G2 := Lib.hid (show Fr F wa w2 from (Fr.trans (show Fr F wa _ from (by repeat (first | exact G1.out | refine Fr.alloc ?_ _ | refine Fr.drew ?_))) hf2 fun k hk => hk.elim .inl fun hk => .inr (Nat.le_trans (by simp) hk.1)))
         clear hd2 hf2)))
  all_goals
    go_wp2_with fail
    go_ret2
    exact BothPost.of (w := w) HL.out HLT.out (HF0.out.trans0 (by repeat (first | exact Fr.refl _ _ | refine Fr.alloc ?_ _ | refine Fr.drew ?_))) F1.out (by repeat (first | exact Fr.refl _ _ | refine Fr.alloc ?_ _ | refine Fr.drew ?_)) F2.out (Fr.refl _ _) D2.out
end Go.Proofs.Ytkkejjfmidgciaa
