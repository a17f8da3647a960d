/-
  The walks of the reference's Current, draw, Move, Line, Curve, Close.
-/
import Derived.Test.YtkkejjfmidgciaaQ2
import Derived.Test.YtkkejjfmidgciaaP10
import Derived.Deep.RegionHeld3
import Derived.IntWalk
namespace Go.Proofs.Ytkkejjfmidgciaa
open Go.RowKit
set_option linter.unusedVariables false
set_option linter.unusedSimpArgs false
def rcurV (l : List Sg) : Value := if l.length = 0 then .tuple #[ptV oo, .bool false] else .tuple #[ptV (curR l), .bool true]
set_option maxRecDepth 8000 in
set_option maxHeartbeats 1600000 in
theorem rcur_any (S : Nat → Prop) (g o : Nat) (v : Value) (most : Int) (l : List Sg) (w : World) (h : Rq w S g o v most l) :
    Calls Try.prog 24 #[.pointer (some ⟨g, o, none⟩)] w fun e w' => e = .returned (rcurV l) ∧ Fr Nob w w' := by
  obtain ⟨wa, hwa⟩ : ∃ wa, w.alloc (.cells #[.int .i64 0, .int .i64 0] 23) = wa := ⟨_, rfl⟩
  have hf : Fr Nob w wa := by rw [← hwa]; exact (Fr.refl Nob w).alloc _
  have hb : Blk wa w.heap.size #[.int .i64 0, .int .i64 0] 23 := by rw [← hwa]; exact Blk.new w _ _
  have hr := h.nob hf
  have c1 := hr.c1
  have y0 := hb.cell 0
  have y1 := hb.cell 1
  have f0 := hb.free 0
  have f1 := hb.free 1
  simp only [List.getElem?_toArray, List.getElem?_cons_succ, List.getElem?_cons_zero] at y0 y1
  have hlen := h.row.len_le
  have HF := Lib.hid hf
  have HB := Lib.hid hb
  have HR := Lib.hid hr
  have hgw : g ≠ w.heap.size := by have := h.lt; omega
  have hgl := h.lt
  rcases Nat.eq_zero_or_pos l.length with h0 | h0
  · obtain ⟨A, cap, rfl, ha1, ha2⟩ := h.row.form
    rw [show rcurV l = .tuple #[ptV oo, .bool false] by simp [rcurV, h0]]
    have hbn := (HB.out.set 0 (.int .i64 0)).set 1 (.int .i64 0)
    have HBN := Lib.hid hbn
    clear h hr hb hf hbn
    rw [h0] at c1
    clear h0 ha1 hlen
    unfold ptV oo
    go_enter Try.func24, Try.ntmps24
    go_wp2_with fail
    exact bodyPost_ret (results_ct rfl _ _ _ 23 _ _ rfl HBN.out Try.underlying23 rfl (by kernel_rfl)) rfl ⟨rfl, (HF.out.setCell (p := ⟨w.heap.size, 0, none⟩) (.inr (Nat.le_refl _)) _).setCell (p := ⟨w.heap.size, 1, none⟩) (.inr (Nat.le_refl _)) _⟩
  · obtain ⟨b, off, cap, rfl, ha1, ha2, hSb, hc⟩ := hr.row.sg h0
    obtain ⟨m, hm⟩ : ∃ m, l.length = m + 1 := ⟨l.length - 1, by omega⟩
    have hs := hc m (by omega)
    have hv : rcurV l = .tuple #[ptV (if l[m].kind = 4 then startF l else if l[m].kind = 3 then l[m].c else l[m].a), .bool true] := by
      have eg : l.getD (l.length - 1) sgZ = l[m] := by rw [← getD_at (l := l) (k := m) (by omega)]; congr 1; omega
      unfold rcurV curR
      rw [if_neg (by omega), lastK_getD, eg]
    rw [hv]
    clear hv
    generalize l[m] = s at *
    obtain ⟨P, hP⟩ : ∃ P, (if s.kind = 4 then startF l else if s.kind = 3 then s.c else s.a) = P := ⟨_, rfl⟩
    rw [hP]
    have HP := Lib.hid hP
    clear hP
    obtain ⟨s0, s1, s2, s3, s4, s5, s6⟩ := hs
    have hbw : b < wa.heap.size := World.block_lt_of_cell? wa _ s0
    obtain ⟨n, hn⟩ : ∃ n, n = l.length := ⟨_, rfl⟩
    have e0 : (n : Int) - 1 = m := by omega
    have i1 : (m : Int) < n := by omega
    have i0 : (0 : Int) ≤ m := by omega
    have wm : IntKind.i64.wrap (m : Int) = m := IntWalk.i64_in _ (by omega)
    have e2 : ((n : Int) == 0) = false := by simp; omega
    have hn1 : n ≤ 9223372036854775807 := by omega
    rw [← hn] at c1
    clear h hr hb hf hc hm hn
    unfold ptV
    go_enter Try.func24, Try.ntmps24
    go_wp2_with fail
    go_region_held3 (fun w' => w'.cell? ⟨g, o + 1, none⟩ = some (.slice (some ⟨b, off, none⟩) n cap) ∧ w'.cell? ⟨b, off + m * 7, none⟩ = some (.int .i64 s.kind) ∧ w'.cell? ⟨b, off + m * 7 + 1, none⟩ = some (.int .i64 s.a.x) ∧ w'.cell? ⟨b, off + m * 7 + 2, none⟩ = some (.int .i64 s.a.y) ∧ w'.cell? ⟨b, off + m * 7 + 3, none⟩ = some (.int .i64 s.b.x) ∧ w'.cell? ⟨b, off + m * 7 + 4, none⟩ = some (.int .i64 s.b.y) ∧ w'.cell? ⟨b, off + m * 7 + 5, none⟩ = some (.int .i64 s.c.x) ∧ w'.cell? ⟨b, off + m * 7 + 6, none⟩ = some (.int .i64 s.c.y)) (go_keep) (fail)
    have hf1 : Fr Nob wa (wa.alloc (.cells (encS s).toArray 43)).drew := ((Fr.refl Nob wa).alloc _).drew
    have hb1 : Blk (wa.alloc (.cells (encS s).toArray 43)).drew wa.heap.size (encS s).toArray 43 := (Blk.new wa _ _).drew
    simp only [encS] at hf1 hb1
    generalize (wa.alloc (.cells #[.int .i64 s.kind, .int .i64 s.a.x, .int .i64 s.a.y, .int .i64 s.b.x, .int .i64 s.b.y, .int .i64 s.c.x, .int .i64 s.c.y] 43)).drew = w1 at *
    clear s0 s1 s2 s3 s4 s5 s6
    obtain ⟨s0, s1, s2, s3, s4, s5, s6⟩ := SgAt.own hb1
    have B1 := Lib.hid (HB.out.nob hf1)
    have F1 := Lib.hid (HF.out.trans0 hf1)
    have R1 := Lib.hid (HR.out.nob hf1)
    have x0 := cell_nob y0 hf1
    have x1 := cell_nob y1 hf1
    have z0 := B1.out.free 0
    have z1 := B1.out.free 1
    clear hf1 hb1 y0 y1 f0 f1 HB HF HR hwa c1
    by_cases h4 : s.kind = 4
    · rw [h4] at s0
      have hP : startF l = P := by rw [← HP.out, if_pos h4]
      clear h4
      go_wp2_with fail
      refine (rstart_any S g o _ most l _ R1.out).mono ?_
      rw [hP]
      clear hP
      unfold ptV
      rintro e w2 ⟨rfl, hf2⟩
      have t0 := cell_nob x0 hf2
      have t1 := cell_nob x1 hf2
      have hb2 := B1.out.nob hf2
      have t2 := hb2.free 0
      have t3 := hb2.free 1
      have HB2 := Lib.hid ((hb2.set 0 (.int .i64 P.x)).set 1 (.int .i64 P.y))
      have F2 := Lib.hid (F1.out.trans0 hf2)
      clear hf2 hb2 x0 x1 z0 z1 s0 s1 s2 s3 s4 s5 s6
      go_wp2_with fail
      exact bodyPost_ret (results_ct rfl _ _ _ 23 _ _ rfl HB2.out Try.underlying23 rfl (by kernel_rfl)) rfl ⟨rfl, (F2.out.setCell (p := ⟨w.heap.size, 0, none⟩) (.inr (Nat.le_refl _)) _).setCell (p := ⟨w.heap.size, 1, none⟩) (.inr (Nat.le_refl _)) _⟩
    have q4 : (s.kind == 4) = false := by simpa using h4
    by_cases h3 : s.kind = 3
    · rw [h3] at s0
      obtain rfl : s.c = P := by rw [← HP.out, if_neg h4, if_pos h3]
      clear h3 h4 HP
      have HB2 := Lib.hid ((B1.out.set 0 (.int .i64 s.c.x)).set 1 (.int .i64 s.c.y))
      go_wp2_with fail
      exact bodyPost_ret (results_ct rfl _ _ _ 23 _ _ rfl HB2.out Try.underlying23 rfl (by kernel_rfl)) rfl ⟨rfl, (F1.out.setCell (p := ⟨w.heap.size, 0, none⟩) (.inr (Nat.le_refl _)) _).setCell (p := ⟨w.heap.size, 1, none⟩) (.inr (Nat.le_refl _)) _⟩
    obtain rfl : s.a = P := by rw [← HP.out, if_neg h4, if_neg h3]
    clear HP
    have q3 : (s.kind == 3) = false := by simpa using h3
    have HB2 := Lib.hid ((B1.out.set 0 (.int .i64 s.a.x)).set 1 (.int .i64 s.a.y))
    go_wp2_with fail
    exact bodyPost_ret (results_ct rfl _ _ _ 23 _ _ rfl HB2.out Try.underlying23 rfl (by kernel_rfl)) rfl ⟨rfl, (F1.out.setCell (p := ⟨w.heap.size, 0, none⟩) (.inr (Nat.le_refl _)) _).setCell (p := ⟨w.heap.size, 1, none⟩) (.inr (Nat.le_refl _)) _⟩
end Go.Proofs.Ytkkejjfmidgciaa
