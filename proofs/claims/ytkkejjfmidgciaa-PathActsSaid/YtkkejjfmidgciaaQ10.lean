/-
  The walk of the law's both: Close, Clear, nothing; both of any act.
-/
import Derived.Test.YtkkejjfmidgciaaQ9
namespace Go.Proofs.Ytkkejjfmidgciaa
open Go.RowKit
set_option linter.unusedVariables false
set_option linter.unusedSimpArgs false
theorem clear_like (p : PS) (h : Good p) : Like p (0, { p with list := [], start := oo, now := oo }) (0, []) := ⟨rfl, rfl, rfl, Good.nil _ _ _, by simp⟩
set_option maxRecDepth 8000 in
set_option maxHeartbeats 3200000 in
theorem both_close (w : World) (F : Nat → Prop) (pg mg : Nat) (p : PS) (a : Sg) (h : Duo w F pg mg p p.most p.list) (hg : Good p) (hb : PB p) (hr : RB p.most p.list) (hk : a.kind = 4) :
    Calls Try.prog 23 #[.pointer (some ⟨pg, 0, none⟩), .pointer (some ⟨mg, 0, none⟩), sgV a] w (BothPost w F pg mg p) := by
  have hsv : sgV a = .agg #[.int .i64 4, .int .i64 a.a.x, .int .i64 a.a.y, .int .i64 a.b.x, .int .i64 a.b.y, .int .i64 a.c.x, .int .i64 a.c.y] := by unfold sgV; rw [hk]
  rw [hsv]
  have hf0 : Fr Nob w (w.alloc (.cells #[.int .i64 4, .int .i64 a.a.x, .int .i64 a.a.y, .int .i64 a.b.x, .int .i64 a.b.y, .int .i64 a.c.x, .int .i64 a.c.y] 52)) := (Fr.refl Nob w).alloc _
  have HD := Lib.hid (h.nob hf0)
  have HL := Lib.hid (close_like p hg)
  have HF0 := Lib.hid hf0
  have HLT := Lib.hid h.flt
  have HPB := Lib.hid hb
  have HRB := Lib.hid hr
  obtain ⟨q, hq⟩ : ∃ q, closeF p = q := ⟨_, rfl⟩
  obtain ⟨r, hr'⟩ : ∃ r, rClose p.most p.list = r := ⟨_, rfl⟩
  rw [hq, hr'] at HL
  have HQ := Lib.hid hq
  have HR := Lib.hid hr'
  clear hq hr' hk h hf0 hb hr hsv hg
  go_enter Try.func23, Try.ntmps23
  go_wp2_with fail
  refine (HD.out.call fun v hp => close_any pg v p _ hp HPB.out).mono ?_
  rw [HQ.out]
  rintro e w1 ⟨rfl, hd1, hf1⟩
  have D1 := Lib.hid hd1
  have F1 := Lib.hid hf1
  clear hd1 hf1
  go_wp2_with fail
  refine (D1.out.rcall fun S rv hp => rclose_any S mg 0 rv p.most p.list _ hp HRB.out).mono ?_
  rw [HR.out]
  rintro e w2 ⟨rfl, hd2, hf2⟩
  have D2 := Lib.hid hd2
  have F2 := Lib.hid hf2
  clear hd2 hf2
  go_wp2_with fail
  go_ret2
  exact BothPost.of (w := w) HL.out HLT.out HF0.out F1.out (Fr.refl _ _) F2.out (Fr.refl _ _) D2.out
set_option maxRecDepth 8000 in
set_option maxHeartbeats 3200000 in
theorem both_clear (w : World) (F : Nat → Prop) (pg mg : Nat) (p : PS) (a : Sg) (h : Duo w F pg mg p p.most p.list) (hg : Good p) (hk : a.kind = 5) :
    Calls Try.prog 23 #[.pointer (some ⟨pg, 0, none⟩), .pointer (some ⟨mg, 0, none⟩), sgV a] w (BothPost w F pg mg p) := by
  have hsv : sgV a = .agg #[.int .i64 5, .int .i64 a.a.x, .int .i64 a.a.y, .int .i64 a.b.x, .int .i64 a.b.y, .int .i64 a.c.x, .int .i64 a.c.y] := by unfold sgV; rw [hk]
  rw [hsv]
  have hf0 : Fr Nob w (w.alloc (.cells #[.int .i64 5, .int .i64 a.a.x, .int .i64 a.a.y, .int .i64 a.b.x, .int .i64 a.b.y, .int .i64 a.c.x, .int .i64 a.c.y] 52)) := (Fr.refl Nob w).alloc _
  have HD := Lib.hid (h.nob hf0)
  have HL := Lib.hid (clear_like p hg)
  have HF0 := Lib.hid hf0
  have HLT := Lib.hid h.flt
  clear h hf0 hsv hg hk
  go_enter Try.func23, Try.ntmps23
  go_wp2_with fail
  refine (HD.out.call fun v hp => clear_any pg v p _ hp).mono ?_
  rintro e w1 ⟨rfl, hd1, hf1⟩
  have D1 := Lib.hid hd1
  have F1 := Lib.hid hf1
  obtain ⟨S, rv, hq, hstep⟩ := hd1.rstep
  have c1 := hq.c1
  have f1 := hq.f1
  have HST := Lib.hid hstep
  clear hd1 hf1 hq hstep
  go_wp2_with fail
  go_ret2
  have hs := HST.out [] (w1.setCell ⟨mg, 1, none⟩ (.slice none 0 0)) ⟨.slice none 0 0, w1, Fr.refl _ _, rfl, RowIn.nil _ _ _⟩
  exact BothPost.of (w := w) HL.out HLT.out HF0.out F1.out (Fr.refl _ _) hs.2 (Fr.refl _ _) hs.1
set_option maxRecDepth 8000 in
set_option maxHeartbeats 3200000 in
theorem both_none (w : World) (F : Nat → Prop) (pg mg : Nat) (p : PS) (a : Sg) (h : Duo w F pg mg p p.most p.list) (hg : Good p) (hk : ¬ a.kind = 1 ∧ ¬ a.kind = 2 ∧ ¬ a.kind = 3 ∧ ¬ a.kind = 4 ∧ ¬ a.kind = 5) :
    Calls Try.prog 23 #[.pointer (some ⟨pg, 0, none⟩), .pointer (some ⟨mg, 0, none⟩), sgV a] w (BothPost w F pg mg p) := by
  unfold sgV
  have hf0 : Fr Nob w (w.alloc (.cells #[.int .i64 a.kind, .int .i64 a.a.x, .int .i64 a.a.y, .int .i64 a.b.x, .int .i64 a.b.y, .int .i64 a.c.x, .int .i64 a.c.y] 52)) := (Fr.refl Nob w).alloc _
  have HG := Lib.hid hg
  have HF0 := Lib.hid hf0
  have HLT := Lib.hid h.flt
  have HH := Lib.hid h
  have q1 : (a.kind == 1) = false := by simpa using hk.1
  have q2 : (a.kind == 2) = false := by simpa using hk.2.1
  have q3 : (a.kind == 3) = false := by simpa using hk.2.2.1
  have q4 : (a.kind == 4) = false := by simpa using hk.2.2.2.1
  have q5 : (a.kind == 5) = false := by simpa using hk.2.2.2.2
  clear h hf0 hg hk
  go_enter Try.func23, Try.ntmps23
  go_wp2_with fail
  go_ret2
  exact ⟨p, 0, rfl, (HH.out.nob HF0.out).grow (fun k hk => .inl hk) (ext_lt HLT.out HF0.out.size), HF0.out.mono fun _ hh => hh.elim, HG.out, rfl, by omega⟩
theorem both_any (w : World) (F : Nat → Prop) (pg mg : Nat) (p : PS) (a : Sg) (h : Duo w F pg mg p p.most p.list) (hg : Good p) (hb : PB p) (hr : RB p.most p.list) :
    Calls Try.prog 23 #[.pointer (some ⟨pg, 0, none⟩), .pointer (some ⟨mg, 0, none⟩), sgV a] w (BothPost w F pg mg p) := by
  by_cases h1 : a.kind = 1
  · exact both_move w F pg mg p a h hg hb hr h1
  by_cases h2 : a.kind = 2
  · exact both_line w F pg mg p a h hg hb hr h2
  by_cases h3 : a.kind = 3
  · exact both_curve w F pg mg p a h hg hb hr h3
  by_cases h4 : a.kind = 4
  · exact both_close w F pg mg p a h hg hb hr h4
  by_cases h5 : a.kind = 5
  · exact both_clear w F pg mg p a h hg h5
  exact both_none w F pg mg p a h hg ⟨h1, h2, h3, h4, h5⟩
end Go.Proofs.Ytkkejjfmidgciaa
