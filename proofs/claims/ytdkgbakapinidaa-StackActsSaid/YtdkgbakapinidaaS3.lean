/-
  The walks of the stack's Push, All, Take, Pop, Top.
-/
import Derived.Test.YtdkgbakapinidaaS2
namespace Go.Proofs.Ytdkgbakapinidaa
open Go.RowKit
set_option linter.unusedVariables false
set_option linter.unusedSimpArgs false

/-- What a step leaves of a stack: its new state, the frame, where its list lies. -/
def StkTo (w : World) (g : Nat) (v : Value) (most over under : Int) (l : List Ob) (w' : World) : Prop :=
  ∃ v', Stk w' g v' most over under l ∧ Fr (stB g v) w w' ∧ ∀ b, v'.ownBlock = some b → v.ownBlock = some b ∨ w.heap.size ≤ b

theorem Stk.put {w : World} {g : Nat} {v v' : Value} {most over under : Int} {n : Nat} {cs : List Value} (l : List Ob) (h1 : Blk w g #[.int .i64 most, .int .i64 over, .int .i64 under, v] 53) (ho : OwnS w 37 8 v' n cs) (hn : n = l.length) (hc : cs = encs l) :
    Stk (w.setCell ⟨g, 3, none⟩ v') g v' most over under l := by
  subst hn; subst hc
  refine ⟨h1.set 3 v', ho.fr ((Fr.refl (fun k => k = g) w).setCell (p := ⟨g, 3, none⟩) (.inl rfl) v') fun k hk e => ?_⟩
  exact ho.ne h1 (by decide) k hk e

theorem push_over (g : Nat) (v : Value) (most over under : Int) (l : List Ob) (A : Option Addr) (n cap : Nat) (w : World) (h : Stk w g v most over under l) (hm : 0 ≤ most ∧ most ≤ 9223372036854775807) (hn : n ≤ 9223372036854775807)
    (ho : most - l.length < (n : Int)) :
    Calls Try.prog 8 #[.pointer (some ⟨g, 0, none⟩), .slice A n cap] w fun e w' => e = .returned (.int .i64 over) ∧ ∃ m, w' = w.drewN m := by
  obtain ⟨A', cap', rfl, h1, h2⟩ := h.form
  obtain ⟨c0, c1, c2, c3, f3⟩ := h.cells
  clear h
  go_enter Try.func8, Try.ntmps8
  go_wp2
  go_quiet (fail)
  go_wp2
  go_ret
  exact ⟨rfl, _, rfl⟩

set_option maxHeartbeats 400000 in
theorem push_in (g : Nat) (v : Value) (most over under : Int) (l m : List Ob) (x : Value) (S : Nat → Prop) (w : World) (h : Stk w g v most over under l) (hx : RowIn w S 8 x m.length (encs m)) (hm : 0 ≤ most ∧ most ≤ 9223372036854775807)
    (hS : ∀ k, S k → ¬ stB g v k) (ho : ((l ++ m).length : Int) ≤ most) (hb : (l.length + m.length) * 72 ≤ 140737488355328) :
    Calls Try.prog 8 #[.pointer (some ⟨g, 0, none⟩), x] w fun e w' => e = .returned (.int .i64 0) ∧ StkTo w g v most over under (l ++ m) w' := by
  obtain ⟨i0, hi, hz0, hz1, hz2⟩ := info_parts info37
  obtain ⟨A', cap', rfl, h1, h2⟩ := h.form
  obtain ⟨c0, c1, c2, c3, f3⟩ := h.cells
  have hn := hx.len_le
  rw [List.length_append] at ho
  obtain ⟨A, cap, rfl, _, _⟩ : ∃ A c, x = .slice A m.length c ∧ m.length ≤ c ∧ c ≤ maxLen := by obtain ⟨_, A, c, h, h1, h2, _⟩ := hx; exact ⟨A, c, h, h1, h2⟩
  have HX := Lib.hid hx
  have HH := Lib.hid h
  clear hx h
  have ho' : ¬ (most - l.length < (m.length : Int)) := by omega
  go_enter Try.func8, Try.ntmps8
  go_wp2
  go_quiet (fail)
  go_wp2_with (at_builtin; refine wpList_app _ rfl _ _ 22 rfl 37 i0 _ 8 72 Try.underlying22 hi hz0 hz1 hz2 rfl (by decide) _ l.length (encs l) rfl (HH.out.drewN _).2 S _ m.length (encs m) rfl (HX.out.fr (T := Nob) ((Fr.refl _ _).drewN _) fun _ _ hf => hf) ?c1 ?c2 ?c3 ?_)
  case c1 => exact encs_one m
  case c2 => unfold maxLen at *; omega
  case c3 => omega
  intro v' w1 hown hfr hat _
  obtain ⟨A1, cap1, rfl, _, _⟩ := hown.form
  have hg := fun k hk => HH.out.2.ne HH.out.1 (by decide) k hk
  have hb1 : Blk w1 g _ 53 := (HH.out.drewN nq).1.fr hfr fun hh => hg g hh rfl
  have k3 := hb1.cell 3
  have q3 := hb1.free 3
  simp only [List.getElem?_toArray, List.getElem?_cons_succ, List.getElem?_cons_zero] at k3
  have HB1 := Lib.hid hb1
  have HO1 := Lib.hid hown
  have HF1 := Lib.hid hfr
  have HAT := Lib.hid hat
  clear hg hb1 hown hfr hat c0 c1 c2 c3 f3
  go_wp2
  go_ret
  refine ⟨rfl, _, Stk.put (l ++ m) HB1.out HO1.out (by simp) (by simp [encs_append]), ?_, ?_⟩
  · refine (Fr.trans (((Fr.refl _ w).drewN nq).mono (S := Nob) fun _ hf => hf.elim) (HF1.out.mono fun k hk => .inr hk) fun k hk => .inl hk).setCell (.inl (.inl rfl)) _
  · intro b hb
    rcases HAT.out with e | e
    · exact .inl (e ▸ hb)
    · rw [e] at hb; cases hb; exact .inr (Nat.le_refl _)

theorem push_none (A : Option Addr) (n cap : Nat) (w : World) : Calls Try.prog 8 #[.pointer none, .slice A n cap] w fun e w' => e = .returned (.int .i64 21) ∧ w = w' := by
  go_enter Try.func8, Try.ntmps8
  go_wp2
  go_ret
  exact ⟨rfl, rfl⟩

theorem all_any (g : Nat) (v : Value) (most over under : Int) (l : List Ob) (w : World) (h : Stk w g v most over under l) (hs : l.length * 72 ≤ 140737488351232) :
    Calls Try.prog 11 #[.pointer (some ⟨g, 0, none⟩)] w fun e w' => ∃ vo, e = .returned vo ∧ OwnS w' 37 8 vo l.length (encs l) ∧ Fr Nob w w' ∧ NewV w vo := by
  obtain ⟨c0, c1, c2, c3, f3⟩ := h.cells
  have HH := Lib.hid h
  obtain ⟨A, cap, rfl, h1, h2⟩ := h.form
  clear h
  go_enter Try.func11, Try.ntmps11
  go_wp2_with fail
  refine (clone_any _ l.length l _ _ HH.out.2.row hs).mono ?_
  rintro e w1 ⟨vo, rfl, ho, hf, hn⟩
  go_wp2
  go_ret
  exact ⟨vo, rfl, ho, hf, hn⟩
theorem all_none (w : World) : Calls Try.prog 11 #[.pointer none] w fun e w' => e = .returned (.slice none 0 0) ∧ w = w' := by
  go_enter Try.func11, Try.ntmps11
  go_wp2
  go_ret
  exact ⟨rfl, rfl⟩

theorem encs_drop (l : List Ob) (k : Nat) : (encs l).drop (k * 8) = encs (l.drop k) := by
  induction l generalizing k with
  | nil => simp [encs]
  | cons a r ih =>
    cases k with
    | zero => simp
    | succ k =>
      have hc : encs (a :: r) = enc a ++ encs r := by simp [encs]
      rw [hc, List.drop_append, List.drop_eq_nil_of_le (by simp [enc]; omega), List.drop_succ_cons, ← ih k]
      simp only [List.nil_append]
      congr 1
      simp [enc]; omega
theorem encs_take (l : List Ob) (k : Nat) : (encs l).take (k * 8) = encs (l.take k) := by
  induction l generalizing k with
  | nil => simp [encs]
  | cons a r ih =>
    cases k with
    | zero => simp [encs]
    | succ k =>
      have hc : encs (a :: r) = enc a ++ encs r := by simp [encs]
      have hc' : encs (a :: r.take k) = enc a ++ encs (r.take k) := by simp [encs]
      rw [hc, List.take_append, List.take_of_length_le (by simp [enc]; omega), List.take_succ_cons, hc', ← ih k]
      congr 2
      simp [enc]; omega

/-- Three steps: what a callee leaves, in whatever order. -/
theorem take_err (g : Nat) (v : Value) (most over under : Int) (l : List Ob) (n : Int) (c : Int) (hc : chkF n l.length under = c) (hne : c ≠ 0) (w : World) (h : Stk w g v most over under l) :
    Calls Try.prog 13 #[.pointer (some ⟨g, 0, none⟩), .int .i64 n] w fun e w' => e = .returned (.tuple #[.slice none 0 0, .int .i64 c]) ∧ w = w' := by
  have HH := Lib.hid h
  have HC := Lib.hid hc
  have hb : (c == 0) = false := by simpa using hne
  have hb2 : (c != 0) = true := by simpa using hne
  clear h hc hne
  go_enter Try.func13, Try.ntmps13
  go_wp2_with fail
  refine (check_any g v most over under l n _ HH.out).mono ?_
  rintro e w1 ⟨rfl, rfl⟩
  rw [HC.out]
  go_wp2
  go_ret2
  exact ⟨rfl, rfl⟩

set_option maxHeartbeats 400000 in
theorem take_in (g : Nat) (v : Value) (most over under : Int) (l : List Ob) (n : Nat) (hn : n ≤ l.length) (w : World) (h : Stk w g v most over under l) (hs : l.length * 72 ≤ 140737488351232) :
    Calls Try.prog 13 #[.pointer (some ⟨g, 0, none⟩), .int .i64 n] w fun e w' => ∃ vo, e = .returned (.tuple #[vo, .int .i64 0]) ∧ OwnS w' 37 8 vo n (encs (l.drop (l.length - n))) ∧ NewV w vo ∧
      StkTo w g v most over under (l.take (l.length - n)) w' := by
  obtain ⟨i0, hi, hz0, hz1, hz2⟩ := info_parts info37
  obtain ⟨c0, c1, c2, c3, f3⟩ := h.cells
  have hc : chkF n l.length under = 0 := by unfold chkF; rw [if_neg (by omega), if_neg (by omega)]
  have HC := Lib.hid hc
  have HH := Lib.hid h
  obtain ⟨A, cap, rfl, h1, h2⟩ := h.form
  obtain ⟨k, hk⟩ : ∃ k, l.length - n = k := ⟨_, rfl⟩
  have hkn : k + n = l.length := by omega
  have hkk : (l.length : Int) - n = k := by omega
  have hd := fun w => run_dropV (P := Try.prog) Try.underlying22 hi A l.length cap k (by omega) w
  have ht := fun w => run_cutV (P := Try.prog) Try.underlying22 hi A l.length cap k (by omega) w
  rw [hz1] at hd
  have hrow := (HH.out.2.row.dropV k (by omega) (by omega))
  rw [encs_drop] at hrow
  have hln : l.length - k = n := by omega
  have HL := Lib.hid (show (l.drop k).length = n by simp; omega)
  rw [hln] at hrow
  have HR := Lib.hid hrow
  rw [hk]
  clear h hc hk hrow hln
  have hkl : k ≤ l.length := by omega
  go_enter Try.func13, Try.ntmps13
  go_wp2_with fail
  refine (check_any g _ most over under l n _ HH.out).mono ?_
  rintro e w1 ⟨rfl, rfl⟩
  rw [HC.out]
  go_wp2_with fail
  refine (clone_any _ n (l.drop k) _ _ (by rw [HL.out]; exact HR.out) (by rw [HL.out]; omega)).mono ?_
  rintro e w1 ⟨vo, rfl, ho, hf, hv⟩
  rw [HL.out] at ho
  have hs1 : Stk w1 g _ most over under l := HH.out.fr hf fun _ _ hf => hf
  have k3 := hs1.cells.c3
  have q3 := hs1.cells.f3
  have HS1 := Lib.hid hs1
  have HO := Lib.hid ho
  have HF := Lib.hid hf
  have HV := Lib.hid hv
  clear c0 c1 c2 c3 f3 hs1 ho hf hv
  have hcv : cutV (.slice A l.length cap) k = .slice A k k := rfl
  rw [hcv] at ht
  go_wp2_with fail
  go_ret2
  have hcut := HS1.out.2.cutV k hkl
  rw [hcv, encs_take] at hcut
  have hput := Stk.put (l.take k) HS1.out.1 hcut.1 (by simp; omega) rfl
  have hne := HS1.out.2.ne HS1.out.1 (by decide)
  refine ⟨vo, rfl, HO.out.fr ((Fr.refl (fun k => k = g) w1).setCell (p := ⟨g, 3, none⟩) (.inl rfl) _) ?_, HV.out, _, hput, (HF.out.mono fun _ hf => hf.elim).setCell (.inl (.inl rfl)) _, fun b hb => .inl (hcut.2 ▸ hb)⟩
  intro b hb e
  have h1 := HV.out b hb
  have h2 := HH.out.1.lt
  omega

def obV (o : Ob) : Value := .agg #[.int .i64 o.kind, .bool o.exec, .int .i64 o.access, .int .i64 o.n, .string o.name, .int .i64 o.ref, .int .i64 o.frm, .int .i64 o.len]
theorem OwnS.ob {w : World} {v : Value} {n : Nat} {l : List Ob} (h : OwnS w 37 8 v n (encs l)) (hl : l.length = n) (hn : 0 < n) :
    ∃ b cap, v = .slice (some ⟨b, 0, none⟩) n cap ∧ n ≤ cap ∧ cap ≤ 9223372036854775807 ∧ (∀ k, (hk : k < l.length) → ObAt w b (k * 8) l[k]) := by
  subst hl
  obtain ⟨b, off, cap, hv, h1, h2, hS, hc⟩ := h.row.ob hn
  have : off = 0 := by
    rcases h.2 with ⟨rfl, _⟩ | ⟨g', cap', cur', rfl, _⟩
    · cases hv
    · cases hv; rfl
  subst this
  exact ⟨b, cap, hv, h1, h2, fun k hk => by simpa using hc k hk⟩

theorem pop_err (g : Nat) (v : Value) (most over under : Int) (l : List Ob) (c : Int) (hc : chkF 1 l.length under = c) (hne : c ≠ 0) (w : World) (h : Stk w g v most over under l) :
    Calls Try.prog 12 #[.pointer (some ⟨g, 0, none⟩)] w fun e w' => e = .returned (.tuple #[obV Ob.zero, .int .i64 c]) ∧ Fr Nob w w' := by
  have HH := Lib.hid h
  have HC := Lib.hid hc
  have hb : (c == 0) = false := by simpa using hne
  have hb2 : (c != 0) = true := by simpa using hne
  have HN := Lib.hid hne
  clear h hc hne
  go_enter Try.func12, Try.ntmps12
  go_wp2_with fail
  refine (take_err g v most over under l 1 c HC.out HN.out _ (HH.out.fr ((Fr.refl Nob w).alloc _) fun _ _ hf => hf)).mono ?_
  rintro e w1 ⟨rfl, rfl⟩
  go_wp2_with fail
  exact bodyPost_ret (results_ct rfl _ _ _ 37 _ _ rfl (Blk.new w _ _) Try.underlying37 rfl (by kernel_rfl)) rfl ⟨rfl, (Fr.refl Nob w).alloc _⟩
theorem take_none (n : Int) (w : World) : Calls Try.prog 13 #[.pointer none, .int .i64 n] w fun e w' => e = .returned (.tuple #[.slice none 0 0, .int .i64 21]) ∧ w = w' := by
  go_enter Try.func13, Try.ntmps13
  go_wp2_with fail
  refine (check_none n _).mono ?_
  rintro e w1 ⟨rfl, rfl⟩
  go_wp2
  go_ret2
  exact ⟨rfl, rfl⟩
theorem pop_none (w : World) : Calls Try.prog 12 #[.pointer none] w fun e w' => e = .returned (.tuple #[obV Ob.zero, .int .i64 21]) ∧ Fr Nob w w' := by
  go_enter Try.func12, Try.ntmps12
  go_wp2_with fail
  refine (take_none 1 _).mono ?_
  rintro e w1 ⟨rfl, rfl⟩
  go_wp2_with fail
  exact bodyPost_ret (results_ct rfl _ _ _ 37 _ _ rfl (Blk.new w _ _) Try.underlying37 rfl (by kernel_rfl)) rfl ⟨rfl, (Fr.refl Nob w).alloc _⟩


/-- A whole object is stored into a block of its own. -/
theorem ob_stored {w : World} {g : Nat} {c0 c1 c2 c3 c4 c5 c6 c7 : Value} (h : Blk w g #[c0, c1, c2, c3, c4, c5, c6, c7] 37) (x : Ob) :
    Blk (((((((((w.setCell ⟨g, 0, none⟩ (.int .i64 x.kind)).setCell ⟨g, 1, none⟩ (.bool x.exec)).setCell ⟨g, 2, none⟩ (.int .i64 x.access)).setCell ⟨g, 3, none⟩ (.int .i64 x.n)).setCell ⟨g, 4, none⟩ (.string x.name)).setCell ⟨g, 5, none⟩ (.int .i64 x.ref)).setCell ⟨g, 6, none⟩ (.int .i64 x.frm)).setCell ⟨g, 7, none⟩ (.int .i64 x.len))) g #[.int .i64 x.kind, .bool x.exec, .int .i64 x.access, .int .i64 x.n, .string x.name, .int .i64 x.ref, .int .i64 x.frm, .int .i64 x.len] 37 := by
  have := (((((((h.set 0 (.int .i64 x.kind)).set 1 (.bool x.exec)).set 2 (.int .i64 x.access)).set 3 (.int .i64 x.n)).set 4 (.string x.name)).set 5 (.int .i64 x.ref)).set 6 (.int .i64 x.frm)).set 7 (.int .i64 x.len)
  simpa using this
theorem ob_stored_fr (w : World) (g : Nat) (x : Ob) : Fr (fun k => k = g) w (((((((((w.setCell ⟨g, 0, none⟩ (.int .i64 x.kind)).setCell ⟨g, 1, none⟩ (.bool x.exec)).setCell ⟨g, 2, none⟩ (.int .i64 x.access)).setCell ⟨g, 3, none⟩ (.int .i64 x.n)).setCell ⟨g, 4, none⟩ (.string x.name)).setCell ⟨g, 5, none⟩ (.int .i64 x.ref)).setCell ⟨g, 6, none⟩ (.int .i64 x.frm)).setCell ⟨g, 7, none⟩ (.int .i64 x.len))) :=
  (((((((((Fr.refl (fun k => k = g) w).setCell (p := ⟨g, 0, none⟩) (.inl rfl) _).setCell (p := ⟨g, 1, none⟩) (.inl rfl) _).setCell (p := ⟨g, 2, none⟩) (.inl rfl) _).setCell (p := ⟨g, 3, none⟩) (.inl rfl) _).setCell (p := ⟨g, 4, none⟩) (.inl rfl) _).setCell (p := ⟨g, 5, none⟩) (.inl rfl) _).setCell (p := ⟨g, 6, none⟩) (.inl rfl) _).setCell (p := ⟨g, 7, none⟩) (.inl rfl) _)
set_option maxHeartbeats 400000 in
theorem pop_in (g : Nat) (v : Value) (most over under : Int) (l : List Ob) (x : Ob) (w : World) (h : Stk w g v most over under (l ++ [x])) (hs : (l.length + 1) * 72 ≤ 140737488351232) :
    Calls Try.prog 12 #[.pointer (some ⟨g, 0, none⟩)] w fun e w' => e = .returned (.tuple #[obV x, .int .i64 0]) ∧ StkTo w g v most over under l w' := by
  have hlt := h.1.lt
  have hllt := h.2.lt
  have HH := Lib.hid h
  clear h
  go_enter Try.func12, Try.ntmps12
  go_wp2_with fail
  refine (take_in g v most over under (l ++ [x]) 1 (by simp) _ (HH.out.fr ((Fr.refl Nob w).alloc _) fun _ _ hf => hf) (by simp; omega)).mono ?_
  rintro e w1 ⟨vo, rfl, ho, hn, v', hst, hf, hat⟩
  have e1 : (l ++ [x]).length - 1 = l.length := by simp
  rw [e1, List.drop_left] at ho
  rw [e1, List.take_left] at hst
  obtain ⟨b, cap, rfl, h1, h2, hc⟩ := ho.ob rfl (by omega)
  obtain ⟨a0, a1, a2, a3, a4, a5, a6, a7⟩ := hc 0 (by simp)
  simp only [Nat.zero_mul, Nat.zero_add, List.getElem_cons_zero] at a0 a1 a2 a3 a4 a5 a6 a7
  have hb := (Blk.new w #[.int .i64 0, .bool false, .int .i64 0, .int .i64 0, .string ⟨#[]⟩, .int .i64 0, .int .i64 0, .int .i64 0] 37).fr hf (by
    rintro (e | e)
    · omega
    · have := hllt _ e; omega)
  have hbb : b ≠ w.heap.size := by
    have := hn b rfl
    simp at this
    omega
  have k0 := hb.cell 0; have k1 := hb.cell 1; have k2 := hb.cell 2; have k3 := hb.cell 3; have k4 := hb.cell 4; have k5 := hb.cell 5; have k6 := hb.cell 6; have k7 := hb.cell 7
  have q0 := hb.free 0; have q1 := hb.free 1; have q2 := hb.free 2; have q3 := hb.free 3; have q4 := hb.free 4; have q5 := hb.free 5; have q6 := hb.free 6; have q7 := hb.free 7
  simp only [List.getElem?_toArray, List.getElem?_cons_succ, List.getElem?_cons_zero] at k0 k1 k2 k3 k4 k5 k6 k7
  have HB := Lib.hid hb
  have HST := Lib.hid hst
  have HF := Lib.hid hf
  have HAT := Lib.hid hat
  clear hb hst hf hat ho hc hn e1
  go_wp2_with fail
  have hB := ob_stored HB.out x
  have hFr := ob_stored_fr w1 w.heap.size x
  refine bodyPost_ret (results_ct rfl _ _ _ 37 _ _ rfl hB Try.underlying37 rfl (by kernel_rfl)) rfl ⟨rfl, v', HST.out.fr hFr ?_, ?_, ?_⟩
  · rintro k (rfl | hk) e
    · omega
    · rcases HAT.out k hk with h | hb'
      · have := hllt k h; omega
      · simp at hb'; omega
  · refine Fr.trans (Fr.trans (((Fr.refl (stB g v) w).alloc _)) HF.out fun k hk => .inl hk) hFr ?_
    rintro k rfl
    exact .inr (Nat.le_refl _)
  · intro b' hb
    rcases HAT.out b' hb with h | hb'
    · exact .inl h
    · exact .inr (by simp at hb'; omega)

set_option maxHeartbeats 800000 in
theorem top_err (g : Nat) (v : Value) (most over under : Int) (l : List Ob) (n : Int) (hn : n < 0 ∨ (l.length : Int) ≤ n) (hu : under ≠ 0) (w : World) (h : Stk w g v most over under l) :
    Calls Try.prog 14 #[.pointer (some ⟨g, 0, none⟩), .int .i64 n] w fun e w' => e = .returned (.tuple #[obV Ob.zero, .int .i64 (if n < 0 then 11 else under)]) ∧ Fr Nob w w' := by
  have HH := Lib.hid h
  have hu1 : (under == 0) = false := by simpa using hu
  have hu2 : (under != 0) = true := by simpa using hu
  clear h hu
  by_cases h0 : n < 0
  · rw [if_pos h0]
    clear hn
    go_enter Try.func14, Try.ntmps14
    go_wp2_with fail
    refine (place_low g v most over under l n h0 _ (HH.out.fr ((Fr.refl Nob w).alloc _) fun _ _ hf => hf)).mono ?_
    rintro e w1 ⟨rfl, m, rfl⟩
    go_wp2_with fail
    have hB := ob_stored ((Blk.new w #[.int .i64 0, .bool false, .int .i64 0, .int .i64 0, .string ⟨#[]⟩, .int .i64 0, .int .i64 0, .int .i64 0] 37).drewN m) Ob.zero
    have hFr := ob_stored_fr ((w.alloc (.cells #[.int .i64 0, .bool false, .int .i64 0, .int .i64 0, .string ⟨#[]⟩, .int .i64 0, .int .i64 0, .int .i64 0] 37)).drewN m) w.heap.size Ob.zero
    have hfin : Fr Nob w _ := Fr.trans (((Fr.refl Nob w).alloc _).drewN m) hFr (fun k e => .inr (by subst e; exact Nat.le_refl _))
    exact bodyPost_ret (results_ct rfl _ _ _ 37 _ _ rfl hB Try.underlying37 rfl (by kernel_rfl)) rfl ⟨rfl, hfin⟩
  · rw [if_neg h0]
    have hl : (l.length : Int) ≤ n := by omega
    clear hn
    go_enter Try.func14, Try.ntmps14
    go_wp2_with fail
    refine (place_high g v most over under l n hl _ (HH.out.fr ((Fr.refl Nob w).alloc _) fun _ _ hf => hf)).mono ?_
    rintro e w1 ⟨rfl, m, rfl⟩
    go_wp2_with fail
    have hB := ob_stored ((Blk.new w #[.int .i64 0, .bool false, .int .i64 0, .int .i64 0, .string ⟨#[]⟩, .int .i64 0, .int .i64 0, .int .i64 0] 37).drewN m) Ob.zero
    have hFr := ob_stored_fr ((w.alloc (.cells #[.int .i64 0, .bool false, .int .i64 0, .int .i64 0, .string ⟨#[]⟩, .int .i64 0, .int .i64 0, .int .i64 0] 37)).drewN m) w.heap.size Ob.zero
    have hfin : Fr Nob w _ := Fr.trans (((Fr.refl Nob w).alloc _).drewN m) hFr (fun k e => .inr (by subst e; exact Nat.le_refl _))
    exact bodyPost_ret (results_ct rfl _ _ _ 37 _ _ rfl hB Try.underlying37 rfl (by kernel_rfl)) rfl ⟨rfl, hfin⟩
theorem top_none (n : Int) (w : World) : Calls Try.prog 14 #[.pointer none, .int .i64 n] w fun e w' => e = .returned (.tuple #[obV Ob.zero, .int .i64 21]) ∧ Fr Nob w w' := by
  go_enter Try.func14, Try.ntmps14
  go_wp2_with fail
  refine (place_none n _).mono ?_
  rintro e w1 ⟨rfl, rfl⟩
  go_wp2_with fail
  exact bodyPost_ret (results_ct rfl _ _ _ 37 _ _ rfl (Blk.new w _ _) Try.underlying37 rfl (by kernel_rfl)) rfl ⟨rfl, (Fr.refl Nob w).alloc _⟩

set_option maxHeartbeats 400000 in
theorem top_in (g : Nat) (v : Value) (most over under : Int) (l : List Ob) (n k : Nat) (hk : k < l.length) (hkn : k + 1 + n = l.length) (w : World) (h : Stk w g v most over under l) :
    Calls Try.prog 14 #[.pointer (some ⟨g, 0, none⟩), .int .i64 n] w fun e w' => e = .returned (.tuple #[obV l[k], .int .i64 0]) ∧ Fr Nob w w' := by
  have HH := Lib.hid h
  have hlt := h.1.lt
  obtain ⟨b, cap, rfl, h1, h2, hc⟩ := h.2.ob rfl (by omega)
  obtain ⟨a0, a1, a2, a3, a4, a5, a6, a7⟩ := hc k hk
  have hbl := h.2.lt b rfl
  obtain ⟨c0, c1, c2, c3, f3⟩ := h.cells
  have hkk : (l.length : Int) - 1 - n = k := by omega
  have hkl : (k : Int) < l.length := by omega
  have hn : n < l.length := by omega
  generalize l[k] = x at *
  clear h hc
  go_enter Try.func14, Try.ntmps14
  go_wp2_with fail
  refine (place_in g _ most over under l n hn _ (HH.out.fr ((Fr.refl Nob w).alloc _) fun _ _ hf => hf)).mono ?_
  rintro e w1 ⟨rfl, m, rfl⟩
  have hgb : g ≠ w.heap.size := by omega
  have hbb : b ≠ w.heap.size := by omega
  go_wp2_with fail
  have hB := ob_stored ((Blk.new w #[.int .i64 0, .bool false, .int .i64 0, .int .i64 0, .string ⟨#[]⟩, .int .i64 0, .int .i64 0, .int .i64 0] 37).drewN m) x
  have hFr := ob_stored_fr ((w.alloc (.cells #[.int .i64 0, .bool false, .int .i64 0, .int .i64 0, .string ⟨#[]⟩, .int .i64 0, .int .i64 0, .int .i64 0] 37)).drewN m) w.heap.size x
  refine bodyPost_ret (results_ct rfl _ _ _ 37 _ _ rfl hB Try.underlying37 rfl (by kernel_rfl)) rfl ⟨rfl, ?_⟩
  refine Fr.trans (((Fr.refl Nob w).alloc _).drewN m) hFr ?_
  rintro k rfl
  exact .inr (Nat.le_refl _)
end Go.Proofs.Ytdkgbakapinidaa
