/-
  The walks of the stack's Swap, ToMark, Reset, fits, Need.
-/
import Derived.Test.YtdkgbakapinidaaS3
import Derived.StillTailTactics
namespace Go.Proofs.Ytdkgbakapinidaa
open Go.RowKit
set_option linter.unusedVariables false
set_option linter.unusedSimpArgs false

set_option maxHeartbeats 800000 in
theorem swap_err (g : Nat) (v : Value) (most over under : Int) (l : List Ob) (n : Int) (x : Ob) (hn : n < 0 ∨ (l.length : Int) ≤ n) (hu : under ≠ 0) (w : World) (h : Stk w g v most over under l) :
    Calls Try.prog 15 #[.pointer (some ⟨g, 0, none⟩), .int .i64 n, obV x] w fun e w' => e = .returned (.int .i64 (if n < 0 then 11 else under)) ∧ Fr Nob w w' := by
  have HH := Lib.hid h
  have hu1 : (under == 0) = false := by simpa using hu
  have hu2 : (under != 0) = true := by simpa using hu
  clear h hu
  unfold obV
  by_cases h0 : n < 0
  · rw [if_pos h0]
    clear hn
    go_enter Try.func15, Try.ntmps15
    go_wp2_with fail
    refine (place_low g v most over under l n h0 _ (HH.out.fr ((Fr.refl Nob w).alloc _) fun _ _ hf => hf)).mono ?_
    rintro e w1 ⟨rfl, m, rfl⟩
    go_wp2_with fail
    go_ret
    exact ⟨rfl, ((Fr.refl Nob w).alloc _).drewN _⟩
  · rw [if_neg h0]
    have hl : (l.length : Int) ≤ n := by omega
    clear hn
    go_enter Try.func15, Try.ntmps15
    go_wp2_with fail
    refine (place_high g v most over under l n hl _ (HH.out.fr ((Fr.refl Nob w).alloc _) fun _ _ hf => hf)).mono ?_
    rintro e w1 ⟨rfl, m, rfl⟩
    go_wp2_with fail
    go_ret
    exact ⟨rfl, ((Fr.refl Nob w).alloc _).drewN _⟩
theorem swap_none (n : Int) (x : Ob) (w : World) : Calls Try.prog 15 #[.pointer none, .int .i64 n, obV x] w fun e w' => e = .returned (.int .i64 21) ∧ Fr Nob w w' := by
  unfold obV
  go_enter Try.func15, Try.ntmps15
  go_wp2_with fail
  refine (place_none n _).mono ?_
  rintro e w1 ⟨rfl, rfl⟩
  go_wp2_with fail
  go_ret
  exact ⟨rfl, (Fr.refl Nob w).alloc _⟩

/-- The cells of an object in a block of its own. -/
structure ObC (w : World) (g : Nat) (x : Ob) : Prop where
  c0 : w.cell? ⟨g, 0, none⟩ = some (.int .i64 x.kind)
  c1 : w.cell? ⟨g, 1, none⟩ = some (.bool x.exec)
  c2 : w.cell? ⟨g, 2, none⟩ = some (.int .i64 x.access)
  c3 : w.cell? ⟨g, 3, none⟩ = some (.int .i64 x.n)
  c4 : w.cell? ⟨g, 4, none⟩ = some (.string x.name)
  c5 : w.cell? ⟨g, 5, none⟩ = some (.int .i64 x.ref)
  c6 : w.cell? ⟨g, 6, none⟩ = some (.int .i64 x.frm)
  c7 : w.cell? ⟨g, 7, none⟩ = some (.int .i64 x.len)
theorem ObC.of {w : World} {g : Nat} {x : Ob} (h : Blk w g (enc x).toArray 37) : ObC w g x :=
  ⟨h.cell 0, h.cell 1, h.cell 2, h.cell 3, h.cell 4, h.cell 5, h.cell 6, h.cell 7⟩
/-- An object is stored into a place of a list. -/
theorem OwnS.setOb {w : World} {v : Value} {n b : Nat} {l : List Ob} (h : OwnS w 37 8 v n (encs l)) (hv : v.ownBlock = some b) (hl : l.length = n) (k : Nat) (hk : k < l.length) (x : Ob) :
    OwnS ((((((((w.setCell ⟨b, k * 8, none⟩ (.int .i64 x.kind)).setCell ⟨b, k * 8 + 1, none⟩ (.bool x.exec)).setCell ⟨b, k * 8 + 2, none⟩ (.int .i64 x.access)).setCell ⟨b, k * 8 + 3, none⟩ (.int .i64 x.n)).setCell ⟨b, k * 8 + 4, none⟩ (.string x.name)).setCell ⟨b, k * 8 + 5, none⟩ (.int .i64 x.ref)).setCell ⟨b, k * 8 + 6, none⟩ (.int .i64 x.frm)).setCell ⟨b, k * 8 + 7, none⟩ (.int .i64 x.len)) 37 8 v n (encs (l.set k x)) := by
  subst hl
  have h8 := (((((((h.store hv (k * 8) (by omega) (.int .i64 x.kind)).store hv (k * 8 + 1) (by omega) (.bool x.exec)).store hv (k * 8 + 2) (by omega) (.int .i64 x.access)).store hv (k * 8 + 3) (by omega) (.int .i64 x.n)).store hv (k * 8 + 4) (by omega) (.string x.name)).store hv (k * 8 + 5) (by omega) (.int .i64 x.ref)).store hv (k * 8 + 6) (by omega) (.int .i64 x.frm)).store hv (k * 8 + 7) (by omega) (.int .i64 x.len)
  have e : (((((((((encs l).set (k * 8) (.int .i64 x.kind)).set (k * 8 + 1) (.bool x.exec)).set (k * 8 + 2) (.int .i64 x.access)).set (k * 8 + 3) (.int .i64 x.n)).set (k * 8 + 4) (.string x.name)).set (k * 8 + 5) (.int .i64 x.ref)).set (k * 8 + 6) (.int .i64 x.frm)).set (k * 8 + 7) (.int .i64 x.len)) = encs (l.set k x) := by
    clear h h8 hv
    induction l generalizing k with
    | nil => simp at hk
    | cons a r ih =>
      cases k with
      | zero => simp [encs, enc]
      | succ k =>
        have hr := ih k (by simpa using hk)
        have hc : ∀ (a : Ob) (r : List Ob), encs (a :: r) = enc a ++ encs r := fun a r => by simp [encs]
        rw [List.set_cons_succ, hc, hc, ← hr]
        have hs : ∀ (i : Nat) (u : Value) (t : List Value), (enc a ++ t).set ((k + 1) * 8 + i) u = enc a ++ t.set (k * 8 + i) u := fun i u t => by
          rw [List.set_append_right _ _ (by simp [enc]; omega)]
          congr 2
          simp [enc]; omega
        have h0 := hs 0
        simp only [Nat.add_zero] at h0
        rw [h0, hs, hs, hs, hs, hs, hs, hs]
  rw [e] at h8
  exact h8
theorem ob_set_fr (w : World) (b o : Nat) (x : Ob) : Fr (fun k => k = b) w ((((((((w.setCell ⟨b, o, none⟩ (.int .i64 x.kind)).setCell ⟨b, o + 1, none⟩ (.bool x.exec)).setCell ⟨b, o + 2, none⟩ (.int .i64 x.access)).setCell ⟨b, o + 3, none⟩ (.int .i64 x.n)).setCell ⟨b, o + 4, none⟩ (.string x.name)).setCell ⟨b, o + 5, none⟩ (.int .i64 x.ref)).setCell ⟨b, o + 6, none⟩ (.int .i64 x.frm)).setCell ⟨b, o + 7, none⟩ (.int .i64 x.len)) :=
  (((((((((Fr.refl (fun k => k = b) w).setCell (p := ⟨b, o, none⟩) (.inl rfl) _).setCell (p := ⟨b, o + 1, none⟩) (.inl rfl) _).setCell (p := ⟨b, o + 2, none⟩) (.inl rfl) _).setCell (p := ⟨b, o + 3, none⟩) (.inl rfl) _).setCell (p := ⟨b, o + 4, none⟩) (.inl rfl) _).setCell (p := ⟨b, o + 5, none⟩) (.inl rfl) _).setCell (p := ⟨b, o + 6, none⟩) (.inl rfl) _).setCell (p := ⟨b, o + 7, none⟩) (.inl rfl) _)

set_option maxHeartbeats 800000 in
theorem swap_in (g : Nat) (v : Value) (most over under : Int) (l : List Ob) (n k : Nat) (x : Ob) (hk : k < l.length) (hkn : k + 1 + n = l.length) (w : World) (h : Stk w g v most over under l) :
    Calls Try.prog 15 #[.pointer (some ⟨g, 0, none⟩), .int .i64 n, obV x] w fun e w' => e = .returned (.int .i64 0) ∧ StkTo w g v most over under (l.set k x) w' := by
  have HH := Lib.hid h
  have hlt := h.1.lt
  obtain ⟨b, cap, rfl, h1, h2, _⟩ := h.2.ob rfl (by omega)
  have hkk : (l.length : Int) - 1 - n = k := by omega
  have hkl : (k : Int) < l.length := by omega
  have hn : n < l.length := by omega
  have hgb := HH.out.2.ne HH.out.1 (by decide) b rfl
  clear h
  unfold obV
  go_enter Try.func15, Try.ntmps15
  go_wp2_with fail
  have hbx := Blk.new w (enc x).toArray 37
  have hf1 := (Fr.refl Nob w).alloc (.cells (enc x).toArray 37)
  have hs1 := HH.out.fr hf1 fun _ _ hf => hf
  refine (place_in g _ most over under l n hn _ hs1).mono ?_
  rintro e w1 ⟨rfl, m, hm⟩
  have hbx1 : Blk w1 w.heap.size (enc x).toArray 37 := by rw [hm]; exact hbx.drewN m
  have hs2 : Stk w1 g (.slice (some ⟨b, 0, none⟩) l.length cap) most over under l := by rw [hm]; exact hs1.drewN m
  have HF : Fr Nob w w1 := by rw [hm]; exact hf1.drewN m
  rw [hkk]
  clear hm hs1 hf1 hbx
  have HX := Lib.hid hbx1
  have HS := Lib.hid hs2
  have HFF := Lib.hid HF
  obtain ⟨k0, k1, k2, k3, k4, k5, k6, k7⟩ := ObC.of hbx1
  obtain ⟨c0, c1, c2, c3, f3⟩ := hs2.cells
  obtain ⟨b', cap', hv', _, _, hc⟩ := hs2.2.ob rfl (by omega)
  obtain ⟨rfl, rfl⟩ : b' = b ∧ cap' = cap := by cases hv'; exact ⟨rfl, rfl⟩
  obtain ⟨a0, a1, a2, a3, a4, a5, a6, a7⟩ := hc k hk
  have hfz : ∀ j, w1.frozen? ⟨b', j, none⟩ = false := by
    obtain ⟨_, ⟨h0, _⟩ | ⟨g', cap', cur, hv, hb, _⟩⟩ := hs2.2
    · cases h0
    · cases hv; exact hb.free
  have q0 := hfz (k * 8); have q1 := hfz (k * 8 + 1); have q2 := hfz (k * 8 + 2); have q3 := hfz (k * 8 + 3); have q4 := hfz (k * 8 + 4); have q5 := hfz (k * 8 + 5); have q6 := hfz (k * 8 + 6); have q7 := hfz (k * 8 + 7)
  generalize l[k] = y at *
  clear hbx1 hs2 HF hc hfz hv'
  go_wp2_with fail
  go_still_tail 7, (by kernel_rfl)
  change wpList _ _ _ _ _ w1.drew
  go_wp2_with fail
  go_ret
  have hset := HS.out.2.setOb rfl rfl k hk x
  have hfr := ob_set_fr w1 b' (k * 8) x
  have hfin : Fr (stB g (.slice (some ⟨b', 0, none⟩) l.length cap')) w1 _ := hfr.mono fun k e => .inr (by subst e; rfl)
  have hn : Fr (stB g (.slice (some ⟨b', 0, none⟩) l.length cap')) w w1 := HFF.out.mono fun _ hf => hf.elim
  refine ⟨rfl, _, ⟨?_, ?_⟩, ((hn.trans hfin fun k hk => .inl hk).drew), fun b hb => .inl hb⟩
  · exact (HS.out.1.fr hfr fun e => hgb e.symm).drew
  · rw [List.length_set]
    exact hset.fr ((Fr.refl Nob _).drew) fun _ _ hf => hf

/-! ToMark -/
/-- How many stand above the topmost mark. -/
def markF (l : List Ob) : Option Nat := l.reverse.findIdx? fun o => o.kind == 4
def markV (l : List Ob) : Value := match markF l with
  | some k => .tuple #[.int .i64 k, .int .i64 0]
  | none => .tuple #[.int .i64 0, .int .i64 19]
theorem mark_hit (l : List Ob) (i : Nat) (hi : i < l.length) (h : l[l.length - 1 - i].kind = 4) (hb : ∀ j, (hj : j < i) → l[l.length - 1 - j].kind ≠ 4) : markF l = some i := by
  unfold markF
  rw [List.findIdx?_eq_some_iff_getElem]
  refine ⟨by simpa using hi, ?_, ?_⟩
  · rw [List.getElem_reverse]; simpa using h
  · intro j hj
    rw [List.getElem_reverse]; simpa using hb j hj
theorem mark_none (l : List Ob) (hb : ∀ j, (hj : j < l.length) → l[l.length - 1 - j].kind ≠ 4) : markF l = none := by
  unfold markF
  rw [List.findIdx?_eq_none_iff]
  intro o ho
  obtain ⟨j, hj, rfl⟩ := List.getElem_of_mem ho
  rw [List.getElem_reverse]
  simpa using hb j (by simpa using hj)
theorem markV_some {l : List Ob} {k : Nat} (h : markF l = some k) : markV l = .tuple #[.int .i64 k, .int .i64 0] := by simp [markV, h]
theorem markV_none {l : List Ob} (h : markF l = none) : markV l = .tuple #[.int .i64 0, .int .i64 19] := by simp [markV, h]
theorem mark_nil (w : World) : Calls Try.prog 16 #[.pointer none] w fun e w' => e = .returned (.tuple #[.int .i64 0, .int .i64 21]) ∧ w = w' := by
  go_enter Try.func16, Try.ntmps16
  go_wp2
  go_ret2
  exact ⟨rfl, rfl⟩

set_option maxHeartbeats 800000 in
theorem mark_any (g : Nat) (v : Value) (most over under : Int) (l : List Ob) (w : World) (h : Stk w g v most over under l) :
    Calls Try.prog 16 #[.pointer (some ⟨g, 0, none⟩)] w fun e w' => e = .returned (markV l) ∧ ∃ m, w' = w.drewN m := by
  by_cases h0 : l = []
  · subst h0
    obtain ⟨A, cap, hv, h1, h2⟩ := h.form
    subst hv
    obtain ⟨c0, c1, c2, c3, f3⟩ := h.cells
    clear h
    go_enter Try.func16, Try.ntmps16
    go_wp2
    go_loopw [12] (fun q wr => q = .int .i64 0 ∧ wr = w) (fun _ _ => 0)
    case atStart => exact ⟨rfl, rfl⟩
    case round =>
      obtain ⟨rfl, rfl⟩ := hrel
      go_wp2
      go_ret2
      exact ⟨rfl, 0, rfl⟩
  · have hpos : 0 < l.length := List.length_pos_iff.2 h0
    obtain ⟨b, cap, rfl, h1, h2, hc⟩ := h.2.ob rfl hpos
    obtain ⟨c0, c1, c2, c3, f3⟩ := h.cells
    have HC := Lib.hid hc
    clear h hc h0
    go_enter Try.func16, Try.ntmps16
    go_wp2
    go_loopw [12] (fun q wr => ∃ i m : Nat, i ≤ l.length ∧ q = .int .i64 i ∧ Hid (∀ j, (hj : j < i) → (hl : j < l.length) → l[l.length - 1 - j].kind ≠ 4) ∧ wr = w.drewN m) (fun q _ => l.length - (intOf q).toNat)
    case atStart => exact ⟨0, 0, by omega, rfl, (fun j hj => by omega), rfl⟩
    case round =>
      obtain ⟨i, m, hi, rfl, HN, rfl⟩ := hrel
      by_cases hlt : i < l.length
      · obtain ⟨k, hk⟩ : ∃ k, l.length - 1 - i = k := ⟨_, rfl⟩
        have hx2 : k < l.length := by omega
        have a0 := (HC.out k hx2).c0
        have hx : (l.length : Int) - 1 - i = (k : Int) := by omega
        have hx1 : (k : Int) < l.length := by omega
        by_cases hq : l[k].kind = 4
        · have HV := Lib.hid (markV_some (mark_hit l i hlt (by subst hk; exact hq) fun j hj => HN.out j hj (by omega)))
          have hqb : (l[k].kind == 4) = true := by simp [hq]
          clear hq HN hk
          generalize l[k] = x at *
          go_wp2
          go_quiet (fail)
          go_wp2
          go_ret2
          exact ⟨ret_val HV.out.symm, _, drewN_two _ _ _⟩
        · have HN' : Hid (∀ j, (hj : j < i + 1) → (hl : j < l.length) → l[l.length - 1 - j].kind ≠ 4) := fun j hj hl => by
            by_cases e : j = i
            · subst e; subst hk; exact hq
            · exact HN.out j (by omega) hl
          have hqb : (l[k].kind == 4) = false := by simp [hq]
          clear hq HN hk
          generalize l[k] = x at *
          go_wp2
          go_quiet (fail)
          go_wp2
          go_roundw
          case rel => exact ⟨i + 1, _, by omega, by go_num, HN', rfl⟩
          case measure => simp [intOf]; omega
      · have HV := Lib.hid (markV_none (mark_none l fun j hj => HN.out j (by omega) hj))
        clear HN
        have hge : l.length ≤ i := by omega
        go_wp2
        go_ret2
        exact ⟨ret_val HV.out.symm, _, rfl⟩
end Go.Proofs.Ytdkgbakapinidaa
