/-
  Texts joined in build order: The walks of add, New, Clear, Segments, Current, of the calls of no path. The walks of New, Segments, Current, Clear, draw, Line, Curve, Close. The walks of draw, Line, Curve. The walks of Move, Curve. append as a step of a region that draws its order: for 'go_region_law', 'go_region_held3'. Memory of a call's own: new blocks, rows in them. No program, no conditions. The names of the fonts in memory; the walk of font.Name. What the listed variable gives: the names of the fonts stand in it.
-/
import Derived.Test.YtkkejjfmidgciaaDoorJSNone1
import Derived.Deep.RegionWith
import Derived.BigRegion
import Derived.Deep.RegionLaw
import Derived.Test.YtkkejjfmidgciaaDoorRows
import Derived.ProofKit
import Derived.LaidMore
import Derived.OpenShut
import Derived.Stop.Joined
/- The walks of add, New, Clear, Segments, Current, of the calls of no path. -/
namespace Go.Proofs.YtkkejjfmidgciaaDoor
open Go.RowKit
set_option linter.unusedVariables false
set_option linter.unusedSimpArgs false
def addF (p : PS) (to : Pt) (m : List Sg) : Int × PS := if p.most < p.list.length + m.length then (9, p) else (0, { p with list := p.list ++ m, now := to })
theorem Pth.drewN {w : World} {g : Nat} {v : Value} {p : PS} (h : Pth w g v p) (n : Nat) : Pth (w.drewN n) g v p := h
theorem Pth.putNow {w : World} {g : Nat} {v v' : Value} {p : PS} {n : Nat} {cs : List Value} (l : List Sg) (to : Pt) (h1 : Blk w g #[.int .i64 p.most, v, .int .i64 p.start.x, .int .i64 p.start.y, .int .i64 p.now.x, .int .i64 p.now.y] 131) (ho : OwnS w 91 7 v' n cs) (hn : n = l.length) (hc : cs = encSs l) :
    Pth (((w.setCell ⟨g, 1, none⟩ v').setCell ⟨g, 4, none⟩ (.int .i64 to.x)).setCell ⟨g, 5, none⟩ (.int .i64 to.y)) g v' { p with list := l, now := to } := by
  subst hn; subst hc
  refine ⟨((h1.set 1 v').set 4 _).set 5 _, ho.fr ((((Fr.refl (fun k => k = g) w).setCell (p := ⟨g, 1, none⟩) (.inl rfl) v').setCell (p := ⟨g, 4, none⟩) (.inl rfl) _).setCell (p := ⟨g, 5, none⟩) (.inl rfl) _) fun k hk e => ?_⟩
  exact ho.ne h1 (by decide) k hk e
theorem add_over (g : Nat) (v : Value) (p : PS) (to : Pt) (A : Option Addr) (n cap : Nat) (w : World) (h : Pth w g v p) (hm : -9223372036854775808 ≤ p.most ∧ p.most ≤ 9223372036854775807) (hb : p.list.length + n ≤ 1000000000000)
    (ho : p.most < p.list.length + n) :
    Calls Tryd.prog 107 #[.pointer (some ⟨g, 0, none⟩), ptV to, .slice A n cap] w fun e w' => e = .returned (.int .i64 9) ∧ Fr Nob w w' := by
  have hf := (Fr.refl Nob w).alloc (.cells #[.int .i64 to.x, .int .i64 to.y] 56)
  have hcc := (h.nob hf).cells
  have hc0 := hcc.c0
  have hc1 := hcc.c1
  obtain ⟨A', cap', rfl, h1, h2⟩ := h.form
  have hf := Lib.hid hf
  clear h hcc
  unfold ptV
  go_enter Tryd.func107, Tryd.ntmps107
  go_wp2
  go_quiet (fail)
  go_wp2
  go_ret
  exact ⟨rfl, hf.out.drewN _⟩
set_option maxHeartbeats 400000 in
theorem add_in (g : Nat) (v : Value) (p : PS) (to : Pt) (x : Value) (m : List Sg) (S : Nat → Prop) (w : World) (h : Pth w g v p) (hx : RowIn w S 7 x m.length (encSs m)) (hS : ∀ k, S k → ¬ ptB g v k) (hm : -9223372036854775808 ≤ p.most ∧ p.most ≤ 9223372036854775807) (hb : p.list.length + m.length ≤ 1000000000000)
    (ho : ¬ p.most < p.list.length + m.length) :
    Calls Tryd.prog 107 #[.pointer (some ⟨g, 0, none⟩), ptV to, x] w fun e w' => e = .returned (.int .i64 0) ∧ PthTo w g v { p with list := p.list ++ m, now := to } w' := by
  obtain ⟨i0, hi, hz0, hz1, hz2⟩ := info_parts info43
  have hf := (Fr.refl Nob w).alloc (.cells #[.int .i64 to.x, .int .i64 to.y] 56)
  have hbk := Blk.new w #[.int .i64 to.x, .int .i64 to.y] 56
  have hpa := h.nob hf
  have hcc := hpa.cells
  have hc0 := hcc.c0
  have hc1 := hcc.c1
  obtain ⟨A', cap', rfl, h1, h2⟩ := h.form
  obtain ⟨A, cap, rfl, _, _⟩ : ∃ A c, x = .slice A m.length c ∧ m.length ≤ c ∧ c ≤ maxLen := by obtain ⟨_, A, c, h, h1, h2, _⟩ := hx; exact ⟨A, c, h, h1, h2⟩
  have HX := Lib.hid (hx.fr hf fun _ _ hf => hf)
  have HH := Lib.hid hpa
  have hf := Lib.hid hf
  have HBK := Lib.hid hbk
  have HLT := Lib.hid h.lt
  clear h hcc hx hpa hbk
  obtain ⟨p', hp'⟩ : ∃ p' : PS, p' = { p with list := p.list ++ m, now := to } := ⟨_, rfl⟩
  rw [← hp']
  replace hp' := Lib.hid hp'
  have hdec : decide (p.most < ↑p.list.length + ↑m.length) = false := by simpa using ho
  unfold ptV
  go_enter Tryd.func107, Tryd.ntmps107
  go_wp2
  generalize w.alloc (.cells #[.int .i64 to.x, .int .i64 to.y] 56) = wa at *
  go_quiet (fail)
  have HH2 := Lib.hid (HH.out.drewN nq)
  have HX2 := Lib.hid (HX.out.fr ((Fr.refl Nob wa).drewN nq) fun _ _ hf => hf)
  have hf2 := Lib.hid (hf.out.drewN nq)
  have HBK2 := Lib.hid (HBK.out.drewN nq)
  clear HH HX hf HBK hc0 hc1
  generalize wa.drewN nq = wb at *
  have hc1 := HH2.out.cells.c1
  go_wp2_with (at_builtin; refine wpList_app _ rfl _ _ 25 rfl 91 i0 _ 7 56 Tryd.underlying25 hi hz0 hz1 hz2 rfl (by decide) _ p.list.length (encSs p.list) rfl HH2.out.2 S _ m.length (encSs m) rfl HX2.out ?c1 ?c2 ?c3 ?_)
  case c1 => exact encSs_one m
  case c2 => unfold maxLen at *; omega
  case c3 => omega
  intro v' w1 hown hfr hat _
  obtain ⟨A1, cap1, rfl, _, _⟩ := hown.form
  have hg := fun k hk => HH2.out.2.ne HH2.out.1 (by decide) k hk
  have hb1 : Blk w1 g _ 131 := HH2.out.1.fr hfr fun hh => hg g hh rfl
  have hk1 : Blk w1 w.heap.size _ 56 := HBK2.out.fr hfr fun hh => by
    have := HLT.out w.heap.size (.inr hh); omega
  have k3 := hb1.cell 1
  have k4 := hb1.cell 4
  have k5 := hb1.cell 5
  have q3 := hb1.free 1
  have q4 := hb1.free 4
  have q5 := hb1.free 5
  have t0 := hk1.cell 0
  have t1 := hk1.cell 1
  simp only [List.getElem?_toArray, List.getElem?_cons_succ, List.getElem?_cons_zero] at k3 k4 k5 t0 t1
  have hgw : g ≠ w.heap.size := by have := HLT.out g (.inl rfl); omega
  have HB1 := Lib.hid hb1
  have HO1 := Lib.hid hown
  have HF1 := Lib.hid hfr
  have HAT := Lib.hid hat
  clear hg hb1 hown hfr hat hk1
  go_wp2
  go_ret
  refine ⟨rfl, _, hp'.out ▸ Pth.putNow (p := p) (p.list ++ m) to HB1.out HO1.out (by simp) (by simp [encSs_append]), ?_, ?_⟩
  · refine ((((hf2.out.mono (T := ptB g (.slice A' p.list.length cap')) fun _ hf => hf.elim).trans (HF1.out.mono (T := ptB g (.slice A' p.list.length cap')) fun k hk => .inr hk) fun k hk => .inl hk).setCell (.inl (.inl rfl)) _).setCell (.inl (.inl rfl)) _).setCell (.inl (.inl rfl)) _
  · intro b hb
    rcases HAT.out with e | e
    · exact .inl (e ▸ hb)
    · rw [e] at hb; cases hb; exact .inr hf2.out.size
end Go.Proofs.YtkkejjfmidgciaaDoor
/- The walks of New, Segments, Current, Clear, draw, Line, Curve, Close. -/
namespace Go.Proofs.YtkkejjfmidgciaaDoor
open Go.RowKit
set_option linter.unusedVariables false
set_option linter.unusedSimpArgs false
/-- The bounds under which a path's calls are walked. -/
structure PB (p : PS) : Prop where
  lo : -9223372036854775808 ≤ p.most
  hi : p.most ≤ 9223372036854775807
  len : p.list.length ≤ 999999999990
theorem add_any (g : Nat) (v : Value) (p : PS) (to : Pt) (x : Value) (m : List Sg) (S : Nat → Prop) (w : World) (h : Pth w g v p) (hx : RowIn w S 7 x m.length (encSs m)) (hS : ∀ k, S k → ¬ ptB g v k) (hb : PB p) (hm : m.length ≤ 2) :
    Calls Tryd.prog 107 #[.pointer (some ⟨g, 0, none⟩), ptV to, x] w fun e w' => e = .returned (.int .i64 (addF p to m).1) ∧ PthTo w g v (addF p to m).2 w' := by
  have hlen := hb.len
  by_cases ho : p.most < p.list.length + m.length
  · obtain ⟨A, cap, rfl, _, _⟩ : ∃ A c, x = .slice A m.length c ∧ m.length ≤ c ∧ c ≤ maxLen := by obtain ⟨_, A, c, h, h1, h2, _⟩ := hx; exact ⟨A, c, h, h1, h2⟩
    refine (add_over g v p to A m.length cap w h ⟨hb.lo, hb.hi⟩ (by omega) ho).mono ?_
    rintro e w' ⟨rfl, hf⟩
    simp only [addF, if_pos ho]
    exact ⟨trivial, PthTo.same h hf⟩
  · refine (add_in g v p to x m S w h hx hS ⟨hb.lo, hb.hi⟩ (by omega) ho).mono ?_
    rintro e w' ⟨rfl, hf⟩
    simp only [addF, if_neg ho]
    exact ⟨trivial, hf⟩
theorem new_any (most : Int) (w : World) :
    Calls Tryd.prog 70 #[.int .i64 most] w fun e w' => e = .returned (.pointer (some ⟨w.heap.size, 0, none⟩)) ∧ Pth w' w.heap.size (.slice none 0 0) ⟨most, [], oo, oo⟩ ∧ Fr Nob w w' := by
  go_enter Tryd.func70, Tryd.ntmps70
  go_wp2
  go_ret
  exact ⟨rfl, ⟨Blk.new _ _ _, OwnS.nil _ _ _⟩, (Fr.refl _ _).alloc _⟩
theorem seg_any (g : Nat) (v : Value) (p : PS) (w : World) (h : Pth w g v p) (hb : PB p) :
    Calls Tryd.prog 34 #[.pointer (some ⟨g, 0, none⟩)] w fun e w' => ∃ vo, e = .returned vo ∧ OwnS w' 91 7 vo p.list.length (encSs p.list) ∧ Fr Nob w w' ∧ NewV w vo := by
  have c1 := h.cells.c1
  have HH := Lib.hid h
  have hs := hb.len
  obtain ⟨A, cap, rfl, h1, h2⟩ := h.form
  clear h hb
  go_enter Tryd.func34, Tryd.ntmps34
  go_wp2_with fail
  refine (clone_any _ p.list _ _ HH.out.2.row (by omega)).mono ?_
  rintro e w1 ⟨vo, rfl, ho, hf, hn⟩
  go_wp2
  go_ret
  exact ⟨vo, rfl, ho, hf, hn⟩
theorem seg_none (w : World) : Calls Tryd.prog 34 #[.pointer none] w fun e w' => e = .returned (.slice none 0 0) ∧ w = w' := by
  go_enter Tryd.func34, Tryd.ntmps34
  go_wp2
  go_ret
  exact ⟨rfl, rfl⟩
theorem copy_none (w : World) : Calls Tryd.prog 90 #[.pointer none] w fun e w' => e = .returned (.pointer none) ∧ w = w' := by
  go_enter Tryd.func90, Tryd.ntmps90
  go_wp2
  go_ret
  exact ⟨rfl, rfl⟩
theorem clear_none (w : World) : Calls Tryd.prog 81 #[.pointer none] w fun e w' => e = .returned (.tuple #[]) ∧ w = w' := by
  go_enter Tryd.func81, Tryd.ntmps81
  go_wp2
  go_end0
  exact ⟨rfl, rfl⟩
theorem move_none (a : Pt) (w : World) : Calls Tryd.prog 64 #[.pointer none, ptV a] w fun e w' => e = .returned (.int .i64 21) ∧ Fr Nob w w' := by
  unfold ptV
  go_enter Tryd.func64, Tryd.ntmps64
  go_wp2
  go_ret
  exact ⟨rfl, (Fr.refl _ _).alloc _⟩
theorem line_none (a : Pt) (w : World) : Calls Tryd.prog 82 #[.pointer none, ptV a] w fun e w' => e = .returned (.int .i64 21) ∧ Fr Nob w w' := by
  unfold ptV
  go_enter Tryd.func82, Tryd.ntmps82
  go_wp2
  go_ret
  exact ⟨rfl, (Fr.refl _ _).alloc _⟩
theorem cur_none (w : World) : Calls Tryd.prog 120 #[.pointer none] w fun e w' => e = .returned (.tuple #[ptV oo, .int .i64 21]) ∧ Fr Nob w w' := by
  unfold ptV oo
  have hb := Blk.new w #[.int .i64 0, .int .i64 0] 56
  have HB := Lib.hid hb
  clear hb
  go_enter Tryd.func120, Tryd.ntmps120
  go_wp2
  exact bodyPost_ret (results_ct rfl _ _ _ 56 _ _ rfl HB.out Tryd.underlying56 rfl (by kernel_rfl)) rfl ⟨rfl, (Fr.refl _ _).alloc _⟩

theorem clear_any (g : Nat) (v : Value) (p : PS) (w : World) (h : Pth w g v p) :
    Calls Tryd.prog 81 #[.pointer (some ⟨g, 0, none⟩)] w fun e w' => e = .returned (.tuple #[]) ∧ PthTo w g v { p with list := [], start := oo, now := oo } w' := by
  have hc := h.cells
  have c1 := hc.c1
  have c2 := hc.c2
  have c3 := hc.c3
  have c4 := hc.c4
  have c5 := hc.c5
  have f1 := h.1.free 1
  have f2 := h.1.free 2
  have f3 := h.1.free 3
  have f4 := h.1.free 4
  have f5 := h.1.free 5
  have HH := Lib.hid h
  clear h hc
  obtain ⟨p', hp'⟩ : ∃ p' : PS, p' = { p with list := [], start := oo, now := oo } := ⟨_, rfl⟩
  rw [← hp']
  replace hp' := Lib.hid hp'
  go_enter Tryd.func81, Tryd.ntmps81
  go_wp2
  go_end0
  refine ⟨rfl, .slice none 0 0, ?_, ((((((Fr.refl _ w).setCell (.inl (.inl rfl)) _).setCell (.inl (.inl rfl)) _).setCell (.inl (.inl rfl)) _).setCell (.inl (.inl rfl)) _).setCell (.inl (.inl rfl)) _), fun b hb => by simp [Value.ownBlock] at hb⟩
  rw [hp'.out]
  exact ⟨((((HH.out.1.set 1 _).set 2 _).set 3 _).set 4 _).set 5 _, OwnS.nil _ _ _⟩
theorem cur_any (g : Nat) (v : Value) (p : PS) (w : World) (h : Pth w g v p) :
    Calls Tryd.prog 120 #[.pointer (some ⟨g, 0, none⟩)] w fun e w' => e = .returned (.tuple #[ptV (if p.list.length = 0 then oo else p.now), .int .i64 (if p.list.length = 0 then 10 else 0)]) ∧ Fr Nob w w' := by
  have hf := (Fr.refl Nob w).alloc (.cells #[.int .i64 0, .int .i64 0] 56)
  have hc := (h.nob hf).cells
  have hgw : g ≠ w.heap.size := by have := h.1.lt; omega
  have c1 := hc.c1
  have c4 := hc.c4
  have c5 := hc.c5
  obtain ⟨A, cap, rfl, h1, h2⟩ := h.form
  unfold ptV oo
  by_cases h0 : p.list.length = 0
  · have hb := Blk.new w #[.int .i64 0, .int .i64 0] 56
    rw [if_pos h0, if_pos h0]
    rw [h0] at c1
    have HB := Lib.hid hb
    clear hb hf hc h h0 h1
    go_enter Tryd.func120, Tryd.ntmps120
    go_wp2
    exact bodyPost_ret (results_ct rfl _ _ _ 56 _ _ rfl HB.out Tryd.underlying56 rfl (by kernel_rfl)) rfl ⟨rfl, (Fr.refl _ _).alloc _⟩
  · have hb := Blk.new w #[.int .i64 p.now.x, .int .i64 p.now.y] 56
    rw [if_neg h0, if_neg h0]
    have HB := Lib.hid hb
    have i0 : ((p.list.length : Int) == 0) = false := beq_eq_false_iff_ne.2 (by omega)
    clear hb hf hc h
    go_enter Tryd.func120, Tryd.ntmps120
    go_wp2
    exact bodyPost_ret (results_ct rfl _ _ _ 56 _ _ rfl HB.out Tryd.underlying56 rfl (by kernel_rfl)) rfl ⟨rfl, (Fr.refl _ _).alloc _⟩

/-- A segment, and as values. -/
def closeS : Sg := ⟨4, oo, oo, oo⟩
def moveS (a : Pt) : Sg := ⟨1, a, oo, oo⟩
def lineS (a : Pt) : Sg := ⟨2, a, oo, oo⟩
theorem RowIn.sgs (w : World) (l : List Sg) (hl : l.length ≤ 2) : RowIn (w.alloc (.cells (encSs l).toArray 91)) (fun k => k = w.heap.size) 7 (.slice (some ⟨w.heap.size, 0, none⟩) l.length l.length) l.length (encSs l) := by
  have := RowIn.lit w 91 7 (encSs l).toArray l.length (by simp [encSs_len]) (by unfold maxLen; omega)
  simpa using this
def closeF (p : PS) : Int × PS := if lastK p.list = 0 ∨ lastK p.list = 4 then (0, p) else addF p p.start [closeS]
end Go.Proofs.YtkkejjfmidgciaaDoor
/- The walks of draw, Line, Curve. -/
namespace Go.Proofs.YtkkejjfmidgciaaDoor
open Go.RowKit
set_option linter.unusedVariables false
set_option linter.unusedSimpArgs false
theorem PthTo.after {w w2 w3 : World} {g : Nat} {v : Value} {p : PS} (h : PthTo w2 g v p w3) (hf : Fr Nob w w2) : PthTo w g v p w3 := by
  obtain ⟨v', hp, hfr, hv⟩ := h
  exact ⟨v', hp, (hf.mono fun _ hf => hf.elim).trans hfr fun k hk => .inl hk, fun b hb => by
    rcases hv b hb with h | h
    · exact .inl h
    · exact .inr (Nat.le_trans hf.size h)⟩
def sgV (s : Sg) : Value := .agg #[.int .i64 s.kind, .int .i64 s.a.x, .int .i64 s.a.y, .int .i64 s.b.x, .int .i64 s.b.y, .int .i64 s.c.x, .int .i64 s.c.y]
def drawF (p : PS) (s : Sg) (to : Pt) : Int × PS := if lastK p.list = 0 then (10, p) else if lastK p.list = 4 then addF p to [moveS p.now, s] else addF p to [s]
/-- A segment in a block of its own. -/
theorem SgAt.own {w : World} {g : Nat} {s : Sg} (h : Blk w g (encS s).toArray 91) : SgAt w g 0 s := ⟨h.cell 0, h.cell 1, h.cell 2, h.cell 3, h.cell 4, h.cell 5, h.cell 6⟩
set_option maxRecDepth 8000 in
set_option maxHeartbeats 1600000 in
theorem draw_any (g : Nat) (v : Value) (p : PS) (s : Sg) (to : Pt) (w : World) (h : Pth w g v p) (hb : PB p) :
    Calls Tryd.prog 119 #[.pointer (some ⟨g, 0, none⟩), sgV s, ptV to] w fun e w' => e = .returned (.int .i64 (drawF p s to).1) ∧ PthTo w g v (drawF p s to).2 w' := by
  obtain ⟨ws, hws⟩ : ∃ ws, ws = (w.alloc (.cells (encS s).toArray 91)).alloc (.cells (encP to).toArray 56) := ⟨_, rfl⟩
  have b1 : Blk ws w.heap.size (encS s).toArray 91 := by rw [hws]; exact (Blk.new w _ _).alloc _
  have b2 : Blk ws (w.heap.size + 1) (encP to).toArray 56 := by
    have := Blk.new (w.alloc (.cells (encS s).toArray 91)) (encP to).toArray 56
    rw [hws]; simpa using this
  have hf : Fr Nob w ws := by rw [hws]; exact ((Fr.refl Nob w).alloc _).alloc _
  have HH := Lib.hid (h.nob hf)
  have HL := Lib.hid h.lt
  have B1 := Lib.hid b1
  have B2 := Lib.hid b2
  have HF := Lib.hid hf
  have HB := Lib.hid hb
  clear h b1 b2 hf hb
  unfold sgV ptV
  obtain ⟨r, hr⟩ : ∃ r, drawF p s to = r := ⟨_, rfl⟩
  rw [hr]
  have hws' : (w.alloc (.cells #[.int .i64 s.kind, .int .i64 s.a.x, .int .i64 s.a.y, .int .i64 s.b.x, .int .i64 s.b.y, .int .i64 s.c.x, .int .i64 s.c.y] 91)).alloc (.cells #[.int .i64 to.x, .int .i64 to.y] 56) = ws := hws.symm
  replace hws := Lib.hid hws'
  clear hws'
  by_cases h0 : lastK p.list = 0
  · have hr2 : r = (10, p) := by rw [← hr]; simp [drawF, h0]
    subst hr2
    clear hr
    go_enter Tryd.func119, Tryd.ntmps119
    go_wp2_with fail
    rw [hws.out]
    refine (last_any g v p _ HH.out).mono ?_
    rw [h0]
    rintro e w1 ⟨rfl, hf⟩
    have HF1 := Lib.hid hf
    clear hf
    go_wp2_with fail
    go_ret
    exact ⟨rfl, (PthTo.same HH.out HF1.out).after HF.out⟩
  have e0 : (lastK p.list == 0) = false := by simpa using h0
  by_cases h4 : lastK p.list = 4
  · have hr2 : addF p to [moveS p.now, s] = r := by rw [← hr]; simp [drawF, h4]
    have hr' := Lib.hid hr2
    have H4 := Lib.hid h4
    clear hr2 hr h0 h4
    go_enter Tryd.func119, Tryd.ntmps119
    go_wp2_with fail
    rw [hws.out]
    refine (last_any g v p _ HH.out).mono ?_
    rw [H4.out]
    rintro e w1 ⟨rfl, hf⟩
    have hp1 := HH.out.nob hf
    have hc := hp1.cells
    have c4 := hc.c4
    have c5 := hc.c5
    have hs := SgAt.own (B1.out.fr hf fun hh => hh)
    obtain ⟨s0, s1, s2, s3, s4, s5, s6⟩ := hs
    have t0 := (B2.out.fr hf fun hh => hh).cell 0
    have t1 := (B2.out.fr hf fun hh => hh).cell 1
    simp only [List.getElem?_toArray, encP, List.getElem?_cons_succ, List.getElem?_cons_zero] at t0 t1
    have HF1 := Lib.hid hf
    have HP := Lib.hid hp1
    clear hf hc hp1
    go_wp2_with fail
    have ha := (Fr.refl Nob w1).alloc (.cells #[.int .i64 1, .int .i64 p.now.x, .int .i64 p.now.y, .int .i64 0, .int .i64 0, .int .i64 0, .int .i64 0, .int .i64 s.kind, .int .i64 s.a.x, .int .i64 s.a.y, .int .i64 s.b.x, .int .i64 s.b.y, .int .i64 s.c.x, .int .i64 s.c.y] 91)
    have hr : RowIn (w1.alloc (.cells #[.int .i64 1, .int .i64 p.now.x, .int .i64 p.now.y, .int .i64 0, .int .i64 0, .int .i64 0, .int .i64 0, .int .i64 s.kind, .int .i64 s.a.x, .int .i64 s.a.y, .int .i64 s.b.x, .int .i64 s.b.y, .int .i64 s.c.x, .int .i64 s.c.y] 91)).drew (fun k => k = w1.heap.size) 7 (.slice (some ⟨w1.heap.size, 0, none⟩) 2 2) 2 (encSs [moveS p.now, s]) := (RowIn.sgs w1 [moveS p.now, s] (by simp)).fr ((Fr.refl Nob _).drew) fun _ _ hf => hf
    have hA := add_any g v p to _ [moveS p.now, s] _ _ (HP.out.nob ha.drew) hr (fun k hk hb => by
      have := HL.out k hb
      have := HF.out.size
      have := HF1.out.size
      omega) HB.out (by simp)
    rw [hr'.out] at hA
    unfold ptV at hA
    have HA := Lib.hid hA
    have HX := Lib.hid (HF1.out.trans0 ha.drew)
    have u0 := cell_nob t0 ha
    have u1 := cell_nob t1 ha
    clear ha hr hA
    go_region_with (go_at_call 107; refine HA.out.mono ?_; rintro e w3 ⟨rfl, hq⟩)
    all_goals
      have HQ := Lib.hid ((hq.after HX.out).after HF.out)
      clear hq
      go_wp2_with fail
      go_ret
      exact ⟨rfl, HQ.out⟩
  · have e4 : (lastK p.list == 4) = false := by simpa using h4
    have hr2 : addF p to [s] = r := by rw [← hr]; simp [drawF, h0, h4]
    have hr' := Lib.hid hr2
    clear hr hr2 h0 h4
    go_enter Tryd.func119, Tryd.ntmps119
    go_wp2_with fail
    rw [hws.out]
    refine (last_any g v p _ HH.out).mono ?_
    rintro e w1 ⟨rfl, hf⟩
    have hp1 := HH.out.nob hf
    have hs := SgAt.own (B1.out.fr hf fun hh => hh)
    obtain ⟨s0, s1, s2, s3, s4, s5, s6⟩ := hs
    have t0 := (B2.out.fr hf fun hh => hh).cell 0
    have t1 := (B2.out.fr hf fun hh => hh).cell 1
    simp only [List.getElem?_toArray, encP, List.getElem?_cons_succ, List.getElem?_cons_zero] at t0 t1
    have HF1 := Lib.hid hf
    have HP := Lib.hid hp1
    clear hf hp1
    go_wp2_with fail
    have hr := RowIn.sgs w1 [s] (by simp)
    have ha := (Fr.refl Nob w1).alloc (.cells (encSs [s]).toArray 91)
    refine (add_any g v p to _ [s] _ _ (HP.out.nob ha) hr (fun k hk hb => ?_) HB.out (by simp)).mono ?_
    · have := HL.out k hb
      have := HF.out.size
      have := HF1.out.size
      omega
    rw [hr'.out]
    rintro e w3 ⟨rfl, hq⟩
    have HQ := Lib.hid ((hq.after (HF1.out.trans0 ha)).after HF.out)
    clear hq ha hr
    go_wp2_with fail
    go_ret
    exact ⟨rfl, HQ.out⟩
def lineF (p : PS) (a : Pt) : Int × PS := if fitP a then drawF p (lineS a) a else (11, p)
def curveF (p : PS) (a b c : Pt) : Int × PS := if [a, b, c].all fitP then drawF p ⟨3, a, b, c⟩ c else (11, p)
theorem RowIn.pts (w : World) (l : List Pt) (hl : l.length ≤ 3) : RowIn (w.alloc (.cells (encPs l).toArray 56)) (fun k => k = w.heap.size) 2 (.slice (some ⟨w.heap.size, 0, none⟩) l.length l.length) l.length (encPs l) := by
  have := RowIn.lit w 56 2 (encPs l).toArray l.length (by simp [encPs_len]) (by unfold maxLen; omega)
  simpa using this
set_option maxRecDepth 8000 in
set_option maxHeartbeats 1600000 in
theorem line_any (g : Nat) (v : Value) (p : PS) (a : Pt) (w : World) (h : Pth w g v p) (hb : PB p) :
    Calls Tryd.prog 82 #[.pointer (some ⟨g, 0, none⟩), ptV a] w fun e w' => e = .returned (.int .i64 (lineF p a).1) ∧ PthTo w g v (lineF p a).2 w' := by
  obtain ⟨ws, hws⟩ : ∃ ws, w.alloc (.cells #[.int .i64 a.x, .int .i64 a.y] 56) = ws := ⟨_, rfl⟩
  have b1 : Blk ws w.heap.size (encP a).toArray 56 := by rw [← hws]; exact Blk.new w _ _
  have hf : Fr Nob w ws := by rw [← hws]; exact (Fr.refl Nob w).alloc _
  have hsz : ws.heap.size = w.heap.size + 1 := by rw [← hws]; simp
  have HZ := Lib.hid hsz
  clear hsz
  have c0 := b1.cell 0
  have c1 := b1.cell 1
  simp only [List.getElem?_toArray, encP, List.getElem?_cons_succ, List.getElem?_cons_zero] at c0 c1
  have HH := Lib.hid (h.nob hf)
  have B1 := Lib.hid b1
  have HF := Lib.hid hf
  have HW := Lib.hid hws
  clear h b1 hf hws
  obtain ⟨r, hr⟩ : ∃ r, lineF p a = r := ⟨_, rfl⟩
  rw [hr]
  unfold ptV
  have e1 : [a].all fitP = fitP a := by simp
  by_cases h0 : fitP a
  · have hr2 : drawF p (lineS a) a = r := by rw [← hr]; simp [lineF, h0]
    have hr' := Lib.hid hr2
    rw [h0] at e1
    have E1 := Lib.hid e1
    clear hr hr2 h0 e1
    go_enter Tryd.func82, Tryd.ntmps82
    go_wp2_with fail
    rw [HW.out, ← HZ.out]
    refine (fits_any _ [a] _ _ (RowIn.pts ws [a] (by simp))).mono ?_
    rw [E1.out]
    rintro e w1 ⟨rfl, hf⟩
    have hf1 := ((Fr.refl Nob ws).alloc (.cells (encPs [a]).toArray 56)).trans0 hf
    have d0 := cell_nob c0 hf1
    have d1 := cell_nob c1 hf1
    have HF1 := Lib.hid hf1
    clear hf hf1 c0 c1
    go_wp2_with fail
    refine (draw_any g v p (lineS a) a _ (HH.out.nob HF1.out) hb).mono ?_
    rw [hr'.out]
    rintro e w3 ⟨rfl, hq⟩
    have HQ := Lib.hid ((hq.after HF1.out).after HF.out)
    clear hq
    go_wp2_with fail
    go_ret
    exact ⟨rfl, HQ.out⟩
  · have hr2 : r = (11, p) := by rw [← hr]; simp [lineF, h0]
    subst hr2
    rw [show fitP a = false by simpa using h0] at e1
    have E1 := Lib.hid e1
    clear hr h0 e1
    go_enter Tryd.func82, Tryd.ntmps82
    go_wp2_with fail
    rw [HW.out, ← HZ.out]
    refine (fits_any _ [a] _ _ (RowIn.pts ws [a] (by simp))).mono ?_
    rw [E1.out]
    rintro e w1 ⟨rfl, hf⟩
    have HF1 := Lib.hid (((Fr.refl Nob ws).alloc (.cells (encPs [a]).toArray 56)).trans0 hf)
    clear hf
    go_wp2_with fail
    go_ret
    exact ⟨rfl, (PthTo.same HH.out HF1.out).after HF.out⟩
end Go.Proofs.YtkkejjfmidgciaaDoor
/- The walks of Move, Curve. -/
namespace Go.Proofs.YtkkejjfmidgciaaDoor
open Go.RowKit
set_option linter.unusedVariables false
set_option linter.unusedSimpArgs false
/-- A segment is stored into a place of a list. -/
theorem OwnS.setSg {w : World} {v : Value} {n b : Nat} {l : List Sg} (h : OwnS w 91 7 v n (encSs l)) (hv : v.ownBlock = some b) (hl : l.length = n) (k : Nat) (hk : k < l.length) (x : Sg) :
    OwnS (((((((w.setCell ⟨b, k * 7, none⟩ (.int .i64 x.kind)).setCell ⟨b, k * 7 + 1, none⟩ (.int .i64 x.a.x)).setCell ⟨b, k * 7 + 2, none⟩ (.int .i64 x.a.y)).setCell ⟨b, k * 7 + 3, none⟩ (.int .i64 x.b.x)).setCell ⟨b, k * 7 + 4, none⟩ (.int .i64 x.b.y)).setCell ⟨b, k * 7 + 5, none⟩ (.int .i64 x.c.x)).setCell ⟨b, k * 7 + 6, none⟩ (.int .i64 x.c.y)) 91 7 v n (encSs (l.set k x)) := by
  subst hl
  have h8 := (((((((h.store hv (k * 7) (by omega) (.int .i64 x.kind)).store hv (k * 7 + 1) (by omega) (.int .i64 x.a.x)).store hv (k * 7 + 2) (by omega) (.int .i64 x.a.y)).store hv (k * 7 + 3) (by omega) (.int .i64 x.b.x)).store hv (k * 7 + 4) (by omega) (.int .i64 x.b.y)).store hv (k * 7 + 5) (by omega) (.int .i64 x.c.x)).store hv (k * 7 + 6) (by omega) (.int .i64 x.c.y))
  have e : ((((((((encSs l).set (k * 7) (.int .i64 x.kind)).set (k * 7 + 1) (.int .i64 x.a.x)).set (k * 7 + 2) (.int .i64 x.a.y)).set (k * 7 + 3) (.int .i64 x.b.x)).set (k * 7 + 4) (.int .i64 x.b.y)).set (k * 7 + 5) (.int .i64 x.c.x)).set (k * 7 + 6) (.int .i64 x.c.y)) = encSs (l.set k x) := by
    clear h h8 hv
    induction l generalizing k with
    | nil => simp at hk
    | cons a r ih =>
      cases k with
      | zero => simp [encSs, encS]
      | succ k =>
        have hr := ih k (by simpa using hk)
        rw [List.set_cons_succ, encSs_cons, encSs_cons, ← hr]
        have hs : ∀ (i : Nat) (u : Value) (t : List Value), (encS a ++ t).set ((k + 1) * 7 + i) u = encS a ++ t.set (k * 7 + i) u := fun i u t => by
          rw [List.set_append_right _ _ (by simp [encS]; omega)]
          congr 2
          simp [encS]; omega
        have h0 := hs 0
        simp only [Nat.add_zero] at h0
        rw [h0, hs, hs, hs, hs, hs, hs]
  rw [e] at h8
  exact h8
theorem sg_set_fr (w : World) (b o : Nat) (x : Sg) : Fr (fun k => k = b) w (((((((w.setCell ⟨b, o, none⟩ (.int .i64 x.kind)).setCell ⟨b, o + 1, none⟩ (.int .i64 x.a.x)).setCell ⟨b, o + 2, none⟩ (.int .i64 x.a.y)).setCell ⟨b, o + 3, none⟩ (.int .i64 x.b.x)).setCell ⟨b, o + 4, none⟩ (.int .i64 x.b.y)).setCell ⟨b, o + 5, none⟩ (.int .i64 x.c.x)).setCell ⟨b, o + 6, none⟩ (.int .i64 x.c.y)) :=
  ((((((((Fr.refl (fun k => k = b) w).setCell (p := ⟨b, o, none⟩) (.inl rfl) _).setCell (p := ⟨b, o + 1, none⟩) (.inl rfl) _).setCell (p := ⟨b, o + 2, none⟩) (.inl rfl) _).setCell (p := ⟨b, o + 3, none⟩) (.inl rfl) _).setCell (p := ⟨b, o + 4, none⟩) (.inl rfl) _).setCell (p := ⟨b, o + 5, none⟩) (.inl rfl) _).setCell (p := ⟨b, o + 6, none⟩) (.inl rfl) _)
def moveF (p : PS) (a : Pt) : Int × PS :=
  if fitP a then
    if lastK p.list = 1 then (0, { p with list := p.list.set (p.list.length - 1) (moveS a), start := a, now := a })
    else if p.most < p.list.length + 1 then (9, p) else (0, { p with list := p.list ++ [moveS a], start := a, now := a })
  else (11, p)
set_option maxRecDepth 8000 in
set_option maxHeartbeats 1600000 in
theorem move_any (g : Nat) (v : Value) (p : PS) (a : Pt) (w : World) (h : Pth w g v p) (hb : PB p) :
    Calls Tryd.prog 64 #[.pointer (some ⟨g, 0, none⟩), ptV a] w fun e w' => e = .returned (.int .i64 (moveF p a).1) ∧ PthTo w g v (moveF p a).2 w' := by
  obtain ⟨ws, hws⟩ : ∃ ws, w.alloc (.cells #[.int .i64 a.x, .int .i64 a.y] 56) = ws := ⟨_, rfl⟩
  have b1 : Blk ws w.heap.size (encP a).toArray 56 := by rw [← hws]; exact Blk.new w _ _
  have hf : Fr Nob w ws := by rw [← hws]; exact (Fr.refl Nob w).alloc _
  have c0 := b1.cell 0
  have c1 := b1.cell 1
  simp only [List.getElem?_toArray, encP, List.getElem?_cons_succ, List.getElem?_cons_zero] at c0 c1
  have hsz : ws.heap.size = w.heap.size + 1 := by rw [← hws]; simp
  have HZ := Lib.hid hsz
  have HL := Lib.hid h.lt
  have HH := Lib.hid (h.nob hf)
  have B1 := Lib.hid b1
  have HF := Lib.hid hf
  have HW := Lib.hid hws
  have HPB := Lib.hid hb
  clear h b1 hf hws hsz hb
  obtain ⟨r, hr⟩ : ∃ r, moveF p a = r := ⟨_, rfl⟩
  rw [hr]
  unfold ptV
  have e1 : [a].all fitP = fitP a := by simp
  by_cases h0 : fitP a
  · rw [h0] at e1
    have E1 := Lib.hid e1
    clear e1
    by_cases h1 : lastK p.list = 1
    · have hr2 : (0, { p with list := p.list.set (p.list.length - 1) (moveS a), start := a, now := a }) = r := by rw [← hr]; simp [moveF, h0, h1]
      have hr' := Lib.hid hr2
      have H1 := Lib.hid h1
      clear hr hr2 h0 h1
      go_enter Tryd.func64, Tryd.ntmps64
      go_wp2_with fail
      rw [HW.out, ← HZ.out]
      refine (fits_any _ [a] _ _ (RowIn.pts ws [a] (by simp))).mono ?_
      rw [E1.out]
      rintro e w1 ⟨rfl, hf⟩
      have hf1 := ((Fr.refl Nob ws).alloc (.cells (encPs [a]).toArray 56)).trans0 hf
      have d0 := cell_nob c0 hf1
      have d1 := cell_nob c1 hf1
      have HF1 := Lib.hid hf1
      clear hf hf1 c0 c1
      go_wp2_with fail
      obtain ⟨w2, hw2⟩ : ∃ w2, w1.alloc (.cells #[.int .i64 1, .int .i64 a.x, .int .i64 a.y, .int .i64 0, .int .i64 0, .int .i64 0, .int .i64 0] 91) = w2 := ⟨_, rfl⟩
      rw [hw2]
      have hf2 : Fr Nob w1 w2 := by rw [← hw2]; exact (Fr.refl Nob w1).alloc _
      have hb2 : Blk w2 w1.heap.size (encS (moveS a)).toArray 91 := by rw [← hw2]; exact Blk.new w1 _ _
      clear hw2
      refine (last_any g v p _ ((HH.out.nob HF1.out).nob hf2)).mono ?_
      rw [H1.out]
      rintro e w3 ⟨rfl, hf3⟩
      have hf13 := HF1.out.trans0 (hf2.trans0 hf3)
      have hb3 := hb2.fr hf3 fun hh => hh
      have hp3 := HH.out.nob hf13
      have hn0 : 0 < p.list.length := by
        rcases Nat.eq_zero_or_pos p.list.length with h | h
        · have := H1.out
          simp [lastK, h] at this
        · exact h
      obtain ⟨b, cap, hv, k1, k2, hsg⟩ := hp3.2.sg rfl hn0
      subst hv
      obtain ⟨m, hm⟩ : ∃ m, p.list.length = m + 1 := ⟨p.list.length - 1, by omega⟩
      obtain ⟨g0, g1, g2, g3, g4, g5, g6⟩ := hsg m (by omega)
      obtain ⟨s0, s1, s2, s3, s4, s5, s6⟩ := SgAt.own hb3
      have x1 := hp3.cells.c1
      have hgb := hp3.2.ne hp3.1 (by decide) b rfl
      have hfz : ∀ j, w3.frozen? ⟨b, j, none⟩ = false := by
        obtain ⟨_, ⟨h0, _⟩ | ⟨g', cap', cur, hv, hb, _⟩⟩ := hp3.2
        · cases h0
        · cases hv; exact hb.free
      have q0 := hfz (m * 7); have q1 := hfz (m * 7 + 1); have q2 := hfz (m * 7 + 2); have q3 := hfz (m * 7 + 3); have q4 := hfz (m * 7 + 4); have q5 := hfz (m * 7 + 5); have q6 := hfz (m * 7 + 6)
      have e0 : ((p.list.length : Nat) : Int) - 1 = m := by omega
      have i1 : (m : Int) < p.list.length := by omega
      have HM := Lib.hid hm
      have HP3 := Lib.hid hp3
      have HB3 := Lib.hid hb3
      have HF3 := Lib.hid hf13
      clear hp3 hb3 hf13 hf3 hf2 hb2 hsg hfz d0 d1
      generalize p.list[m] = y at *
      clear hm
      unfold moveS oo at *
      have wm : IntKind.i64.wrap (m : Int) = m := IntWalk.i64_in _ (by omega)
      go_wp2_with fail
      go_still_tail 12, (by kernel_rfl)
      change wpList _ _ _ _ _ w3.drew
      go_wp2_with fail
      have hfs : Fr (fun k => k = b) w3 (((((((w3.setCell ⟨b, m * 7, none⟩ (.int .i64 1)).setCell ⟨b, m * 7 + 1, none⟩ (.int .i64 a.x)).setCell ⟨b, m * 7 + 2, none⟩ (.int .i64 a.y)).setCell ⟨b, m * 7 + 3, none⟩ (.int .i64 0)).setCell ⟨b, m * 7 + 4, none⟩ (.int .i64 0)).setCell ⟨b, m * 7 + 5, none⟩ (.int .i64 0)).setCell ⟨b, m * 7 + 6, none⟩ (.int .i64 0)).drew := (sg_set_fr w3 b (m * 7) ⟨1, a, ⟨0, 0⟩, ⟨0, 0⟩⟩).drew
      have hos : OwnS (((((((w3.setCell ⟨b, m * 7, none⟩ (.int .i64 1)).setCell ⟨b, m * 7 + 1, none⟩ (.int .i64 a.x)).setCell ⟨b, m * 7 + 2, none⟩ (.int .i64 a.y)).setCell ⟨b, m * 7 + 3, none⟩ (.int .i64 0)).setCell ⟨b, m * 7 + 4, none⟩ (.int .i64 0)).setCell ⟨b, m * 7 + 5, none⟩ (.int .i64 0)).setCell ⟨b, m * 7 + 6, none⟩ (.int .i64 0)).drew 91 7 (.slice (some ⟨b, 0, none⟩) p.list.length cap) p.list.length (encSs (p.list.set m ⟨1, a, ⟨0, 0⟩, ⟨0, 0⟩⟩)) := (HP3.out.2.setSg rfl rfl m (by have := HM.out; omega) ⟨1, a, ⟨0, 0⟩, ⟨0, 0⟩⟩).fr ((Fr.refl Nob _).drew) fun _ _ hf => hf
      generalize (((((((w3.setCell ⟨b, m * 7, none⟩ (.int .i64 1)).setCell ⟨b, m * 7 + 1, none⟩ (.int .i64 a.x)).setCell ⟨b, m * 7 + 2, none⟩ (.int .i64 a.y)).setCell ⟨b, m * 7 + 3, none⟩ (.int .i64 0)).setCell ⟨b, m * 7 + 4, none⟩ (.int .i64 0)).setCell ⟨b, m * 7 + 5, none⟩ (.int .i64 0)).setCell ⟨b, m * 7 + 6, none⟩ (.int .i64 0)).drew = w4 at *
      have hbl := HL.out b (.inr rfl)
      have hgl := HL.out g (.inl rfl)
      have hb4 : Blk w4 w.heap.size (encP a).toArray 56 := (B1.out.fr HF3.out fun hh => hh).fr hfs fun e => by omega
      have hp4 := HP3.out.1.fr hfs fun e => hgb e.symm
      have y0 := hb4.cell 0
      have y1 := hb4.cell 1
      have z2 := hp4.free 2
      have z3 := hp4.free 3
      have z4 := hp4.free 4
      have z5 := hp4.free 5
      have v2 := hp4.cell 2
      have v3 := hp4.cell 3
      have v4 := hp4.cell 4
      have v5 := hp4.cell 5
      simp only [List.getElem?_toArray, encP, List.getElem?_cons_succ, List.getElem?_cons_zero] at y0 y1 v2 v3 v4 v5
      have hgw : g ≠ w.heap.size := by omega
      have HP4 := Lib.hid hp4
      have HO4 := Lib.hid hos
      have HF4 := Lib.hid ((((HF.out.trans0 HF3.out).mono (T := ptB g (.slice (some ⟨b, 0, none⟩) p.list.length cap)) fun _ hf => hf.elim).trans hfs fun k e => .inl (.inr (by subst e; rfl))))
      clear hp4 hos hfs hb4 g0 g1 g2 g3 g4 g5 g6 q0 q1 q2 q3 q4 q5 q6 s0 s1 s2 s3 s4 s5 s6 x1
      go_region
      go_wp2_with fail
      go_ret
      refine ⟨by rw [← hr'.out]; rfl, .slice (some ⟨b, 0, none⟩) p.list.length cap, ?_, ((((HF4.out.setCell (.inl (.inl rfl)) _).setCell (.inl (.inl rfl)) _).setCell (.inl (.inl rfl)) _).setCell (.inl (.inl rfl)) _).drew, fun b hb => .inl hb⟩
      have hfin : Fr (fun k => k = g) w4 _ := ((((((Fr.refl (fun k => k = g) w4).setCell (p := ⟨g, 2, none⟩) (.inl rfl) (.int .i64 a.x)).setCell (p := ⟨g, 3, none⟩) (.inl rfl) (.int .i64 a.y)).setCell (p := ⟨g, 4, none⟩) (.inl rfl) (.int .i64 a.x)).setCell (p := ⟨g, 5, none⟩) (.inl rfl) (.int .i64 a.y))).drew
      have hlast : p.list.length - 1 = m := by have := HM.out; omega
      rw [← hr'.out]
      refine ⟨((((HP4.out.set 2 _).set 3 _).set 4 _).set 5 _).drew, ?_⟩
      show OwnS _ 91 7 _ (p.list.set (p.list.length - 1) ⟨1, a, oo, oo⟩).length (encSs (p.list.set (p.list.length - 1) ⟨1, a, oo, oo⟩))
      rw [hlast, List.length_set]
      exact HO4.out.fr hfin fun k hk e => by cases hk; exact hgb e
    · have hne : (lastK p.list == 1) = false := by simpa using h1
      have hp' := HPB.out.len
      by_cases h2 : p.most < p.list.length + 1
      · have ha0 : addF p a [moveS a] = (9, p) := by simp [addF, h2]
        have hr2 : (9, p) = r := by rw [← hr]; simp [moveF, h0, h1, h2]
        subst hr2
        have HA0 := Lib.hid ha0
        clear hr h0 h1 h2 ha0
        go_enter Tryd.func64, Tryd.ntmps64
        go_wp2_with fail
        rw [HW.out, ← HZ.out]
        refine (fits_any _ [a] _ _ (RowIn.pts ws [a] (by simp))).mono ?_
        rw [E1.out]
        rintro e w1 ⟨rfl, hf⟩
        have hf1 := ((Fr.refl Nob ws).alloc (.cells (encPs [a]).toArray 56)).trans0 hf
        have d0 := cell_nob c0 hf1
        have d1 := cell_nob c1 hf1
        have HF1 := Lib.hid hf1
        clear hf hf1 c0 c1
        go_wp2_with fail
        obtain ⟨w2, hw2⟩ : ∃ w2, w1.alloc (.cells #[.int .i64 1, .int .i64 a.x, .int .i64 a.y, .int .i64 0, .int .i64 0, .int .i64 0, .int .i64 0] 91) = w2 := ⟨_, rfl⟩
        rw [hw2]
        have hf2 : Fr Nob w1 w2 := by rw [← hw2]; exact (Fr.refl Nob w1).alloc _
        have hb2 : Blk w2 w1.heap.size (encS (moveS a)).toArray 91 := by rw [← hw2]; exact Blk.new w1 _ _
        clear hw2
        refine (last_any g v p _ ((HH.out.nob HF1.out).nob hf2)).mono ?_
        rintro e w3 ⟨rfl, hf3⟩
        have hf13 := HF1.out.trans0 (hf2.trans0 hf3)
        have d2 := cell_nob d0 (hf2.trans0 hf3)
        have d3 := cell_nob d1 (hf2.trans0 hf3)
        obtain ⟨s0, s1, s2, s3, s4, s5, s6⟩ := SgAt.own (hb2.fr hf3 fun hh => hh)
        have HF3 := Lib.hid hf13
        clear hf2 hb2 hf3 hf13 d0 d1
        go_wp2_with fail
        have hr := RowIn.sgs w3 [moveS a] (by simp)
        have ha := (Fr.refl Nob w3).alloc (.cells (encSs [moveS a]).toArray 91)
        refine (add_any g v p a _ [moveS a] _ _ ((HH.out.nob HF3.out).nob ha) hr (fun k hk hb => ?_) HPB.out (by simp)).mono ?_
        · have := HL.out k hb
          have := HF.out.size
          have := HF3.out.size
          omega
        rw [HA0.out]
        rintro e w4 ⟨rfl, hq⟩
        have HQ := Lib.hid ((hq.after (HF3.out.trans0 ha)).after HF.out)
        clear hq ha hr
        go_wp2_with fail
        go_ret
        exact ⟨rfl, HQ.out⟩
      · have ha0 : addF p a [moveS a] = (0, { p with list := p.list ++ [moveS a], now := a }) := by simp [addF, h2]
        have hr2 : (0, { p with list := p.list ++ [moveS a], start := a, now := a }) = r := by rw [← hr]; simp [moveF, h0, h1, h2]
        have HA0 := Lib.hid ha0
        have hr' := Lib.hid hr2
        clear hr hr2 h0 h1 h2 ha0
        go_enter Tryd.func64, Tryd.ntmps64
        go_wp2_with fail
        rw [HW.out, ← HZ.out]
        refine (fits_any _ [a] _ _ (RowIn.pts ws [a] (by simp))).mono ?_
        rw [E1.out]
        rintro e w1 ⟨rfl, hf⟩
        have hf1 := ((Fr.refl Nob ws).alloc (.cells (encPs [a]).toArray 56)).trans0 hf
        have d0 := cell_nob c0 hf1
        have d1 := cell_nob c1 hf1
        have HF1 := Lib.hid hf1
        clear hf hf1 c0 c1
        go_wp2_with fail
        obtain ⟨w2, hw2⟩ : ∃ w2, w1.alloc (.cells #[.int .i64 1, .int .i64 a.x, .int .i64 a.y, .int .i64 0, .int .i64 0, .int .i64 0, .int .i64 0] 91) = w2 := ⟨_, rfl⟩
        rw [hw2]
        have hf2 : Fr Nob w1 w2 := by rw [← hw2]; exact (Fr.refl Nob w1).alloc _
        have hb2 : Blk w2 w1.heap.size (encS (moveS a)).toArray 91 := by rw [← hw2]; exact Blk.new w1 _ _
        clear hw2
        refine (last_any g v p _ ((HH.out.nob HF1.out).nob hf2)).mono ?_
        rintro e w3 ⟨rfl, hf3⟩
        have hf13 := HF1.out.trans0 (hf2.trans0 hf3)
        have d2 := cell_nob d0 (hf2.trans0 hf3)
        have d3 := cell_nob d1 (hf2.trans0 hf3)
        obtain ⟨s0, s1, s2, s3, s4, s5, s6⟩ := SgAt.own (hb2.fr hf3 fun hh => hh)
        have HF3 := Lib.hid hf13
        clear hf2 hb2 hf3 hf13 d0 d1
        go_wp2_with fail
        have hr := RowIn.sgs w3 [moveS a] (by simp)
        have ha := (Fr.refl Nob w3).alloc (.cells (encSs [moveS a]).toArray 91)
        refine (add_any g v p a _ [moveS a] _ _ ((HH.out.nob HF3.out).nob ha) hr (fun k hk hb => ?_) HPB.out (by simp)).mono ?_
        · have := HL.out k hb
          have := HF.out.size
          have := HF3.out.size
          omega
        rw [HA0.out]
        rintro e w4 ⟨rfl, v', hp4, hf4, hv4⟩
        have hwl := HL.out
        have hb4 : Blk w4 w.heap.size (encP a).toArray 56 := ((B1.out.fr (HF3.out.trans0 ha) fun hh => hh)).fr hf4 fun hk => by have := hwl _ hk; omega
        have y0 := hb4.cell 0
        have y1 := hb4.cell 1
        have z2 := hp4.1.free 2
        have z3 := hp4.1.free 3
        have v2 := hp4.1.cell 2
        have v3 := hp4.1.cell 3
        simp only [List.getElem?_toArray, encP, List.getElem?_cons_succ, List.getElem?_cons_zero] at y0 y1 v2 v3
        have hgw : g ≠ w.heap.size := by have := hwl g (.inl rfl); omega
        have HP4 := Lib.hid hp4
        have HQ := Lib.hid (show Fr (ptB g v) w w4 from ((HF.out.trans0 (HF3.out.trans0 ha)).mono fun _ hf => hf.elim).trans hf4 fun k hk => .inl hk)
        have HV := Lib.hid (show ∀ b, v'.ownBlock = some b → v.ownBlock = some b ∨ w.heap.size ≤ b from fun b hb => by
          rcases hv4 b hb with h | h
          · exact .inl h
          · exact .inr (Nat.le_trans (HF.out.trans0 (HF3.out.trans0 ha)).size h))
        clear hp4 hf4 hv4 ha hr hb4 hwl d2 d3 s0 s1 s2 s3 s4 s5 s6
        go_wp2_with fail
        go_ret
        refine ⟨by rw [← hr'.out]; rfl, v', ?_, (HQ.out.setCell (.inl (.inl rfl)) _).setCell (.inl (.inl rfl)) _, HV.out⟩
        rw [← hr'.out]
        have hfin : Fr (fun k => k = g) w4 _ := ((Fr.refl (fun k => k = g) w4).setCell (p := ⟨g, 2, none⟩) (.inl rfl) (.int .i64 a.x)).setCell (p := ⟨g, 3, none⟩) (.inl rfl) (.int .i64 a.y)
        exact ⟨(HP4.out.1.set 2 _).set 3 _, HP4.out.2.fr hfin fun k hk e => HP4.out.2.ne HP4.out.1 (by decide) k hk e⟩
  · have hr2 : r = (11, p) := by rw [← hr]; simp [moveF, h0]
    subst hr2
    rw [show fitP a = false by simpa using h0] at e1
    have E1 := Lib.hid e1
    clear hr h0 e1
    go_enter Tryd.func64, Tryd.ntmps64
    go_wp2_with fail
    rw [HW.out, ← HZ.out]
    refine (fits_any _ [a] _ _ (RowIn.pts ws [a] (by simp))).mono ?_
    rw [E1.out]
    rintro e w1 ⟨rfl, hf⟩
    have HF1 := Lib.hid (((Fr.refl Nob ws).alloc (.cells (encPs [a]).toArray 56)).trans0 hf)
    clear hf
    go_wp2_with fail
    go_ret
    exact ⟨rfl, (PthTo.same HH.out HF1.out).after HF.out⟩
end Go.Proofs.YtkkejjfmidgciaaDoor
/- append as a step of a region that draws its order: for 'go_region_law', 'go_region_held3'. -/
namespace Go.Proofs.YtkkejjfmidgciaaDoor
open Go.RowKit
set_option linter.unusedVariables false
set_option linter.unusedSimpArgs false
theorem wp_app {P : Program} {o : Oper} {a : Act} {w : World} {K : Act → World → Prop} {Q : Exit → Act → World → Prop} (s x : Operand) (t : TypeId)
    (ho : o.op = .call { callee := .builtin .append, args := #[s, x], argTypes := #[t, t] })
    (e : TypeId) (i : TypeInfo) (z : Value) (size bytes : Nat) (ht : P.underlying t = some (.slice e)) (hi : P.info? e = some i) (hz : i.zero = some z)
    (hsize : i.size = size) (hby : i.bytes = bytes) (hzs : z.cells.size = size) (hsz : 0 < size)
    (v : Value) (n : Nat) (xs : List Value) (hs : a.eval s = v) (hown : OwnS w e size v n xs) (S : Nat → Prop) (xv : Value) (m : Nat) (news : List Value) (hx : a.eval x = xv) (hrow : RowIn w S size xv m news)
    (h1 : ∀ u ∈ news, u.oneCell' = true) (h63 : n + m ≤ maxLen) (hbytes : (n + m) * bytes ≤ 140737488355328)
    (h : ∀ v' w', OwnS w' e size v' (n + m) (xs ++ news) → Fr (inB v) w w' → (v'.ownBlock = v.ownBlock ∨ v'.ownBlock = some w.heap.size) → (n + m = 0 → v' = v ∧ w' = w) → K (a.put o.dst v') w') : o.wp P a w K Q := by
  obtain ⟨v', w', hr, h2, h3, h4, h5⟩ := run_app (P := P) w t o.type e i z size bytes ht hi hz hsize hby hzs hsz v n xs hown S xv m news hrow h1 h63 hbytes
  unfold Oper.wp execOp
  simp only [ho, resolve, invoke, builtin, Sem.run_bind, Sem.run_pure, Result.andThen_ok, List.map_toArray, List.map_cons, List.map_nil, hs, hx, hr]
  exact h v' w' h2 h3 h4 h5
theorem step_app {P : Program} {ops : Array Oper} {o : Oper} {a : Act} {w : World} {K : Act → World → Prop} {Q : Exit → Act → World → Prop} {E : Prop} (hgd : o.guard = none) (s x : Operand) (t : TypeId)
    (ho : o.op = .call { callee := .builtin .append, args := #[s, x], argTypes := #[t, t] })
    (e : TypeId) (i : TypeInfo) (z : Value) (size bytes : Nat) (ht : P.underlying t = some (.slice e)) (hi : P.info? e = some i) (hz : i.zero = some z)
    (hsize : i.size = size) (hby : i.bytes = bytes) (hzs : z.cells.size = size) (hsz : 0 < size)
    (v : Value) (n : Nat) (xs : List Value) (hs : a.eval s = v) (hown : OwnS w e size v n xs) (S : Nat → Prop) (xv : Value) (m : Nat) (news : List Value) (hx : a.eval x = xv) (hrow : RowIn w S size xv m news)
    (h1 : ∀ u ∈ news, u.oneCell' = true) (h63 : n + m ≤ maxLen) (hbytes : (n + m) * bytes ≤ 140737488355328)
    (h : ∀ v' w', OwnS w' e size v' (n + m) (xs ++ news) → Fr (inB v) w w' → (v'.ownBlock = v.ownBlock ∨ v'.ownBlock = some w.heap.size) → (n + m = 0 → v' = v ∧ w' = w) → K (a.put o.dst v') w') :
    if Region.wanted o (yielded ops a.tmps) = true then Oper.wp P o a w K Q else E := by
  rw [if_pos (by simp [Region.wanted, hgd])]
  exact wp_app s x t ho e i z size bytes ht hi hz hsize hby hzs hsz v n xs hs hown S xv m news hx hrow h1 h63 hbytes h
end Go.Proofs.YtkkejjfmidgciaaDoor
/- Memory of a call's own: new blocks, rows in them. No program, no conditions. -/
namespace Go.Proofs.YtkkejjfmidgciaaDoor
open Go.RowKit
set_option linter.unusedVariables false
set_option linter.unusedSimpArgs false
/-- Blocks that are there. -/
theorem RowIn.lts {w : World} {S : Nat → Prop} {size n : Nat} {v : Value} {cs : List Value} (h : RowIn w S size v n cs) : RowIn w (fun k => S k ∧ k < w.heap.size) size v n cs := by
  obtain ⟨hl, A, cap, hv, h1, h2, h3, h4⟩ := h
  exact ⟨hl, A, cap, hv, h1, h2, h3, fun j u hu => by obtain ⟨b, off, ha, hS, hc⟩ := h4 j u hu; exact ⟨b, off, ha, ⟨hS, World.block_lt_of_cell? w _ hc⟩, hc⟩⟩
theorem RowIn.form {w : World} {S : Nat → Prop} {size n : Nat} {v : Value} {cs : List Value} (h : RowIn w S size v n cs) : ∃ A cap, v = .slice A n cap ∧ n ≤ cap ∧ cap ≤ maxLen := by
  obtain ⟨_, A, cap, hv, h1, h2, _⟩ := h
  exact ⟨A, cap, hv, h1, h2⟩
theorem RowIn.nob {w w' : World} {S : Nat → Prop} {size n : Nat} {v : Value} {cs : List Value} (h : RowIn w S size v n cs) (hf : Fr Nob w w') : RowIn w' S size v n cs := h.fr hf fun _ _ hh => hh
theorem OwnS.rowIn {w : World} {e : TypeId} {size n : Nat} {v : Value} {cs : List Value} (h : OwnS w e size v n cs) {S : Nat → Prop} (hs : ∀ k, v.ownBlock = some k → S k) : RowIn w S size v n cs := h.row.mono hs
theorem OwnS.nob {w w' : World} {e : TypeId} {size n : Nat} {v : Value} {cs : List Value} (h : OwnS w e size v n cs) (hf : Fr Nob w w') : OwnS w' e size v n cs := h.fr hf fun _ _ hh => hh
theorem Blk.nob {w w' : World} {g : Nat} {cs : Array Value} {t : TypeId} (h : Blk w g cs t) (hf : Fr Nob w w') : Blk w' g cs t := h.fr hf fun hh => hh
/-- New blocks of a call. -/
def Bt (w w' : World) : Nat → Prop := fun k => w.heap.size ≤ k ∧ k < w'.heap.size
theorem OwnS.bt {w0 w : World} {e : TypeId} {size n : Nat} {v : Value} {cs : List Value} (h : OwnS w e size v n cs) (hn : NewV w0 v) : RowIn w (Bt w0 w) size v n cs := h.row.mono fun k hk => ⟨hn k hk, h.lt k hk⟩
/-- An empty slice of its own. -/
theorem OwnS.empty {w : World} {e : TypeId} {size g : Nat} (h : Blk w g #[] e) : OwnS w e size (.slice (some ⟨g, 0, none⟩) 0 0) 0 [] :=
  ⟨by simp, .inr ⟨_, _, _, rfl, h, Nat.le_refl _, by decide, by simp, by simp⟩⟩
theorem fr_of_app {w0 w w' : World} {v : Value} (h : Fr (inB v) w w') (hf : Fr Nob w0 w) (hn : NewV w0 v) : Fr Nob w0 w' := hf.trans h fun k hk => .inr (hn k hk)
theorem new_of_app {w0 w : World} {v v' : Value} (h : v'.ownBlock = v.ownBlock ∨ v'.ownBlock = some w.heap.size) (hf : Fr Nob w0 w) (hn : NewV w0 v) : NewV w0 v' := fun b hb => by
  rcases h with h | h
  · exact hn b (h ▸ hb)
  · rw [h] at hb; cases hb; exact hf.size
theorem Blk.new1 (w : World) (o : Obj) (cs : Array Value) (t : TypeId) : Blk ((w.alloc o).alloc (.cells cs t)) (w.heap.size + 1) cs t := by
  have := Blk.new (w.alloc o) cs t
  simpa using this
theorem Blk.new2 (w : World) (o o' : Obj) (cs : Array Value) (t : TypeId) : Blk (((w.alloc o).alloc o').alloc (.cells cs t)) (w.heap.size + 2) cs t := by
  have := Blk.new ((w.alloc o).alloc o') cs t
  simpa using this
theorem Blk.row {w : World} {g e size n : Nat} {cs : Array Value} (h : Blk w g cs e) (hl : cs.size = n * size) (hn : n ≤ maxLen) : RowIn w (fun k => k = g) size (.slice (some ⟨g, 0, none⟩) n n) n cs.toList :=
  ⟨by rw [Array.length_toList, hl], some ⟨g, 0, none⟩, n, rfl, Nat.le_refl _, hn, (fun h => by cases h), fun j u hu => ⟨_, _, rfl, rfl, by rw [Nat.zero_add]; exact (h.cell j).trans (by simpa using hu)⟩⟩
theorem Blk.sgs {w : World} {g : Nat} {l : List Sg} (h : Blk w g (encSs l).toArray 91) (hl : l.length ≤ 10) : RowIn w (fun k => k = g) 7 (.slice (some ⟨g, 0, none⟩) l.length l.length) l.length (encSs l) := by
  have := h.row (size := 7) (n := l.length) (by simp [encSs_len]) (by unfold maxLen; omega)
  simpa using this
section
variable {P : Program} (w : World)
/-- append onto an empty slice of no room. -/
theorem run_app0 (t ty e : TypeId) (i : TypeInfo) (z : Value) (size bytes : Nat) (ht : P.underlying t = some (.slice e)) (hi : P.info? e = some i) (hz : i.zero = some z)
    (hsize : i.size = size) (hby : i.bytes = bytes) (hzs : z.cells.size = size) (hsz : 0 < size)
    (g : Nat) (hb : Blk w g #[] e) (S : Nat → Prop) (x : Value) (m : Nat) (news : List Value) (hx : RowIn w S size x m news)
    (h1 : ∀ u ∈ news, u.oneCell' = true) (h63 : m ≤ maxLen) (hbytes : m * bytes ≤ 140737488355328) :
    ∃ v' w', (Builtin.append_ #[t, t] ty #[.slice (some ⟨g, 0, none⟩) 0 0, x]).run P w = .ok v' w' ∧ OwnS w' e size v' m news ∧ Fr Nob w w' ∧ (v'.ownBlock = some g ∨ v'.ownBlock = some w.heap.size) := by
  by_cases hm : m = 0
  · obtain ⟨v', w', hr, ho, _, hat, h0⟩ := run_app (P := P) w t ty e i z size bytes ht hi hz hsize hby hzs hsz _ 0 [] (OwnS.empty (size := size) hb) S x m news hx h1 (by omega) (by rw [Nat.zero_add]; exact hbytes)
    obtain ⟨rfl, rfl⟩ := h0 (by omega)
    exact ⟨_, _, hr, by simpa using ho, Fr.refl _ _, .inl rfl⟩
  · subst hsize
    subst hby
    obtain ⟨hl, A, c, rfl, hmc, hcm, hA, hcells⟩ := hx
    obtain ⟨a, rfl⟩ : ∃ a, A = some a := by
      cases A with
      | none => have := hA rfl; omega
      | some a => exact ⟨a, rfl⟩
    have hsmall : m ≤ 9223372036854775807 := by simp only [maxLen] at h63; omega
    have hnews : ∀ j u, news[j]? = some u → w.cell? (a.add j) = some u := fun j u hu => by
      obtain ⟨b, off, hb, _, hc⟩ := hcells j u hu
      cases hb
      rw [add_plain]
      exact hc
    have hr := run_append_grow (P := P) w t ty e i z ht hi hz ⟨g, 0, none⟩ 0 0 [] (by simp) (fun j u hu => by simp at hu) a m c news hl hnews (by omega) (by omega) (growslice_fits (by omega) (by rw [Nat.zero_add]; exact hbytes))
    have hge := grownCap_ge w (0 + m) 0 e
    have hcm : grownCap w (0 + m) 0 e ≤ maxLen := grownCap_le_maxLen w (0 + m) 0 e (by omega)
    refine ⟨_, _, hr, ⟨hl, .inr ⟨w.heap.size, grownCap w (0 + m) 0 e, _, ?_, Blk.new w.drew _ _, ?_, hcm, ?_, ?_⟩⟩, ((Fr.refl _ _).drew).alloc _, .inr rfl⟩
    · rw [Nat.zero_add]
    · rw [Nat.zero_add] at hge ⊢; exact hge
    · simp only [Array.size_append, List.size_toArray, size_zeroCells, hzs, List.length_nil, hl, Nat.zero_add, ← Nat.add_mul]
      rw [Nat.zero_add] at hge
      apply Nat.le_of_eq
      congr 1
      omega
    · simp only [Array.toList_append]
      rw [List.nil_append, ← hl]
      exact List.take_left
theorem step_app0 {ops : Array Oper} {o : Oper} {a : Act} {K : Act → World → Prop} {Q : Exit → Act → World → Prop} {E : Prop} (hgd : o.guard = none) (s x : Operand) (t : TypeId)
    (ho : o.op = .call { callee := .builtin .append, args := #[s, x], argTypes := #[t, t] })
    (e : TypeId) (i : TypeInfo) (z : Value) (size bytes : Nat) (ht : P.underlying t = some (.slice e)) (hi : P.info? e = some i) (hz : i.zero = some z)
    (hsize : i.size = size) (hby : i.bytes = bytes) (hzs : z.cells.size = size) (hsz : 0 < size)
    (g : Nat) (hs : a.eval s = .slice (some ⟨g, 0, none⟩) 0 0) (hb : Blk w g #[] e) (S : Nat → Prop) (xv : Value) (m : Nat) (news : List Value) (hx : a.eval x = xv) (hrow : RowIn w S size xv m news)
    (h1 : ∀ u ∈ news, u.oneCell' = true) (h63 : m ≤ maxLen) (hbytes : m * bytes ≤ 140737488355328)
    (h : ∀ v' w', OwnS w' e size v' m news → Fr Nob w w' → (v'.ownBlock = some g ∨ v'.ownBlock = some w.heap.size) → K (a.put o.dst v') w') :
    if Region.wanted o (yielded ops a.tmps) = true then Oper.wp P o a w K Q else E := by
  obtain ⟨v', w', hr, h2, h3, h4⟩ := run_app0 (P := P) w t o.type e i z size bytes ht hi hz hsize hby hzs hsz g hb S xv m news hrow h1 h63 hbytes
  rw [if_pos (by simp [Region.wanted, hgd])]
  unfold Oper.wp execOp
  simp only [ho, resolve, invoke, builtin, Sem.run_bind, Sem.run_pure, Result.andThen_ok, List.map_toArray, List.map_cons, List.map_nil, hs, hx, hr]
  exact h v' w' h2 h3 h4
theorem wpList_app0 {ops : Array Oper} {rest : List Oper} {o : Oper} {a : Act} {Q : Exit → Act → World → Prop} (hgd : o.guard = none) (s x : Operand) (t : TypeId)
    (ho : o.op = .call { callee := .builtin .append, args := #[s, x], argTypes := #[t, t] })
    (e : TypeId) (i : TypeInfo) (z : Value) (size bytes : Nat) (ht : P.underlying t = some (.slice e)) (hi : P.info? e = some i) (hz : i.zero = some z)
    (hsize : i.size = size) (hby : i.bytes = bytes) (hzs : z.cells.size = size) (hsz : 0 < size)
    (g : Nat) (hs : a.eval s = .slice (some ⟨g, 0, none⟩) 0 0) (hb : Blk w g #[] e) (S : Nat → Prop) (xv : Value) (m : Nat) (news : List Value) (hx : a.eval x = xv) (hrow : RowIn w S size xv m news)
    (h1 : ∀ u ∈ news, u.oneCell' = true) (h63 : m ≤ maxLen) (hbytes : m * bytes ≤ 140737488355328)
    (h : ∀ v' w', OwnS w' e size v' m news → Fr Nob w w' → (v'.ownBlock = some g ∨ v'.ownBlock = some w.heap.size) → wpList P ops Q rest (a.put o.dst v') w') : wpList P ops Q (o :: rest) a w := by
  obtain ⟨v', w', hr, h2, h3, h4⟩ := run_app0 (P := P) w t o.type e i z size bytes ht hi hz hsize hby hzs hsz g hb S xv m news hrow h1 h63 hbytes
  unfold wpList
  rw [if_pos (by simp [Region.wanted, hgd])]
  left
  unfold Oper.wp execOp
  simp only [ho, resolve, invoke, builtin, Sem.run_bind, Sem.run_pure, Result.andThen_ok, List.map_toArray, List.map_cons, List.map_nil, hs, hx, hr]
  exact h v' w' h2 h3 h4
end
end Go.Proofs.YtkkejjfmidgciaaDoor
/- The names of the fonts in memory; the walk of font.Name. -/
namespace Go.Proofs.YtkkejjfmidgciaaDoor
open Go.RowKit
set_option linter.unusedVariables false
set_option linter.unusedSimpArgs false
def nameL : List (List UInt8) := [[67, 111, 117, 114, 105, 101, 114], [67, 111, 117, 114, 105, 101, 114, 45, 66, 111, 108, 100], [67, 111, 117, 114, 105, 101, 114, 45, 79, 98, 108, 105, 113, 117, 101], [67, 111, 117, 114, 105, 101, 114, 45, 66, 111, 108, 100, 79, 98, 108, 105, 113, 117, 101], [72, 101, 108, 118, 101, 116, 105, 99, 97], [72, 101, 108, 118, 101, 116, 105, 99, 97, 45, 66, 111, 108, 100], [72, 101, 108, 118, 101, 116, 105, 99, 97, 45, 79, 98, 108, 105, 113, 117, 101], [72, 101, 108, 118, 101, 116, 105, 99, 97, 45, 66, 111, 108, 100, 79, 98, 108, 105, 113, 117, 101], [84, 105, 109, 101, 115, 45, 82, 111, 109, 97, 110], [84, 105, 109, 101, 115, 45, 66, 111, 108, 100], [84, 105, 109, 101, 115, 45, 73, 116, 97, 108, 105, 99], [84, 105, 109, 101, 115, 45, 66, 111, 108, 100, 73, 116, 97, 108, 105, 99], [83, 121, 109, 98, 111, 108], [90, 97, 112, 102, 68, 105, 110, 103, 98, 97, 116, 115]]
def nameS (i : Nat) : ByteArray := ⟨(nameL.getD i []).toArray⟩
def NamesIn (w : World) : Prop := ∀ i, i < 14 → w.cell? ⟨0, i, none⟩ = some (.string (nameS i))
theorem NamesIn.below {w w' : World} (h : NamesIn w) (hb : Below w.heap.size w w') : NamesIn w' := fun i hi => by
  rw [hb.cell (p := ⟨0, i, none⟩) (World.block_lt_of_cell? w _ (h i hi))]; exact h i hi

def nameF (i : Int) : ByteArray := if i < 0 ∨ 14 ≤ i then ⟨#[]⟩ else nameS i.toNat
theorem name_any (i : Int) (w : World) (hN : NamesIn w) : Calls Tryd.prog 104 #[.int .i64 i] w fun e w' => e = .returned (.string (nameF i)) ∧ w = w' := by
  by_cases h1 : i < 0
  · rw [show nameF i = ⟨#[]⟩ by simp [nameF, h1]]
    clear hN
    go_enter Tryd.func104, Tryd.ntmps104; go_wp2; go_ret; exact ⟨rfl, rfl⟩
  by_cases h2 : 14 ≤ i
  · rw [show nameF i = ⟨#[]⟩ by simp [nameF, h2]]
    clear hN
    go_enter Tryd.func104, Tryd.ntmps104; go_wp2; go_ret; exact ⟨rfl, rfl⟩
  · obtain ⟨n, rfl⟩ : ∃ n : Nat, i = n := ⟨i.toNat, by omega⟩
    have hn : n < 14 := by omega
    have hc := hN n hn
    rw [show nameF (n : Int) = nameS n by simp only [nameF]; rw [if_neg (by omega)]; rfl]
    generalize nameS n = s at *
    clear hN
    go_enter Tryd.func104, Tryd.ntmps104; go_wp2; go_ret; exact ⟨rfl, rfl⟩

theorem NamesIn.nob {w w' : World} (h : NamesIn w) (hf : Fr Nob w w') : NamesIn w' := h.below hf.to_below
theorem NamesIn.fr {w w' : World} {S : Nat → Prop} (h : NamesIn w) (hf : Fr S w w') (h0 : ¬ S 0) : NamesIn w' := fun i hi => cell_fr (h i hi) hf h0
theorem NamesIn.pos {w : World} (h : NamesIn w) : 0 < w.heap.size := World.block_lt_of_cell? w _ (h 0 (by omega))
end Go.Proofs.YtkkejjfmidgciaaDoor
/- What the listed variable gives: the names of the fonts stand in it. -/
namespace Go.Proofs.YtkkejjfmidgciaaDoor
open Go.ChangeShapes Go.WideShapes Go.ChangeAt Go.WideMaps Go.WideElems Go.RowKit
set_option linter.unusedVariables false
set_option linter.unusedSimpArgs false
theorem own : ownKnob Tryd.prog.godebug = none := by kernel_rfl
theorem gNames : Tryd.prog.globalNamed "mezzotint/font.names" = some 0 := by kernel_rfl
theorem tNames : (Tryd.prog.globals[0]?).map (·.type) = some 167 := by kernel_rfl
abbrev laidL {H : Type} : List (String × DataW H) := [("mezzotint/font.names", Rows.laid_mezzotint_font_names)]
theorem door_met (os : Os) (args : Array Value) : laidMetH Tryd.prog laidL ((World.doorLaid Tryd.prog 400 os).forCall (fun _ _ => 0) ⟨#[], args, []⟩).memory :=
  laidMetH_of_parts3 (fuel := 8) (laidMet_of_run' 8 (by kernel_rfl) (by kernel_rfl)) (by kernel_rfl) (by kernel_rfl)
theorem of_laid {W : World} (h : laidMetH Tryd.prog laidL W) : NamesIn W := by
  rw [MakeChecks.laidMetH_plain _ _ _ (by kernel_rfl)] at h
  obtain ⟨ps, ⟨g0, t0, cs0, f0, p0, q0, hg0, ht0, hv0, hd0, _, _⟩, _, _⟩ := h
  obtain rfl := Option.some.inj (gNames.symm.trans hg0)
  obtain rfl := Option.some.inj (tNames.symm.trans ht0)
  obtain ⟨xs, m1, rfl, hx1, hlen, hn3, hel⟩ := DataW.trod_array Tryd.underlying167 hd0
  have c9 : Tryd.prog.cellsOf 9 = 1 := by kernel_rfl
  have c36 : Tryd.prog.cellsOf 167 = 14 := by kernel_rfl
  rw [c36] at hlen
  simp only [Prod.mk.injEq] at hx1
  intro i hi
  have hi' := hel i hi
  have hxi : xs[i]? = some xs[i] := List.getElem?_eq_getElem (by omega)
  rw [hxi, c9] at hi'
  have hci : (cs0.toList.drop (i * 1)).take 1 = [cs0.toList[i]] := by
    rw [Nat.mul_one, List.take_one, List.head?_drop, List.getElem?_eq_getElem (by omega)]; rfl
  rw [hci] at hi'
  obtain ⟨s, e1, e2, _⟩ := DataW.trod_string Tryd.underlying9 hi'
  have hd : (xs.map (·.1))[i]? = some (.lit (.string (nameL.getD i []))) := by
    have : (xs.map (·.1)) = nameL.map (fun l => DataW.lit (.string l)) := by
      have h2 := hx1.1
      have h3 : (Rows.laid_mezzotint_font_names : DataW Unit) = .agg (nameL.map (fun l => DataW.lit (.string l))) := rfl
      rw [h3] at h2
      exact (DataW.agg.inj h2).symm
    rw [this, List.getElem?_map, List.getElem?_eq_getElem (show i < nameL.length from hi)]
    simp [List.getD_eq_getElem?_getD, List.getElem?_eq_getElem (show i < nameL.length from hi)]
  rw [List.getElem?_map, hxi] at hd
  have hs : s = nameS i := by
    rw [e2] at hd
    simp only [Option.map_some, Option.some.injEq, DataW.lit.injEq, Lit.string.injEq] at hd
    unfold nameS
    rw [← hd]
  have := World.var?_cell hg0 hv0 i
  rw [this]
  have e3 : cs0.toList[i] = Value.string s := by simpa using e1
  rw [← hs, ← e3]
  simp
end Go.Proofs.YtkkejjfmidgciaaDoor
