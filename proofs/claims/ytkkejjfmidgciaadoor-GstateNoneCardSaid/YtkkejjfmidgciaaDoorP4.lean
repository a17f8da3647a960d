/-
  The walks of add, New, Clear, Segments, Current, of the calls of no path.
-/
import Derived.Test.YtkkejjfmidgciaaDoorP3
namespace Go.Proofs.YtkkejjfmidgciaaDoor
open Go.RowKit
set_option linter.unusedVariables false
set_option linter.unusedSimpArgs false
def addF (p : PS) (to : Pt) (m : List Sg) : Int × PS := if p.most < p.list.length + m.length then (9, p) else (0, { p with list := p.list ++ m, now := to })
theorem Pth.drewN {w : World} {g : Nat} {v : Value} {p : PS} (h : Pth w g v p) (n : Nat) : Pth (w.drewN n) g v p := h
theorem Pth.putNow {w : World} {g : Nat} {v v' : Value} {p : PS} {n : Nat} {cs : List Value} (l : List Sg) (to : Pt) (h1 : Blk w g #[.int .i64 p.most, v, .int .i64 p.start.x, .int .i64 p.start.y, .int .i64 p.now.x, .int .i64 p.now.y] 131) (ho : OwnS w 91 7 v' n cs) (hn : n = l.length) (hc : cs = encSs l) :
    Pth (((w.setCell ⟨g, 1, none⟩ v').setCell ⟨g, 4, none⟩ (.int .i64 to.x)).setCell ⟨g, 5, none⟩ (.int .i64 to.y)) g v' { p with list := l, now := to } := by
  subst hn; subst hc
  refine ⟨((h1.set 1 v').set 4 _).set 5 _, ho.fr ((((Fr.refl (fun k => k = g) w).setCell (p := ⟨g, 1, none⟩) (.inl rfl) v').setCell (p := ⟨g, 4, none⟩) (.inl rfl) _).setCell (p := ⟨g, 5, none⟩) (.inl rfl) _) fun k hk e => ?_⟩
  exact ho.ne h1 (by decide) k hk e
theorem add_over (g : Nat) (v : Value) (p : PS) (to : Pt) (A : Option Addr) (n cap : Nat) (w : World) (h : Pth w g v p) (hm : -9223372036854775808 ≤ p.most ∧ p.most ≤ 9223372036854775807) (hb : p.list.length + n ≤ 1000000000000)
    (ho : p.most < p.list.length + n) :
    Calls Tryd.prog 107 #[.pointer (some ⟨g, 0, none⟩), ptV to, .slice A n cap] w fun e w' => e = .returned (.int .i64 9) ∧ Fr Nob w w' := by
  have hf := (Fr.refl Nob w).alloc (.cells #[.int .i64 to.x, .int .i64 to.y] 56)
  have hcc := (h.nob hf).cells
  have hc0 := hcc.c0
  have hc1 := hcc.c1
  obtain ⟨A', cap', rfl, h1, h2⟩ := h.form
  have hf := Lib.hid hf
  clear h hcc
  unfold ptV
  go_enter Tryd.func107, Tryd.ntmps107
  go_wp2
  go_quiet (fail)
  go_wp2
  go_ret
  exact ⟨rfl, hf.out.drewN _⟩
set_option maxHeartbeats 400000 in
theorem add_in (g : Nat) (v : Value) (p : PS) (to : Pt) (x : Value) (m : List Sg) (S : Nat → Prop) (w : World) (h : Pth w g v p) (hx : RowIn w S 7 x m.length (encSs m)) (hS : ∀ k, S k → ¬ ptB g v k) (hm : -9223372036854775808 ≤ p.most ∧ p.most ≤ 9223372036854775807) (hb : p.list.length + m.length ≤ 1000000000000)
    (ho : ¬ p.most < p.list.length + m.length) :
    Calls Tryd.prog 107 #[.pointer (some ⟨g, 0, none⟩), ptV to, x] w fun e w' => e = .returned (.int .i64 0) ∧ PthTo w g v { p with list := p.list ++ m, now := to } w' := by
  obtain ⟨i0, hi, hz0, hz1, hz2⟩ := info_parts info43
  have hf := (Fr.refl Nob w).alloc (.cells #[.int .i64 to.x, .int .i64 to.y] 56)
  have hbk := Blk.new w #[.int .i64 to.x, .int .i64 to.y] 56
  have hpa := h.nob hf
  have hcc := hpa.cells
  have hc0 := hcc.c0
  have hc1 := hcc.c1
  obtain ⟨A', cap', rfl, h1, h2⟩ := h.form
  obtain ⟨A, cap, rfl, _, _⟩ : ∃ A c, x = .slice A m.length c ∧ m.length ≤ c ∧ c ≤ maxLen := by obtain ⟨_, A, c, h, h1, h2, _⟩ := hx; exact ⟨A, c, h, h1, h2⟩
  have HX := Lib.hid (hx.fr hf fun _ _ hf => hf)
  have HH := Lib.hid hpa
  have hf := Lib.hid hf
  have HBK := Lib.hid hbk
  have HLT := Lib.hid h.lt
  clear h hcc hx hpa hbk
  obtain ⟨p', hp'⟩ : ∃ p' : PS, p' = { p with list := p.list ++ m, now := to } := ⟨_, rfl⟩
  rw [← hp']
  replace hp' := Lib.hid hp'
  have hdec : decide (p.most < ↑p.list.length + ↑m.length) = false := by simpa using ho
  unfold ptV
  go_enter Tryd.func107, Tryd.ntmps107
  go_wp2
  generalize w.alloc (.cells #[.int .i64 to.x, .int .i64 to.y] 56) = wa at *
  go_quiet (fail)
  have HH2 := Lib.hid (HH.out.drewN nq)
  have HX2 := Lib.hid (HX.out.fr ((Fr.refl Nob wa).drewN nq) fun _ _ hf => hf)
  have hf2 := Lib.hid (hf.out.drewN nq)
  have HBK2 := Lib.hid (HBK.out.drewN nq)
  clear HH HX hf HBK hc0 hc1
  generalize wa.drewN nq = wb at *
  have hc1 := HH2.out.cells.c1
  go_wp2_with (at_builtin; refine wpList_app _ rfl _ _ 25 rfl 91 i0 _ 7 56 Tryd.underlying25 hi hz0 hz1 hz2 rfl (by decide) _ p.list.length (encSs p.list) rfl HH2.out.2 S _ m.length (encSs m) rfl HX2.out ?c1 ?c2 ?c3 ?_)
  case c1 => exact encSs_one m
  case c2 => unfold maxLen at *; omega
  case c3 => omega
  intro v' w1 hown hfr hat _
  obtain ⟨A1, cap1, rfl, _, _⟩ := hown.form
  have hg := fun k hk => HH2.out.2.ne HH2.out.1 (by decide) k hk
  have hb1 : Blk w1 g _ 131 := HH2.out.1.fr hfr fun hh => hg g hh rfl
  have hk1 : Blk w1 w.heap.size _ 56 := HBK2.out.fr hfr fun hh => by
    have := HLT.out w.heap.size (.inr hh); omega
  have k3 := hb1.cell 1
  have k4 := hb1.cell 4
  have k5 := hb1.cell 5
  have q3 := hb1.free 1
  have q4 := hb1.free 4
  have q5 := hb1.free 5
  have t0 := hk1.cell 0
  have t1 := hk1.cell 1
  simp only [List.getElem?_toArray, List.getElem?_cons_succ, List.getElem?_cons_zero] at k3 k4 k5 t0 t1
  have hgw : g ≠ w.heap.size := by have := HLT.out g (.inl rfl); omega
  have HB1 := Lib.hid hb1
  have HO1 := Lib.hid hown
  have HF1 := Lib.hid hfr
  have HAT := Lib.hid hat
  clear hg hb1 hown hfr hat hk1
  go_wp2
  go_ret
  refine ⟨rfl, _, hp'.out ▸ Pth.putNow (p := p) (p.list ++ m) to HB1.out HO1.out (by simp) (by simp [encSs_append]), ?_, ?_⟩
  · refine ((((hf2.out.mono (T := ptB g (.slice A' p.list.length cap')) fun _ hf => hf.elim).trans (HF1.out.mono (T := ptB g (.slice A' p.list.length cap')) fun k hk => .inr hk) fun k hk => .inl hk).setCell (.inl (.inl rfl)) _).setCell (.inl (.inl rfl)) _).setCell (.inl (.inl rfl)) _
  · intro b hb
    rcases HAT.out with e | e
    · exact .inl (e ▸ hb)
    · rw [e] at hb; cases hb; exact .inr hf2.out.size
end Go.Proofs.YtkkejjfmidgciaaDoor
