/-
  The walk of copied.
-/
import Derived.Test.YtkkejjfmidgciaaDoorG4
import Derived.Test.YtkkejjfmidgciaaDoorL1
namespace Go.Proofs.YtkkejjfmidgciaaDoor
open Go.RowKit
set_option linter.unusedVariables false
set_option linter.unusedSimpArgs false
theorem run_storeAtRow {P : Program} {w : World} (ty : TypeId) (g o : Nat) (cells : List Value) (t : TypeId) (old : Array Value) (hg : Blk w g old t) (hfit : o + cells.length ≤ old.size) (hi : (P.info? ty).map (·.size) = some cells.length) (h1 : ∀ u ∈ cells, u.oneCell' = true) :
    (Instr.storeAt ty (.pointer (some ⟨g, o, none⟩)) (.agg cells.toArray)).run P w = .ok () (w.setRow g (over old o cells)) := by
  simp only [Instr.storeAt, Instr.sureAddr, Sem.run_bind, Sem.run_pure, Result.andThen_ok, run_putAt ty g o cells t old hg hfit hi h1]
theorem sizeL : (Tryd.prog.info? 121).map (·.size) = some 27 := by kernel_rfl
theorem encL_one (l : Lv) (x : LvG) (hd : ∃ A n c, x.dv = .slice A n c) (hc : ∃ A n c, x.cv = .slice A n c) : ∀ u ∈ encL l x, u.oneCell' = true := by
  intro u hu
  rcases List.mem_append.1 hu with hu | hu
  · exact encG_one _ _ _ hd hc u hu
  · rw [List.mem_singleton] at hu; subst hu; rfl
/-- A copy of a level: where it lies. -/
structure LvNew (w w' : World) (l : Lv) (x : LvG) (m : Nat) : Prop where
  lo : w.heap.size ≤ m
  hi : m ≤ w'.heap.size
  g : GIn w' (fun k => w.heap.size ≤ k ∧ k < m) x.dv x.cv l.st
  p : Pth w' x.pg x.pv l.p
  b : ∀ k, ptB x.pg x.pv k → m ≤ k
  f : Fr Nob w w'
theorem LvNew.nob {w w' w'' : World} {l : Lv} {x : LvG} {m : Nat} (h : LvNew w w' l x m) (hf : Fr Nob w' w'') : LvNew w w'' l x m :=
  ⟨h.lo, Nat.le_trans h.hi hf.size, h.g.nob hf, h.p.nob hf, h.b, h.f.trans0 hf⟩
theorem LvNew.after {w0 w w' : World} {l : Lv} {x : LvG} {m : Nat} (h : LvNew w w' l x m) (hf : Fr Nob w0 w) : LvNew w0 w' l x m :=
  ⟨Nat.le_trans hf.size h.lo, h.hi, h.g.mono fun k hk => ⟨Nat.le_trans hf.size hk.1, hk.2⟩, h.p, h.b, hf.trans0 h.f⟩
theorem LvNew.fr {w w' w'' : World} {l : Lv} {x : LvG} {m : Nat} {T : Nat → Prop} (h : LvNew w w' l x m) (hf : Fr T w' w'') (hg : ∀ k, T k → ¬ (w.heap.size ≤ k ∧ k < m)) (hp : ∀ k, T k → ¬ ptB x.pg x.pv k) (hn : ∀ k, T k → w.heap.size ≤ k) : LvNew w w'' l x m :=
  ⟨h.lo, Nat.le_trans h.hi hf.size, h.g.fr hf fun k hk ht => hg k ht hk, h.p.fr hf fun k hk ht => hp k ht hk, h.b, h.f.trans hf fun k hk => .inr (hn k hk)⟩
set_option maxRecDepth 8000 in
set_option maxHeartbeats 6400000 in
theorem copied_any (l : Lv) (x : LvG) (S Q : Nat → Prop) (w : World) (h : LvIn w S Q l x) (hb : SmallG l.st) (hp : PB l.p) :
    Calls Tryd.prog 85 #[.agg (encL l x).toArray] w fun e w' => ∃ x' m, e = .returned (.agg (encL l x').toArray) ∧ LvNew w w' l x' m := by
  have hf0 : Fr Nob w ((w.alloc (.cells (encL l x).toArray 121)).alloc (.cells #[.int .i64 0, .int .i64 0, .int .i64 0, .int .i64 0, .int .i64 0, .int .i64 0, .int .i64 0, .int .i64 0, .int .i64 0, .int .i64 0, .int .i64 0, .int .i64 0, .int .i64 0, .int .i64 0, .int .i64 0, .slice none 0 0, .int .i64 0, .int .i64 0, .int .i64 0, .int .i64 0, .int .i64 0, .int .i64 0, .int .i64 0, .int .i64 0, .slice none 0 0, .bool false, .pointer none] 121)) := ((Fr.refl Nob w).alloc _).alloc _
  have hB0 : Blk ((w.alloc (.cells (encL l x).toArray 121)).alloc (.cells #[.int .i64 0, .int .i64 0, .int .i64 0, .int .i64 0, .int .i64 0, .int .i64 0, .int .i64 0, .int .i64 0, .int .i64 0, .int .i64 0, .int .i64 0, .int .i64 0, .int .i64 0, .int .i64 0, .int .i64 0, .slice none 0 0, .int .i64 0, .int .i64 0, .int .i64 0, .int .i64 0, .int .i64 0, .int .i64 0, .int .i64 0, .int .i64 0, .slice none 0 0, .bool false, .pointer none] 121)) w.heap.size (encL l x).toArray 121 := (Blk.new w _ _).alloc _
  have HZ0 := Lib.hid (show Blk ((w.alloc (.cells (encL l x).toArray 121)).alloc (.cells #[.int .i64 0, .int .i64 0, .int .i64 0, .int .i64 0, .int .i64 0, .int .i64 0, .int .i64 0, .int .i64 0, .int .i64 0, .int .i64 0, .int .i64 0, .int .i64 0, .int .i64 0, .int .i64 0, .int .i64 0, .slice none 0 0, .int .i64 0, .int .i64 0, .int .i64 0, .int .i64 0, .int .i64 0, .int .i64 0, .int .i64 0, .int .i64 0, .slice none 0 0, .bool false, .pointer none] 121)) (w.heap.size + 1) #[.int .i64 0, .int .i64 0, .int .i64 0, .int .i64 0, .int .i64 0, .int .i64 0, .int .i64 0, .int .i64 0, .int .i64 0, .int .i64 0, .int .i64 0, .int .i64 0, .int .i64 0, .int .i64 0, .int .i64 0, .slice none 0 0, .int .i64 0, .int .i64 0, .int .i64 0, .int .i64 0, .int .i64 0, .int .i64 0, .int .i64 0, .int .i64 0, .slice none 0 0, .bool false, .pointer none] 121 from Blk.new1 w _ _ _)
  have HL := Lib.hid (h.fr (T := Nob) hf0 (fun _ _ hh => hh) fun _ _ hh => hh)
  have HF0 := Lib.hid hf0
  have HSG := Lib.hid hb
  have HPB := Lib.hid hp
  have hS : ∀ w', Fr Nob ((w.alloc (.cells (encL l x).toArray 121)).alloc (.cells #[.int .i64 0, .int .i64 0, .int .i64 0, .int .i64 0, .int .i64 0, .int .i64 0, .int .i64 0, .int .i64 0, .int .i64 0, .int .i64 0, .int .i64 0, .int .i64 0, .int .i64 0, .int .i64 0, .int .i64 0, .slice none 0 0, .int .i64 0, .int .i64 0, .int .i64 0, .int .i64 0, .int .i64 0, .int .i64 0, .int .i64 0, .int .i64 0, .slice none 0 0, .bool false, .pointer none] 121)) w' → (fun w' => w'.rangeAt w.heap.size 0 (encG l.st x.dv x.cv) ∧ w'.cell? ⟨w.heap.size, 26, none⟩ = some (.pointer (some ⟨x.pg, 0, none⟩))) w' := fun w' hw' => by
    have hb := hB0.nob hw'
    exact ⟨hb.range 0 _ rfl, hb.cell 26⟩
  have HS := Lib.hid hS
  clear h hb hp hf0 hB0 hS
  go_enter Tryd.func85, Tryd.ntmps85
  go_wp2_with fail
  generalize (w.alloc (.cells (encL l x).toArray 121)).alloc (.cells #[.int .i64 0, .int .i64 0, .int .i64 0, .int .i64 0, .int .i64 0, .int .i64 0, .int .i64 0, .int .i64 0, .int .i64 0, .int .i64 0, .int .i64 0, .int .i64 0, .int .i64 0, .int .i64 0, .int .i64 0, .slice none 0 0, .int .i64 0, .int .i64 0, .int .i64 0, .int .i64 0, .int .i64 0, .int .i64 0, .int .i64 0, .int .i64 0, .slice none 0 0, .bool false, .pointer none] 121) = wa at *
  refine wp_region_last' (ops := _) (o := _) (l := _) 7 rfl rfl rfl (fun w' => w'.rangeAt w.heap.size 0 (encG l.st x.dv x.cv) ∧ w'.cell? ⟨w.heap.size, 26, none⟩ = some (.pointer (some ⟨x.pg, 0, none⟩))) (by kernel_rfl) (by kernel_rfl) (HS.out _ (Fr.drew (Fr.refl Nob wa))) fun hH => ?_
  simp only [List.take_succ_cons, List.take_zero]
  refine wpAnyH_take (i := 0) (v := ?va1) rfl (by kernel_rfl) (by kernel_rfl) (by kernel_rfl) (fun _ _ _ h => h) (Or.inl ⟨by rfl, ?ha1⟩) hH ?ra1
  case ha1 => (intro w hSw; (try dsimp only at hSw); go_simp; (try with_reducible rfl))
  simp only [Act.put, List.getElem_toArray, List.getElem_cons_succ, List.getElem_cons_zero, List.setIfInBounds_toArray, List.set_cons_zero, List.set_cons_succ]
  refine wpAnyH_take (i := 1) (v := _) rfl (by kernel_rfl) (by kernel_rfl) (by kernel_rfl) (fun _ _ _ h => h) (yieldsIf_load_mid (by rfl) 79 (.tmp 3) rfl w.heap.size 0 rfl (encG l.st x.dv x.cv) _ (fun w hw => hw.1) Tryd.underlying79 rfl sizeG) hH ?_
  simp only [Act.put, List.getElem_toArray, List.getElem_cons_succ, List.getElem_cons_zero, List.setIfInBounds_toArray, List.set_cons_zero, List.set_cons_succ]
  refine wpAnyH_take (i := 3) (v := ?va3) rfl (by kernel_rfl) (by kernel_rfl) (by kernel_rfl) (fun _ _ _ h => h) (Or.inl ⟨by rfl, ?ha3⟩) hH ?ra3
  case ha3 => (intro w hSw; (try dsimp only at hSw); go_simp; (try with_reducible rfl))
  simp only [Act.put, List.getElem_toArray, List.getElem_cons_succ, List.getElem_cons_zero, List.setIfInBounds_toArray, List.set_cons_zero, List.set_cons_succ]
  refine wpAnyH_take (i := 4) (v := ?va4) rfl (by kernel_rfl) (by kernel_rfl) (by kernel_rfl) (fun _ _ _ h => h) (Or.inl ⟨by rfl, ?ha4⟩) hH ?ra4
  case ha4 => (intro w hSw; (try dsimp only at hSw); obtain ⟨_, hSw⟩ := hSw; go_simp; (try with_reducible rfl))
  simp only [Act.put, List.getElem_toArray, List.getElem_cons_succ, List.getElem_cons_zero, List.setIfInBounds_toArray, List.set_cons_zero, List.set_cons_succ]
  refine held_one 2 rfl (by kernel_rfl) rfl fun K hK => ?_
  replace hK := Lib.hid hK
  clear hH
  go_simp
  refine (own_any l.st x.dv x.cv _ _ (HL.out.g.nob (by repeat (first | exact Fr.refl _ _ | refine Fr.alloc ?_ _ | refine Fr.drew ?_))) HSG.out).mono ?_
  unfold gV
  simp only [encG]
  rintro e w1 ⟨dv, cv, rfl, hg, hf1⟩
  have N1 := Lib.hid (show Fr Nob wa w1 from Fr.trans0 (by repeat (first | exact Fr.refl _ _ | refine Fr.alloc ?_ _ | refine Fr.drew ?_)) hf1)
  have HG1 := Lib.hid (show GIn w1 (fun k => wa.heap.size ≤ k ∧ k < w1.heap.size) dv cv l.st from hg.mono fun k hk => ⟨Nat.le_trans (by simp) hk.1, hk.2⟩)
  obtain ⟨Ad, cd, rfl, _⟩ := hg.d.form
  obtain ⟨Ac, cc, rfl, _⟩ := hg.c.form
  clear hg hf1
  dsimp only
  have hH := HS.out w1 N1.out
  refine hK.out _ _ hH ?_
  clear hK K
  refine held_one 5 rfl (by kernel_rfl) rfl fun K hK => ?_
  replace hK := Lib.hid hK
  clear hH
  go_simp
  refine (copy_any x.pg x.pv l.p _ ((HL.out.p.nob N1.out).nob (by repeat (first | exact Fr.refl _ _ | refine Fr.alloc ?_ _ | refine Fr.drew ?_))) HPB.out).mono ?_
  rintro e w2 ⟨pg', pv', rfl, hp, hf2, hn2⟩
  have N2 := Lib.hid (show Fr Nob w1 w2 from Fr.trans0 (by repeat (first | exact Fr.refl _ _ | refine Fr.alloc ?_ _ | refine Fr.drew ?_)) hf2)
  have HP2 := Lib.hid hp
  have HN2 := Lib.hid (show ∀ k, ptB pg' pv' k → w1.heap.size ≤ k from fun k hk => Nat.le_trans (by simp) (hn2 k hk))
  have HZ2 := Lib.hid (HZ0.out.nob (N1.out.trans0 N2.out))
  clear hp hf2 hn2
  dsimp only
  have hH := HS.out w2 (N1.out.trans0 N2.out)
  refine hK.out _ _ hH ?_
  clear hK K
  refine wpAnyH_take (i := 6) (v := ?va7) rfl (by kernel_rfl) (by kernel_rfl) (by kernel_rfl) (fun _ _ _ h => h) (Or.inl ⟨by rfl, ?ha7⟩) hH ?ra7
  case ha7 => (intro w hSw; (try dsimp only at hSw); go_simp; (try with_reducible rfl))
  simp only [Act.put, List.getElem_toArray, List.getElem_cons_succ, List.getElem_cons_zero, List.setIfInBounds_toArray, List.set_cons_zero, List.set_cons_succ]
  refine wpAnyH_done (by kernel_rfl) ?_ _
  clear hH
  simp only [LastQ, List.getElem_cons_succ, List.getElem_cons_zero]
  refine wp_putAt 121 (.tmp 2) (.tmp 9) rfl (w.heap.size + 1) 0 (encL l ⟨.slice Ad l.st.dash.length cd, .slice Ac l.st.clips.length cc, pv', pg'⟩) (by rfl) (by rfl) 121 _ HZ2.out (Nat.le_refl 27) sizeL (encL_one _ _ ⟨_, _, _, rfl⟩ ⟨_, _, _, rfl⟩) ?_
  intro w3 hb3 hf3
  rw [over_all #[.int .i64 0, .int .i64 0, .int .i64 0, .int .i64 0, .int .i64 0, .int .i64 0, .int .i64 0, .int .i64 0, .int .i64 0, .int .i64 0, .int .i64 0, .int .i64 0, .int .i64 0, .int .i64 0, .int .i64 0, .slice none 0 0, .int .i64 0, .int .i64 0, .int .i64 0, .int .i64 0, .int .i64 0, .int .i64 0, .int .i64 0, .int .i64 0, .slice none 0 0, .bool false, .pointer none] (encL l ⟨.slice Ad l.st.dash.length cd, .slice Ac l.st.clips.length cc, pv', pg'⟩) rfl] at hb3
  have HB3 := Lib.hid hb3
  have H3 := Lib.hid hf3
  clear hb3 hf3
  go_wp2_with fail
  have z1 := HF0.out.size
  have z2 := N1.out.size
  have z3 := N2.out.size
  have z4 := H3.out.size
  have z5 := HZ0.out.lt
  refine bodyPost_ret (results_cl rfl _ _ (w.heap.size + 1) 121 _ _ (by rfl) HB3.out Tryd.underlying121 rfl sizeL) rfl ⟨⟨.slice Ad l.st.dash.length cd, .slice Ac l.st.clips.length cc, pv', pg'⟩, w1.heap.size, rfl, by omega, by omega, ?_, ?_, ?_, ?_⟩
  · refine ((HG1.out.nob N2.out).fr H3.out fun k hk e => ?_).mono fun k hk => ⟨by have := hk.1; omega, hk.2⟩
    have := hk.1; subst e; omega
  · exact HP2.out.fr H3.out fun k hk e => by have := HN2.out k hk; subst e; omega
  · exact HN2.out
  · exact ((HF0.out.trans0 N1.out).trans0 N2.out).trans H3.out fun k hk => .inr (by rw [hk]; omega)
end Go.Proofs.YtkkejjfmidgciaaDoor
