/-
  Texts joined in build order: The walk of call (chapter 14). Any call (chapter 14); states of one's own; what the laws are handed. What 'open' (chapter 16) leaves, step by step: plain laws. No walk. More on regions that draw their order: an operation that is guarded and comes up alone. No program, no conditions.
-/
import Derived.Test.YtkkejjfmidgciaaDoorJSNone13
/- The walk of call (chapter 14). -/
namespace Go.Proofs.YtkkejjfmidgciaaDoor
open Go.RowKit
set_option linter.unusedVariables false
set_option linter.unusedSimpArgs false
theorem GsTo.after {w0 w w' : World} {g : Nat} {F : Nat → Prop} {s : GS} (h : GsTo w g F s w') (hf : Fr Nob w0 w) : GsTo w0 g F s w' :=
  ⟨h.1.mono fun k hk => hk.elim .inl fun hk => .inr ⟨Nat.le_trans hf.size hk.1, hk.2⟩, (hf.of0 (S := F)).again h.2⟩
theorem GsTo.trans {w w1 w2 : World} {g : Nat} {F : Nat → Prop} {s s' : GS} (h : GsTo w g F s w1) (k : GsTo w1 g (Ext F w w1) s' w2) : GsTo w g F s' w2 :=
  ⟨k.1.mono fun j hj => by
    rcases hj with (hj | hj) | hj
    · exact .inl hj
    · exact .inr ⟨hj.1, Nat.lt_of_lt_of_le hj.2 k.2.size⟩
    · exact .inr ⟨Nat.le_trans h.2.size hj.1, hj.2⟩, h.2.trans k.2 fun j hj => hj.elim .inl fun hj => .inr hj.1⟩
theorem GsTo.mono {w w' : World} {g : Nat} {F F' : Nat → Prop} {s : GS} (h : GsTo w g F s w') (hF : ∀ k, F k → F' k) : GsTo w g F' s w' := ⟨h.1.mono fun k hk => hk.elim (fun hk => .inl (hF k hk)) .inr, h.2.mono hF⟩
theorem Gs.lts {w : World} {g : Nat} {F : Nat → Prop} {s : GS} (h : Gs w g F s) : Gs w g (fun k => F k ∧ k < w.heap.size) s := by
  obtain ⟨lab, x, sv, xs, h⟩ := h
  exact ⟨lab, x, sv, xs, h.lab lab (fun k hk hl => ⟨hk, hl⟩) fun _ _ => rfl⟩
theorem gsave_F (g : Nat) (F : Nat → Prop) (s : GS) (w : World) (h : Gs w g F s) (hb : SmallS s) :
    Calls Tryd.prog 36 #[.pointer (some ⟨g, 0, none⟩)] w fun e w' => e = .returned (.int .i64 (saveF s).1) ∧ GsTo w g F (saveF s).2 w' := gsave_any g F s w h hb
theorem GsTo.nob {w w1 w2 : World} {g : Nat} {F : Nat → Prop} {s : GS} (h : GsTo w g F s w1) (hf : Fr Nob w1 w2) : GsTo w g F s w2 :=
  ⟨(h.1.nob hf).mono fun j hj => hj.elim .inl fun hj => .inr ⟨hj.1, Nat.lt_of_lt_of_le hj.2 hf.size⟩, h.2.trans0 hf⟩
set_option maxRecDepth 8000 in
set_option maxHeartbeats 6400000 in
theorem callg_1 (g : Nat) (F : Nat → Prop) (s : GS) (n : Int) (m : M6) (v : Value) (l : List Int) (px py : Int) (S : Nat → Prop) (w : World) (h : Gs w g F s) (hb : SB 900 s) (hN : NamesIn w) (hr : RowIn w S 1 v l.length (ints l)) (hl : l.length ≤ 100) : Calls Tryd.prog 31 #[.pointer (some ⟨g, 0, none⟩), actV 1 n m v px py] w fun e w' => e = .returned (.int .i64 (callF ⟨1, n, m, l, px, py⟩ s).1) ∧ GsTo w g F (callF ⟨1, n, m, l, px, py⟩ s).2 w' := by
  rw [callF_1 _ s rfl]
  obtain ⟨A, c, rfl, _⟩ := hr.form
  have hf : Fr Nob w (w.alloc (.cells #[.int .i64 1, .int .i64 n, .int .i64 m.a, .int .i64 m.b, .int .i64 m.c, .int .i64 m.d, .int .i64 m.e, .int .i64 m.f, .slice A l.length c, .int .i64 px, .int .i64 py] 76)) := (Fr.refl Nob w).alloc _
  have HF := Lib.hid hf
  have HR := Lib.hid (hr.nob hf)
  have HG := Lib.hid (h.nob hf)
  have HNM := Lib.hid (hN.nob hf)
  have HSB := Lib.hid hb
  have HB := Lib.hid (Blk.new w #[.int .i64 1, .int .i64 n, .int .i64 m.a, .int .i64 m.b, .int .i64 m.c, .int .i64 m.d, .int .i64 m.e, .int .i64 m.f, .slice A l.length c, .int .i64 px, .int .i64 py] 76)
  skip
  clear h hf hb hN hr
  unfold actV
  go_enter Tryd.func31, Tryd.ntmps31
  go_wp2_with fail
  refine (gsave_F g F s _ HG.out (HSB.out.small (by omega))).mono ?_
  rintro e w1 ⟨rfl, ht⟩
  have HT := Lib.hid (ht.after HF.out)
  clear ht
  go_wp2_with fail
  go_ret
  exact ⟨rfl, HT.out⟩
set_option maxRecDepth 8000 in
set_option maxHeartbeats 6400000 in
theorem callg_2 (g : Nat) (F : Nat → Prop) (s : GS) (n : Int) (m : M6) (v : Value) (l : List Int) (px py : Int) (S : Nat → Prop) (w : World) (h : Gs w g F s) (hb : SB 900 s) (hN : NamesIn w) (hr : RowIn w S 1 v l.length (ints l)) (hl : l.length ≤ 100) : Calls Tryd.prog 31 #[.pointer (some ⟨g, 0, none⟩), actV 2 n m v px py] w fun e w' => e = .returned (.int .i64 (callF ⟨2, n, m, l, px, py⟩ s).1) ∧ GsTo w g F (callF ⟨2, n, m, l, px, py⟩ s).2 w' := by
  rw [callF_2 _ s rfl]
  obtain ⟨A, c, rfl, _⟩ := hr.form
  have hf : Fr Nob w (w.alloc (.cells #[.int .i64 2, .int .i64 n, .int .i64 m.a, .int .i64 m.b, .int .i64 m.c, .int .i64 m.d, .int .i64 m.e, .int .i64 m.f, .slice A l.length c, .int .i64 px, .int .i64 py] 76)) := (Fr.refl Nob w).alloc _
  have HF := Lib.hid hf
  have HR := Lib.hid (hr.nob hf)
  have HG := Lib.hid (h.nob hf)
  have HNM := Lib.hid (hN.nob hf)
  have HSB := Lib.hid hb
  have HB := Lib.hid (Blk.new w #[.int .i64 2, .int .i64 n, .int .i64 m.a, .int .i64 m.b, .int .i64 m.c, .int .i64 m.d, .int .i64 m.e, .int .i64 m.f, .slice A l.length c, .int .i64 px, .int .i64 py] 76)
  skip
  clear h hf hb hN hr
  unfold actV
  go_enter Tryd.func31, Tryd.ntmps31
  go_wp2_with fail
  refine (grestore_any g F s _ HG.out (by have := HSB.out.n; omega)).mono ?_
  rintro e w1 ⟨rfl, ht⟩
  have HT := Lib.hid (ht.after HF.out)
  clear ht
  go_wp2_with fail
  go_ret
  exact ⟨rfl, HT.out⟩
set_option maxRecDepth 8000 in
set_option maxHeartbeats 6400000 in
theorem callg_3 (g : Nat) (F : Nat → Prop) (s : GS) (n : Int) (m : M6) (v : Value) (l : List Int) (px py : Int) (S : Nat → Prop) (w : World) (h : Gs w g F s) (hb : SB 900 s) (hN : NamesIn w) (hr : RowIn w S 1 v l.length (ints l)) (hl : l.length ≤ 100) : Calls Tryd.prog 31 #[.pointer (some ⟨g, 0, none⟩), actV 3 n m v px py] w fun e w' => e = .returned (.int .i64 (callF ⟨3, n, m, l, px, py⟩ s).1) ∧ GsTo w g F (callF ⟨3, n, m, l, px, py⟩ s).2 w' := by
  rw [callF_3 _ s rfl]
  obtain ⟨A, c, rfl, _⟩ := hr.form
  have hf : Fr Nob w (w.alloc (.cells #[.int .i64 3, .int .i64 n, .int .i64 m.a, .int .i64 m.b, .int .i64 m.c, .int .i64 m.d, .int .i64 m.e, .int .i64 m.f, .slice A l.length c, .int .i64 px, .int .i64 py] 76)) := (Fr.refl Nob w).alloc _
  have HF := Lib.hid hf
  have HR := Lib.hid (hr.nob hf)
  have HG := Lib.hid (h.nob hf)
  have HNM := Lib.hid (hN.nob hf)
  have HSB := Lib.hid hb
  have HB := Lib.hid (Blk.new w #[.int .i64 3, .int .i64 n, .int .i64 m.a, .int .i64 m.b, .int .i64 m.c, .int .i64 m.d, .int .i64 m.e, .int .i64 m.f, .slice A l.length c, .int .i64 px, .int .i64 py] 76)
  skip
  clear h hf hb hN hr
  unfold actV
  go_enter Tryd.func31, Tryd.ntmps31
  go_wp2_with fail
  refine (grestall_any g F s _ HG.out (HSB.out.small (by omega))).mono ?_
  rintro e w1 ⟨rfl, ht⟩
  have HT := Lib.hid (ht.after HF.out)
  clear ht
  go_wp2_with fail
  go_ret
  exact ⟨rfl, HT.out⟩
set_option maxRecDepth 8000 in
set_option maxHeartbeats 6400000 in
theorem callg_4 (g : Nat) (F : Nat → Prop) (s : GS) (n : Int) (m : M6) (v : Value) (l : List Int) (px py : Int) (S : Nat → Prop) (w : World) (h : Gs w g F s) (hb : SB 900 s) (hN : NamesIn w) (hr : RowIn w S 1 v l.length (ints l)) (hl : l.length ≤ 100) : Calls Tryd.prog 31 #[.pointer (some ⟨g, 0, none⟩), actV 4 n m v px py] w fun e w' => e = .returned (.int .i64 (callF ⟨4, n, m, l, px, py⟩ s).1) ∧ GsTo w g F (callF ⟨4, n, m, l, px, py⟩ s).2 w' := by
  rw [callF_4 _ s rfl]
  obtain ⟨A, c, rfl, _⟩ := hr.form
  have hf : Fr Nob w (w.alloc (.cells #[.int .i64 4, .int .i64 n, .int .i64 m.a, .int .i64 m.b, .int .i64 m.c, .int .i64 m.d, .int .i64 m.e, .int .i64 m.f, .slice A l.length c, .int .i64 px, .int .i64 py] 76)) := (Fr.refl Nob w).alloc _
  have HF := Lib.hid hf
  have HR := Lib.hid (hr.nob hf)
  have HG := Lib.hid (h.nob hf)
  have HNM := Lib.hid (hN.nob hf)
  have HSB := Lib.hid hb
  have HB := Lib.hid (Blk.new w #[.int .i64 4, .int .i64 n, .int .i64 m.a, .int .i64 m.b, .int .i64 m.c, .int .i64 m.d, .int .i64 m.e, .int .i64 m.f, .slice A l.length c, .int .i64 px, .int .i64 py] 76)
  skip
  clear h hf hb hN hr
  unfold actV
  go_enter Tryd.func31, Tryd.ntmps31
  go_wp2_with fail
  refine (ginit_any g F s _ HG.out).mono ?_
  rintro e w1 ⟨rfl, ht⟩
  have HT := Lib.hid (ht.after HF.out)
  clear ht
  go_wp2_with fail
  go_ret
  exact ⟨rfl, HT.out⟩
set_option maxRecDepth 8000 in
set_option maxHeartbeats 6400000 in
theorem callg_5 (g : Nat) (F : Nat → Prop) (s : GS) (n : Int) (m : M6) (v : Value) (l : List Int) (px py : Int) (S : Nat → Prop) (w : World) (h : Gs w g F s) (hb : SB 900 s) (hN : NamesIn w) (hr : RowIn w S 1 v l.length (ints l)) (hl : l.length ≤ 100) : Calls Tryd.prog 31 #[.pointer (some ⟨g, 0, none⟩), actV 5 n m v px py] w fun e w' => e = .returned (.int .i64 (callF ⟨5, n, m, l, px, py⟩ s).1) ∧ GsTo w g F (callF ⟨5, n, m, l, px, py⟩ s).2 w' := by
  rw [callF_5 _ s rfl]
  obtain ⟨A, c, rfl, _⟩ := hr.form
  have hf : Fr Nob w (w.alloc (.cells #[.int .i64 5, .int .i64 n, .int .i64 m.a, .int .i64 m.b, .int .i64 m.c, .int .i64 m.d, .int .i64 m.e, .int .i64 m.f, .slice A l.length c, .int .i64 px, .int .i64 py] 76)) := (Fr.refl Nob w).alloc _
  have HF := Lib.hid hf
  have HR := Lib.hid (hr.nob hf)
  have HG := Lib.hid (h.nob hf)
  have HNM := Lib.hid (hN.nob hf)
  have HSB := Lib.hid hb
  have HB := Lib.hid (Blk.new w #[.int .i64 5, .int .i64 n, .int .i64 m.a, .int .i64 m.b, .int .i64 m.c, .int .i64 m.d, .int .i64 m.e, .int .i64 m.f, .slice A l.length c, .int .i64 px, .int .i64 py] 76)
  skip
  clear h hf hb hN hr
  unfold actV
  go_enter Tryd.func31, Tryd.ntmps31
  go_wp2_with fail
  refine (gconcat_any g F s m _ HG.out).mono ?_
  rintro e w1 ⟨rfl, ht⟩
  have HT := Lib.hid (ht.after HF.out)
  clear ht
  go_wp2_with fail
  go_ret
  exact ⟨rfl, HT.out⟩
set_option maxRecDepth 8000 in
set_option maxHeartbeats 6400000 in
theorem callg_6 (g : Nat) (F : Nat → Prop) (s : GS) (n : Int) (m : M6) (v : Value) (l : List Int) (px py : Int) (S : Nat → Prop) (w : World) (h : Gs w g F s) (hb : SB 900 s) (hN : NamesIn w) (hr : RowIn w S 1 v l.length (ints l)) (hl : l.length ≤ 100) : Calls Tryd.prog 31 #[.pointer (some ⟨g, 0, none⟩), actV 6 n m v px py] w fun e w' => e = .returned (.int .i64 (callF ⟨6, n, m, l, px, py⟩ s).1) ∧ GsTo w g F (callF ⟨6, n, m, l, px, py⟩ s).2 w' := by
  rw [callF_6 _ s rfl]
  obtain ⟨A, c, rfl, _⟩ := hr.form
  have hf : Fr Nob w (w.alloc (.cells #[.int .i64 6, .int .i64 n, .int .i64 m.a, .int .i64 m.b, .int .i64 m.c, .int .i64 m.d, .int .i64 m.e, .int .i64 m.f, .slice A l.length c, .int .i64 px, .int .i64 py] 76)) := (Fr.refl Nob w).alloc _
  have HF := Lib.hid hf
  have HR := Lib.hid (hr.nob hf)
  have HG := Lib.hid (h.nob hf)
  have HNM := Lib.hid (hN.nob hf)
  have HSB := Lib.hid hb
  have HB := Lib.hid (Blk.new w #[.int .i64 6, .int .i64 n, .int .i64 m.a, .int .i64 m.b, .int .i64 m.c, .int .i64 m.d, .int .i64 m.e, .int .i64 m.f, .slice A l.length c, .int .i64 px, .int .i64 py] 76)
  skip
  clear h hf hb hN hr
  unfold actV
  go_enter Tryd.func31, Tryd.ntmps31
  go_wp2_with fail
  refine (gmatrix_any g F s m _ HG.out).mono ?_
  rintro e w1 ⟨rfl, ht⟩
  have HT := Lib.hid (ht.after HF.out)
  clear ht
  go_wp2_with fail
  go_ret
  exact ⟨rfl, HT.out⟩
set_option maxRecDepth 8000 in
set_option maxHeartbeats 6400000 in
theorem callg_7 (g : Nat) (F : Nat → Prop) (s : GS) (n : Int) (m : M6) (v : Value) (l : List Int) (px py : Int) (S : Nat → Prop) (w : World) (h : Gs w g F s) (hb : SB 900 s) (hN : NamesIn w) (hr : RowIn w S 1 v l.length (ints l)) (hl : l.length ≤ 100) : Calls Tryd.prog 31 #[.pointer (some ⟨g, 0, none⟩), actV 7 n m v px py] w fun e w' => e = .returned (.int .i64 (callF ⟨7, n, m, l, px, py⟩ s).1) ∧ GsTo w g F (callF ⟨7, n, m, l, px, py⟩ s).2 w' := by
  rw [callF_7 _ s rfl]
  obtain ⟨A, c, rfl, _⟩ := hr.form
  have hf : Fr Nob w (w.alloc (.cells #[.int .i64 7, .int .i64 n, .int .i64 m.a, .int .i64 m.b, .int .i64 m.c, .int .i64 m.d, .int .i64 m.e, .int .i64 m.f, .slice A l.length c, .int .i64 px, .int .i64 py] 76)) := (Fr.refl Nob w).alloc _
  have HF := Lib.hid hf
  have HR := Lib.hid (hr.nob hf)
  have HG := Lib.hid (h.nob hf)
  have HNM := Lib.hid (hN.nob hf)
  have HSB := Lib.hid hb
  have HB := Lib.hid (Blk.new w #[.int .i64 7, .int .i64 n, .int .i64 m.a, .int .i64 m.b, .int .i64 m.c, .int .i64 m.d, .int .i64 m.e, .int .i64 m.f, .slice A l.length c, .int .i64 px, .int .i64 py] 76)
  skip
  clear h hf hb hN hr
  unfold actV
  go_enter Tryd.func31, Tryd.ntmps31
  go_wp2_with fail
  refine (gfont_any g F s n m _ HG.out HNM.out).mono ?_
  rintro e w1 ⟨rfl, ht⟩
  have HT := Lib.hid (ht.after HF.out)
  clear ht
  go_wp2_with fail
  go_ret
  exact ⟨rfl, HT.out⟩
set_option maxRecDepth 8000 in
set_option maxHeartbeats 6400000 in
theorem callg_8 (g : Nat) (F : Nat → Prop) (s : GS) (n : Int) (m : M6) (v : Value) (l : List Int) (px py : Int) (S : Nat → Prop) (w : World) (h : Gs w g F s) (hb : SB 900 s) (hN : NamesIn w) (hr : RowIn w S 1 v l.length (ints l)) (hl : l.length ≤ 100) : Calls Tryd.prog 31 #[.pointer (some ⟨g, 0, none⟩), actV 8 n m v px py] w fun e w' => e = .returned (.int .i64 (callF ⟨8, n, m, l, px, py⟩ s).1) ∧ GsTo w g F (callF ⟨8, n, m, l, px, py⟩ s).2 w' := by
  rw [callF_8 _ s rfl]
  obtain ⟨A, c, rfl, _⟩ := hr.form
  have hf : Fr Nob w (w.alloc (.cells #[.int .i64 8, .int .i64 n, .int .i64 m.a, .int .i64 m.b, .int .i64 m.c, .int .i64 m.d, .int .i64 m.e, .int .i64 m.f, .slice A l.length c, .int .i64 px, .int .i64 py] 76)) := (Fr.refl Nob w).alloc _
  have HF := Lib.hid hf
  have HR := Lib.hid (hr.nob hf)
  have HG := Lib.hid (h.nob hf)
  have HNM := Lib.hid (hN.nob hf)
  have HSB := Lib.hid hb
  have HB := Lib.hid (Blk.new w #[.int .i64 8, .int .i64 n, .int .i64 m.a, .int .i64 m.b, .int .i64 m.c, .int .i64 m.d, .int .i64 m.e, .int .i64 m.f, .slice A l.length c, .int .i64 px, .int .i64 py] 76)
  skip
  clear h hf hb hN hr
  unfold actV
  go_enter Tryd.func31, Tryd.ntmps31
  go_upto_region 17 with (fail)
  generalize w.alloc (.cells #[.int .i64 8, .int .i64 n, .int .i64 m.a, .int .i64 m.b, .int .i64 m.c, .int .i64 m.d, .int .i64 m.e, .int .i64 m.f, .slice A l.length c, .int .i64 px, .int .i64 py] 76) = wa at *
  obtain ⟨i0, hi, hz0, hz1, hz2⟩ := info_parts infoInt
  have c8 : wa.cell? ⟨w.heap.size, 8, none⟩ = some (.slice A l.length c) := HB.out.cell 8
  have HE := Lib.hid (show OwnS (wa.alloc (.cells #[] 3)) 3 1 (.slice (some ⟨wa.heap.size, 0, none⟩) 0 0) 0 [] from OwnS.empty (Blk.new wa _ _))
  have HR2 := Lib.hid (HR.out.nob ((Fr.refl Nob wa).alloc (.cells #[] 3)))
  have hlt : w.heap.size < wa.heap.size := HB.out.lt
  go_wp2_with (at_builtin; refine wpList_app _ rfl _ _ 30 rfl 3 i0 _ 1 8 Tryd.underlying30 hi hz0 hz1 hz2 rfl (by decide) _ 0 [] rfl HE.out S _ l.length (ints l) rfl HR2.out (ints_one l) (by unfold maxLen; omega) (by omega) ?_)
  intro v' w1 hown hfr hat _
  have HF1 := Lib.hid (show Fr Nob wa w1 from ((Fr.refl Nob wa).alloc (.cells #[] 3)).trans hfr fun k hk => .inr (by simp [inB, Value.ownBlock] at hk; omega))
  have HRN := Lib.hid (show RowIn w1 (inB v') 1 v' l.length (ints l) by simpa using hown.row)
  obtain ⟨A1, c1, rfl, _⟩ := HRN.out.form
  clear hown hfr hat
  go_wp2_with fail
  refine (gcolor_any g F s _ l _ _ (HG.out.nob HF1.out) HRN.out).mono ?_
  rintro e w2 ⟨rfl, ht⟩
  have HT := Lib.hid (ht.after (HF.out.trans0 HF1.out))
  clear ht
  go_wp2_with fail
  go_ret
  exact ⟨rfl, HT.out⟩
set_option maxRecDepth 8000 in
set_option maxHeartbeats 6400000 in
theorem callg_9' (g : Nat) (F : Nat → Prop) (s : GS) (n : Int) (m : M6) (v : Value) (l : List Int) (px py : Int) (S : Nat → Prop) (w : World) (h : Gs w g F s) (hb : SB 900 s) (hN : NamesIn w) (hr : RowIn w S 1 v l.length (ints l)) (hl : l.length ≤ 100) (hNB : ∀ j, F j → j = w.heap.size → False) : Calls Tryd.prog 31 #[.pointer (some ⟨g, 0, none⟩), actV 9 n m v px py] w fun e w' => e = .returned (.int .i64 (callF ⟨9, n, m, l, px, py⟩ s).1) ∧ GsTo w g F (callF ⟨9, n, m, l, px, py⟩ s).2 w' := by
  rw [callF_9 _ s rfl]
  obtain ⟨A, c, rfl, _⟩ := hr.form
  have hf : Fr Nob w (w.alloc (.cells #[.int .i64 9, .int .i64 n, .int .i64 m.a, .int .i64 m.b, .int .i64 m.c, .int .i64 m.d, .int .i64 m.e, .int .i64 m.f, .slice A l.length c, .int .i64 px, .int .i64 py] 76)) := (Fr.refl Nob w).alloc _
  have HF := Lib.hid hf
  have HR := Lib.hid (hr.nob hf)
  have HG := Lib.hid (h.nob hf)
  have HNM := Lib.hid (hN.nob hf)
  have HSB := Lib.hid hb
  have HB := Lib.hid (Blk.new w #[.int .i64 9, .int .i64 n, .int .i64 m.a, .int .i64 m.b, .int .i64 m.c, .int .i64 m.d, .int .i64 m.e, .int .i64 m.f, .slice A l.length c, .int .i64 px, .int .i64 py] 76)
  have HNB := Lib.hid hNB
  clear h hf hb hN hr hNB
  unfold actV
  go_enter Tryd.func31, Tryd.ntmps31
  have HNF := Lib.hid (show ∀ j, F j → j = w.heap.size → False from HNB.out)
  go_upto_region 19 with (fail)
  generalize w.alloc (.cells #[.int .i64 9, .int .i64 n, .int .i64 m.a, .int .i64 m.b, .int .i64 m.c, .int .i64 m.d, .int .i64 m.e, .int .i64 m.f, .slice A l.length c, .int .i64 px, .int .i64 py] 76) = wa at *
  obtain ⟨i0, hi, hz0, hz1, hz2⟩ := info_parts infoInt
  replace hi := Lib.hid hi
  replace hz0 := Lib.hid hz0
  replace hz1 := Lib.hid hz1
  replace hz2 := Lib.hid hz2
  have HS := Lib.hid (show ∀ w', Fr F wa w' → (fun w' => w'.cell? ⟨w.heap.size, 1, none⟩ = some (.int .i64 n) ∧ w'.cell? ⟨w.heap.size, 8, none⟩ = some (.slice A l.length c)) w' from fun w' hw' => by
    have hb := HB.out.fr hw' (fun hh => HNF.out _ hh rfl)
    exact ⟨hb.cell 1, hb.cell 8⟩)
  have HE := Lib.hid (show OwnS (wa.drew.alloc (.cells #[] 3)) 3 1 (.slice (some ⟨wa.heap.size, 0, none⟩) 0 0) 0 [] from OwnS.empty (Blk.new wa.drew _ _))
  have HR2 := Lib.hid (HR.out.nob ((Fr.refl Nob wa).drew.alloc (.cells #[] 3)))
  go_wp2_with fail
  refine wp_region_last' (ops := _) (o := _) (l := _) 8 rfl rfl rfl (fun w' => w'.cell? ⟨w.heap.size, 1, none⟩ = some (.int .i64 n) ∧ w'.cell? ⟨w.heap.size, 8, none⟩ = some (.slice A l.length c)) (by kernel_rfl) (by kernel_rfl) (HS.out _ (Fr.refl F wa).drew) fun hH => ?_
  simp only [List.take_succ_cons, List.take_zero]
  refine wpAnyH_take (i := 0) (v := ?va1) rfl (by kernel_rfl) (by kernel_rfl) (by kernel_rfl) (fun _ _ _ h => h) (Or.inl ⟨by rfl, ?ha1⟩) hH ?ra1
  case ha1 => (intro w hSw; (try dsimp only at hSw); clear hSw; go_simp; (try with_reducible rfl))
  simp only [Act.put, List.getElem_toArray, List.getElem_cons_succ, List.getElem_cons_zero, List.setIfInBounds_toArray, List.set_cons_zero, List.set_cons_succ]
  refine wpAnyH_take (i := 2) (v := ?va2) rfl (by kernel_rfl) (by kernel_rfl) (by kernel_rfl) (fun _ _ _ h => h) (Or.inl ⟨by rfl, ?ha2⟩) hH ?ra2
  case ha2 => (intro w hSw; (try dsimp only at hSw); clear hSw; go_simp; (try with_reducible rfl))
  simp only [Act.put, List.getElem_toArray, List.getElem_cons_succ, List.getElem_cons_zero, List.setIfInBounds_toArray, List.set_cons_zero, List.set_cons_succ]
  refine wpAnyH_take (i := 3) (v := ?va3) rfl (by kernel_rfl) (by kernel_rfl) (by kernel_rfl) (fun _ _ _ h => h) (Or.inl ⟨by rfl, ?ha3⟩) hH ?ra3
  case ha3 => (intro w hSw; (try dsimp only at hSw); obtain ⟨_, hSw⟩ := hSw; go_simp; (try with_reducible rfl))
  simp only [Act.put, List.getElem_toArray, List.getElem_cons_succ, List.getElem_cons_zero, List.setIfInBounds_toArray, List.set_cons_zero, List.set_cons_succ]
  refine wpAnyH_take (i := 5) (v := ?va4) rfl (by kernel_rfl) (by kernel_rfl) (by kernel_rfl) (fun _ _ _ h => h) (Or.inl ⟨by rfl, ?ha4⟩) hH ?ra4
  case ha4 => (intro w hSw; (try dsimp only at hSw); clear hSw; go_simp; (try with_reducible rfl))
  simp only [Act.put, List.getElem_toArray, List.getElem_cons_succ, List.getElem_cons_zero, List.setIfInBounds_toArray, List.set_cons_zero, List.set_cons_succ]
  refine wpAnyH_take (i := 6) (v := ?va5) rfl (by kernel_rfl) (by kernel_rfl) (by kernel_rfl) (fun _ _ _ h => h) (Or.inl ⟨by rfl, ?ha5⟩) hH ?ra5
  case ha5 => (intro w hSw; (try dsimp only at hSw); obtain ⟨hSw, _⟩ := hSw; go_simp; (try with_reducible rfl))
  simp only [Act.put, List.getElem_toArray, List.getElem_cons_succ, List.getElem_cons_zero, List.setIfInBounds_toArray, List.set_cons_zero, List.set_cons_succ]
  refine held_one 1 rfl (by kernel_rfl) rfl fun K hK => ?_
  replace hK := Lib.hid hK
  clear hH
  go_simp
  have hH := HS.out (wa.drew.alloc (.cells #[] 3)) ((Fr.refl F wa).drew.alloc _)
  refine hK.out _ _ hH ?_
  clear hK K
  refine held_one 4 rfl (by kernel_rfl) rfl fun K hK => ?_
  replace hK := Lib.hid hK
  clear hH
  refine wp_app (.tmp 54) (.tmp 56) 30 rfl 3 i0 _ 1 8 Tryd.underlying30 hi.out hz0.out hz1.out hz2.out rfl (by decide) _ 0 [] (by rfl) HE.out S _ l.length (ints l) (by rfl) HR2.out (ints_one l) (by unfold maxLen; omega) (by omega) ?_
  intro v' w1 hown hfr hat hno
  have HF1 := Lib.hid (show Fr Nob wa w1 from ((Fr.refl Nob wa).drew.alloc (.cells #[] 3)).trans hfr fun k hk => .inr (by simp [inB, Value.ownBlock] at hk; omega))
  have HN1 := Lib.hid (show RowIn w1 (inB v') 1 v' l.length (ints l) by simpa using hown.row)
  obtain ⟨A1, c1, hv', _⟩ := HN1.out.form
  subst hv'
  clear hown hfr hat hno
  have hH := HS.out w1 HF1.out.of0
  refine hK.out _ _ hH ?_
  simp only [Act.put, List.getElem_toArray, List.getElem_cons_succ, List.getElem_cons_zero, List.setIfInBounds_toArray, List.set_cons_zero, List.set_cons_succ]
  clear hK K
  refine held_one 7 rfl (by kernel_rfl) rfl fun K hK => ?_
  replace hK := Lib.hid hK
  clear hH
  go_simp
  refine (gdash_any g F s _ l n _ _ (HG.out.nob HF1.out) HN1.out (by omega)).mono ?_
  rintro e w2 ⟨rfl, ht⟩
  have HT := Lib.hid (ht.after (HF.out.trans0 HF1.out))
  have HFQ := Lib.hid (show Fr F wa w2 from (HF1.out.of0).again ht.2)
  clear ht
  dsimp only
  have hH := HS.out w2 HFQ.out
  refine hK.out _ _ hH ?_
  clear hK K
  refine wpAnyH_done (by kernel_rfl) ?_ _
  clear hH
  simp only [LastQ, List.getElem_cons_succ, List.getElem_cons_zero]
  go_simp
  go_wp2_with fail
  go_ret
  exact ⟨rfl, HT.out⟩
theorem callg_9 (g : Nat) (F : Nat → Prop) (s : GS) (n : Int) (m : M6) (v : Value) (l : List Int) (px py : Int) (S : Nat → Prop) (w : World) (h : Gs w g F s) (hb : SB 900 s) (hN : NamesIn w) (hr : RowIn w S 1 v l.length (ints l)) (hl : l.length ≤ 100) : Calls Tryd.prog 31 #[.pointer (some ⟨g, 0, none⟩), actV 9 n m v px py] w fun e w' => e = .returned (.int .i64 (callF ⟨9, n, m, l, px, py⟩ s).1) ∧ GsTo w g F (callF ⟨9, n, m, l, px, py⟩ s).2 w' := by
  refine (callg_9' g (fun k => F k ∧ k < w.heap.size) s n m v l px py S w h.lts hb hN hr hl fun j hj e => by have := hj.2; omega).mono ?_
  rintro e w' ⟨rfl, ht⟩
  exact ⟨rfl, ht.mono fun k hk => hk.1⟩
set_option maxRecDepth 8000 in
set_option maxHeartbeats 6400000 in
theorem callg_10 (g : Nat) (F : Nat → Prop) (s : GS) (n : Int) (m : M6) (v : Value) (l : List Int) (px py : Int) (S : Nat → Prop) (w : World) (h : Gs w g F s) (hb : SB 900 s) (hN : NamesIn w) (hr : RowIn w S 1 v l.length (ints l)) (hl : l.length ≤ 100) : Calls Tryd.prog 31 #[.pointer (some ⟨g, 0, none⟩), actV 10 n m v px py] w fun e w' => e = .returned (.int .i64 (callF ⟨10, n, m, l, px, py⟩ s).1) ∧ GsTo w g F (callF ⟨10, n, m, l, px, py⟩ s).2 w' := by
  rw [callF_10 _ s rfl]
  obtain ⟨A, c, rfl, _⟩ := hr.form
  have hf : Fr Nob w (w.alloc (.cells #[.int .i64 10, .int .i64 n, .int .i64 m.a, .int .i64 m.b, .int .i64 m.c, .int .i64 m.d, .int .i64 m.e, .int .i64 m.f, .slice A l.length c, .int .i64 px, .int .i64 py] 76)) := (Fr.refl Nob w).alloc _
  have HF := Lib.hid hf
  have HR := Lib.hid (hr.nob hf)
  have HG := Lib.hid (h.nob hf)
  have HNM := Lib.hid (hN.nob hf)
  have HSB := Lib.hid hb
  have HB := Lib.hid (Blk.new w #[.int .i64 10, .int .i64 n, .int .i64 m.a, .int .i64 m.b, .int .i64 m.c, .int .i64 m.d, .int .i64 m.e, .int .i64 m.f, .slice A l.length c, .int .i64 px, .int .i64 py] 76)
  skip
  clear h hf hb hN hr
  unfold actV
  go_enter Tryd.func31, Tryd.ntmps31
  go_wp2_with fail
  refine (gwidth_any g F s n _ HG.out).mono ?_
  rintro e w1 ⟨rfl, ht⟩
  have HT := Lib.hid (ht.after HF.out)
  clear ht
  go_wp2_with fail
  go_ret
  exact ⟨rfl, HT.out⟩
set_option maxRecDepth 8000 in
set_option maxHeartbeats 6400000 in
theorem callg_11 (g : Nat) (F : Nat → Prop) (s : GS) (n : Int) (m : M6) (v : Value) (l : List Int) (px py : Int) (S : Nat → Prop) (w : World) (h : Gs w g F s) (hb : SB 900 s) (hN : NamesIn w) (hr : RowIn w S 1 v l.length (ints l)) (hl : l.length ≤ 100) : Calls Tryd.prog 31 #[.pointer (some ⟨g, 0, none⟩), actV 11 n m v px py] w fun e w' => e = .returned (.int .i64 (callF ⟨11, n, m, l, px, py⟩ s).1) ∧ GsTo w g F (callF ⟨11, n, m, l, px, py⟩ s).2 w' := by
  rw [callF_11 _ s rfl]
  obtain ⟨A, c, rfl, _⟩ := hr.form
  have hf : Fr Nob w (w.alloc (.cells #[.int .i64 11, .int .i64 n, .int .i64 m.a, .int .i64 m.b, .int .i64 m.c, .int .i64 m.d, .int .i64 m.e, .int .i64 m.f, .slice A l.length c, .int .i64 px, .int .i64 py] 76)) := (Fr.refl Nob w).alloc _
  have HF := Lib.hid hf
  have HR := Lib.hid (hr.nob hf)
  have HG := Lib.hid (h.nob hf)
  have HNM := Lib.hid (hN.nob hf)
  have HSB := Lib.hid hb
  have HB := Lib.hid (Blk.new w #[.int .i64 11, .int .i64 n, .int .i64 m.a, .int .i64 m.b, .int .i64 m.c, .int .i64 m.d, .int .i64 m.e, .int .i64 m.f, .slice A l.length c, .int .i64 px, .int .i64 py] 76)
  skip
  clear h hf hb hN hr
  unfold actV
  go_enter Tryd.func31, Tryd.ntmps31
  go_wp2_with fail
  refine (gcap_any g F s n _ HG.out).mono ?_
  rintro e w1 ⟨rfl, ht⟩
  have HT := Lib.hid (ht.after HF.out)
  clear ht
  go_wp2_with fail
  go_ret
  exact ⟨rfl, HT.out⟩
set_option maxRecDepth 8000 in
set_option maxHeartbeats 6400000 in
theorem callg_12 (g : Nat) (F : Nat → Prop) (s : GS) (n : Int) (m : M6) (v : Value) (l : List Int) (px py : Int) (S : Nat → Prop) (w : World) (h : Gs w g F s) (hb : SB 900 s) (hN : NamesIn w) (hr : RowIn w S 1 v l.length (ints l)) (hl : l.length ≤ 100) : Calls Tryd.prog 31 #[.pointer (some ⟨g, 0, none⟩), actV 12 n m v px py] w fun e w' => e = .returned (.int .i64 (callF ⟨12, n, m, l, px, py⟩ s).1) ∧ GsTo w g F (callF ⟨12, n, m, l, px, py⟩ s).2 w' := by
  rw [callF_12 _ s rfl]
  obtain ⟨A, c, rfl, _⟩ := hr.form
  have hf : Fr Nob w (w.alloc (.cells #[.int .i64 12, .int .i64 n, .int .i64 m.a, .int .i64 m.b, .int .i64 m.c, .int .i64 m.d, .int .i64 m.e, .int .i64 m.f, .slice A l.length c, .int .i64 px, .int .i64 py] 76)) := (Fr.refl Nob w).alloc _
  have HF := Lib.hid hf
  have HR := Lib.hid (hr.nob hf)
  have HG := Lib.hid (h.nob hf)
  have HNM := Lib.hid (hN.nob hf)
  have HSB := Lib.hid hb
  have HB := Lib.hid (Blk.new w #[.int .i64 12, .int .i64 n, .int .i64 m.a, .int .i64 m.b, .int .i64 m.c, .int .i64 m.d, .int .i64 m.e, .int .i64 m.f, .slice A l.length c, .int .i64 px, .int .i64 py] 76)
  skip
  clear h hf hb hN hr
  unfold actV
  go_enter Tryd.func31, Tryd.ntmps31
  go_wp2_with fail
  refine (gjoin_any g F s n _ HG.out).mono ?_
  rintro e w1 ⟨rfl, ht⟩
  have HT := Lib.hid (ht.after HF.out)
  clear ht
  go_wp2_with fail
  go_ret
  exact ⟨rfl, HT.out⟩
set_option maxRecDepth 8000 in
set_option maxHeartbeats 6400000 in
theorem callg_13 (g : Nat) (F : Nat → Prop) (s : GS) (n : Int) (m : M6) (v : Value) (l : List Int) (px py : Int) (S : Nat → Prop) (w : World) (h : Gs w g F s) (hb : SB 900 s) (hN : NamesIn w) (hr : RowIn w S 1 v l.length (ints l)) (hl : l.length ≤ 100) : Calls Tryd.prog 31 #[.pointer (some ⟨g, 0, none⟩), actV 13 n m v px py] w fun e w' => e = .returned (.int .i64 (callF ⟨13, n, m, l, px, py⟩ s).1) ∧ GsTo w g F (callF ⟨13, n, m, l, px, py⟩ s).2 w' := by
  rw [callF_13 _ s rfl]
  obtain ⟨A, c, rfl, _⟩ := hr.form
  have hf : Fr Nob w (w.alloc (.cells #[.int .i64 13, .int .i64 n, .int .i64 m.a, .int .i64 m.b, .int .i64 m.c, .int .i64 m.d, .int .i64 m.e, .int .i64 m.f, .slice A l.length c, .int .i64 px, .int .i64 py] 76)) := (Fr.refl Nob w).alloc _
  have HF := Lib.hid hf
  have HR := Lib.hid (hr.nob hf)
  have HG := Lib.hid (h.nob hf)
  have HNM := Lib.hid (hN.nob hf)
  have HSB := Lib.hid hb
  have HB := Lib.hid (Blk.new w #[.int .i64 13, .int .i64 n, .int .i64 m.a, .int .i64 m.b, .int .i64 m.c, .int .i64 m.d, .int .i64 m.e, .int .i64 m.f, .slice A l.length c, .int .i64 px, .int .i64 py] 76)
  skip
  clear h hf hb hN hr
  unfold actV
  go_enter Tryd.func31, Tryd.ntmps31
  go_wp2_with fail
  refine (gmiter_any g F s n _ HG.out).mono ?_
  rintro e w1 ⟨rfl, ht⟩
  have HT := Lib.hid (ht.after HF.out)
  clear ht
  go_wp2_with fail
  go_ret
  exact ⟨rfl, HT.out⟩
set_option maxRecDepth 8000 in
set_option maxHeartbeats 6400000 in
theorem callg_14 (g : Nat) (F : Nat → Prop) (s : GS) (n : Int) (m : M6) (v : Value) (l : List Int) (px py : Int) (S : Nat → Prop) (w : World) (h : Gs w g F s) (hb : SB 900 s) (hN : NamesIn w) (hr : RowIn w S 1 v l.length (ints l)) (hl : l.length ≤ 100) : Calls Tryd.prog 31 #[.pointer (some ⟨g, 0, none⟩), actV 14 n m v px py] w fun e w' => e = .returned (.int .i64 (callF ⟨14, n, m, l, px, py⟩ s).1) ∧ GsTo w g F (callF ⟨14, n, m, l, px, py⟩ s).2 w' := by
  rw [callF_14 _ s rfl]
  obtain ⟨A, c, rfl, _⟩ := hr.form
  have hf : Fr Nob w (w.alloc (.cells #[.int .i64 14, .int .i64 n, .int .i64 m.a, .int .i64 m.b, .int .i64 m.c, .int .i64 m.d, .int .i64 m.e, .int .i64 m.f, .slice A l.length c, .int .i64 px, .int .i64 py] 76)) := (Fr.refl Nob w).alloc _
  have HF := Lib.hid hf
  have HR := Lib.hid (hr.nob hf)
  have HG := Lib.hid (h.nob hf)
  have HNM := Lib.hid (hN.nob hf)
  have HSB := Lib.hid hb
  have HB := Lib.hid (Blk.new w #[.int .i64 14, .int .i64 n, .int .i64 m.a, .int .i64 m.b, .int .i64 m.c, .int .i64 m.d, .int .i64 m.e, .int .i64 m.f, .slice A l.length c, .int .i64 px, .int .i64 py] 76)
  skip
  clear h hf hb hN hr
  unfold actV
  go_enter Tryd.func31, Tryd.ntmps31
  go_wp2_with fail
  refine (gclip_any g F s _ _ HG.out HSB.out.st.small HSB.out.ps.pb).mono ?_
  rintro e w1 ⟨rfl, ht⟩
  have HT := Lib.hid (ht.after HF.out)
  clear ht
  go_wp2_with fail
  go_ret
  exact ⟨rfl, HT.out⟩
set_option maxRecDepth 8000 in
set_option maxHeartbeats 6400000 in
theorem callg_15 (g : Nat) (F : Nat → Prop) (s : GS) (n : Int) (m : M6) (v : Value) (l : List Int) (px py : Int) (S : Nat → Prop) (w : World) (h : Gs w g F s) (hb : SB 900 s) (hN : NamesIn w) (hr : RowIn w S 1 v l.length (ints l)) (hl : l.length ≤ 100) : Calls Tryd.prog 31 #[.pointer (some ⟨g, 0, none⟩), actV 15 n m v px py] w fun e w' => e = .returned (.int .i64 (callF ⟨15, n, m, l, px, py⟩ s).1) ∧ GsTo w g F (callF ⟨15, n, m, l, px, py⟩ s).2 w' := by
  rw [callF_15 _ s rfl]
  obtain ⟨A, c, rfl, _⟩ := hr.form
  have hf : Fr Nob w (w.alloc (.cells #[.int .i64 15, .int .i64 n, .int .i64 m.a, .int .i64 m.b, .int .i64 m.c, .int .i64 m.d, .int .i64 m.e, .int .i64 m.f, .slice A l.length c, .int .i64 px, .int .i64 py] 76)) := (Fr.refl Nob w).alloc _
  have HF := Lib.hid hf
  have HR := Lib.hid (hr.nob hf)
  have HG := Lib.hid (h.nob hf)
  have HNM := Lib.hid (hN.nob hf)
  have HSB := Lib.hid hb
  have HB := Lib.hid (Blk.new w #[.int .i64 15, .int .i64 n, .int .i64 m.a, .int .i64 m.b, .int .i64 m.c, .int .i64 m.d, .int .i64 m.e, .int .i64 m.f, .slice A l.length c, .int .i64 px, .int .i64 py] 76)
  skip
  clear h hf hb hN hr
  unfold actV
  go_enter Tryd.func31, Tryd.ntmps31
  go_wp2_with fail
  refine (gunclip_any g F s _ HG.out).mono ?_
  rintro e w1 ⟨rfl, ht⟩
  have HT := Lib.hid (ht.after HF.out)
  clear ht
  go_wp2_with fail
  go_ret
  exact ⟨rfl, HT.out⟩
set_option maxRecDepth 8000 in
set_option maxHeartbeats 6400000 in
theorem callg_16' (g : Nat) (F : Nat → Prop) (s : GS) (n : Int) (m : M6) (v : Value) (l : List Int) (px py : Int) (S : Nat → Prop) (w : World) (h : Gs w g F s) (hb : SB 900 s) (hN : NamesIn w) (hr : RowIn w S 1 v l.length (ints l)) (hl : l.length ≤ 100) (hNB : ∀ j, F j → j = w.heap.size → False) : Calls Tryd.prog 31 #[.pointer (some ⟨g, 0, none⟩), actV 16 n m v px py] w fun e w' => e = .returned (.int .i64 (callF ⟨16, n, m, l, px, py⟩ s).1) ∧ GsTo w g F (callF ⟨16, n, m, l, px, py⟩ s).2 w' := by
  rw [callF_16 _ s rfl]
  obtain ⟨A, c, rfl, _⟩ := hr.form
  have hf : Fr Nob w (w.alloc (.cells #[.int .i64 16, .int .i64 n, .int .i64 m.a, .int .i64 m.b, .int .i64 m.c, .int .i64 m.d, .int .i64 m.e, .int .i64 m.f, .slice A l.length c, .int .i64 px, .int .i64 py] 76)) := (Fr.refl Nob w).alloc _
  have HF := Lib.hid hf
  have HR := Lib.hid (hr.nob hf)
  have HG := Lib.hid (h.nob hf)
  have HNM := Lib.hid (hN.nob hf)
  have HSB := Lib.hid hb
  have HB := Lib.hid (Blk.new w #[.int .i64 16, .int .i64 n, .int .i64 m.a, .int .i64 m.b, .int .i64 m.c, .int .i64 m.d, .int .i64 m.e, .int .i64 m.f, .slice A l.length c, .int .i64 px, .int .i64 py] 76)
  have HNB := Lib.hid hNB
  clear h hf hb hN hr hNB
  unfold actV
  go_enter Tryd.func31, Tryd.ntmps31
  have HLT := Lib.hid HB.out.lt
  have HNBW := Lib.hid (show ∀ w1 j, Ext F (w.alloc (.cells #[.int .i64 16, .int .i64 n, .int .i64 m.a, .int .i64 m.b, .int .i64 m.c, .int .i64 m.d, .int .i64 m.e, .int .i64 m.f, .slice A l.length c, .int .i64 px, .int .i64 py] 76)) w1 j → j = w.heap.size → False from fun w1 j hj e => hj.elim (fun hj => HNB.out j hj e) fun hj => by have := hj.1; have := HLT.out; omega)
  go_upto_region 33 with (fail)
  generalize w.alloc (.cells #[.int .i64 16, .int .i64 n, .int .i64 m.a, .int .i64 m.b, .int .i64 m.c, .int .i64 m.d, .int .i64 m.e, .int .i64 m.f, .slice A l.length c, .int .i64 px, .int .i64 py] 76) = wa at *
  obtain ⟨lab, x, sv, xs, hx⟩ := HG.out
  have HX := Lib.hid hx
  clear hx
  go_wp2_with fail
  refine (gpath_any g F s _ lab x sv xs HX.out).mono ?_
  rintro e w1 ⟨rfl, rfl⟩
  go_wp2_with fail
  refine (clear_any x.pg x.pv s.cur.p _ HX.out.c.p).mono ?_
  rintro e w2 ⟨rfl, ht⟩
  have T1 := Lib.hid (HX.out.path _ ht)
  clear ht
  obtain ⟨s1, hs1⟩ : ∃ s1 : GS, s1 = { s with cur := { s.cur with p := { s.cur.p with list := [], start := oo, now := oo } } } := ⟨_, rfl⟩
  rw [← hs1] at T1
  have HS1 := Lib.hid hs1
  have HP1 := Lib.hid (show PsB s1.cur.p by rw [hs1]; exact ⟨HSB.out.ps.m, by simp⟩)
  clear hs1
  have BX1 := Lib.hid (HB.out.fr T1.out.2 fun hh => HNB.out _ hh rfl)
  obtain ⟨lab1, x1, sv1, xs1, hx1⟩ := T1.out.1
  have HX1 := Lib.hid hx1
  have HQ1 := Lib.hid (show ∀ w', Fr Nob w2 w' → (fun w' => w'.cell? ⟨w.heap.size, 9, none⟩ = some (.int .i64 px) ∧ w'.cell? ⟨w.heap.size, 10, none⟩ = some (.int .i64 py)) w' from fun w' hw' => ⟨(BX1.out.nob hw').cell 9, (BX1.out.nob hw').cell 10⟩)
  clear hx1
  go_wp2_with fail
  refine wp_region_last' (ops := _) (o := _) (l := _) 4 rfl rfl rfl (fun w' => w'.cell? ⟨w.heap.size, 9, none⟩ = some (.int .i64 px) ∧ w'.cell? ⟨w.heap.size, 10, none⟩ = some (.int .i64 py)) (by kernel_rfl) (by kernel_rfl) (HQ1.out _ (Fr.refl Nob w2).drew) fun hH => ?_
  simp only [List.take_succ_cons, List.take_zero]
  refine wpAnyH_take (i := 0) (v := ?va1) rfl (by kernel_rfl) (by kernel_rfl) (by kernel_rfl) (fun _ _ _ h => h) (Or.inl ⟨by rfl, ?ha1⟩) hH ?ra1
  case ha1 => (intro w hSw; (try dsimp only at hSw); clear hSw; go_simp; (try with_reducible rfl))
  simp only [Act.put, List.getElem_toArray, List.getElem_cons_succ, List.getElem_cons_zero, List.setIfInBounds_toArray, List.set_cons_zero, List.set_cons_succ]
  refine wpAnyH_take (i := 2) (v := ?va2) rfl (by kernel_rfl) (by kernel_rfl) (by kernel_rfl) (fun _ _ _ h => h) (Or.inl ⟨by rfl, ?ha2⟩) hH ?ra2
  case ha2 => (intro w hSw; (try dsimp only at hSw); clear hSw; go_simp; (try with_reducible rfl))
  simp only [Act.put, List.getElem_toArray, List.getElem_cons_succ, List.getElem_cons_zero, List.setIfInBounds_toArray, List.set_cons_zero, List.set_cons_succ]
  refine wpAnyH_take (i := 3) (v := ?va3) rfl (by kernel_rfl) (by kernel_rfl) (by kernel_rfl) (fun _ _ _ h => h) (Or.inl ⟨by rfl, ?ha3⟩) hH ?ra3
  case ha3 => (intro w hSw; (try dsimp only at hSw); obtain ⟨h9, h10⟩ := hSw; go_simp; (try with_reducible rfl))
  simp only [Act.put, List.getElem_toArray, List.getElem_cons_succ, List.getElem_cons_zero, List.setIfInBounds_toArray, List.set_cons_zero, List.set_cons_succ]
  refine held_one 1 rfl (by kernel_rfl) rfl fun K hK => ?_
  replace hK := Lib.hid hK
  clear hH
  go_simp
  refine (gpath_any g _ s1 _ lab1 x1 sv1 xs1 (HX1.out.nob (T := Nob) (by repeat (first | exact Fr.refl _ _ | refine Fr.alloc ?_ _ | refine Fr.drew ?_ | refine Fr.drewN ?_ _)) fun _ _ hh => hh)).mono ?_
  rintro e w9 ⟨rfl, rfl⟩
  dsimp only
  have hH := HQ1.out w2.drew (Fr.refl Nob w2).drew
  refine hK.out _ _ hH ?_
  clear hK K
  refine wpAnyH_done (by kernel_rfl) ?_ _
  clear hH
  simp only [LastQ, List.getElem_cons_succ, List.getElem_cons_zero]
  go_simp
  refine (move_any x1.pg x1.pv s1.cur.p ⟨px, py⟩ _ (HX1.out.c.p.nob (by repeat (first | exact Fr.refl _ _ | refine Fr.drew ?_))) HP1.out.pb).mono ?_
  rintro e w3 ⟨rfl, ht⟩
  have T2 := Lib.hid (((HX1.out.nob (T := Nob) (show Fr Nob w2 w2.drew from (Fr.refl Nob w2).drew) fun _ _ hh => hh).path _ ht).after (Fr.refl Nob w2).drew)
  clear ht
  obtain ⟨s2, hs2⟩ : ∃ s2 : GS, s2 = { s1 with cur := { s1.cur with p := (moveF s1.cur.p ⟨px, py⟩).2 } } := ⟨_, rfl⟩
  rw [← hs2] at T2
  have HS2 := Lib.hid hs2
  have HP2 := Lib.hid (show PsB s2.cur.p by rw [hs2]; exact HP1.out.move _)
  clear hs2
  have BX2 := Lib.hid (BX1.out.fr T2.out.2 fun hh => HNBW.out _ _ hh rfl)
  obtain ⟨lab2, x2, sv2, xs2, hx2⟩ := T2.out.1
  have HX2 := Lib.hid hx2
  have HQ2 := Lib.hid (show ∀ w', Fr Nob w3 w' → (fun w' => w'.cell? ⟨w.heap.size, 9, none⟩ = some (.int .i64 px) ∧ w'.cell? ⟨w.heap.size, 10, none⟩ = some (.int .i64 py)) w' from fun w' hw' => ⟨(BX2.out.nob hw').cell 9, (BX2.out.nob hw').cell 10⟩)
  clear hx2
  generalize (moveF s1.cur.p ⟨px, py⟩).1 = e1 at *
  go_wp2_with fail
  refine wp_region_last' (ops := _) (o := _) (l := _) 9 rfl rfl rfl (fun w' => w'.cell? ⟨w.heap.size, 9, none⟩ = some (.int .i64 px) ∧ w'.cell? ⟨w.heap.size, 10, none⟩ = some (.int .i64 py)) (by kernel_rfl) (by kernel_rfl) (HQ2.out _ (Fr.refl Nob w3).drew) fun hH => ?_
  simp only [List.take_succ_cons, List.take_zero]
  refine wpAnyH_take (i := 0) (v := ?vb1) rfl (by kernel_rfl) (by kernel_rfl) (by kernel_rfl) (fun _ _ _ h => h) (Or.inl ⟨by rfl, ?hb1⟩) hH ?rb1
  case hb1 => (intro w hSw; (try dsimp only at hSw); clear hSw; go_simp; (try with_reducible rfl))
  simp only [Act.put, List.getElem_toArray, List.getElem_cons_succ, List.getElem_cons_zero, List.setIfInBounds_toArray, List.set_cons_zero, List.set_cons_succ]
  refine wpAnyH_take (i := 2) (v := ?vb2) rfl (by kernel_rfl) (by kernel_rfl) (by kernel_rfl) (fun _ _ _ h => h) (Or.inl ⟨by rfl, ?hb2⟩) hH ?rb2
  case hb2 => (intro w hSw; (try dsimp only at hSw); clear hSw; go_simp; (try with_reducible rfl))
  simp only [Act.put, List.getElem_toArray, List.getElem_cons_succ, List.getElem_cons_zero, List.setIfInBounds_toArray, List.set_cons_zero, List.set_cons_succ]
  refine wpAnyH_take (i := 3) (v := ?vb3) rfl (by kernel_rfl) (by kernel_rfl) (by kernel_rfl) (fun _ _ _ h => h) (Or.inl ⟨by rfl, ?hb3⟩) hH ?rb3
  case hb3 => (intro w hSw; (try dsimp only at hSw); clear hSw; go_simp; (try with_reducible rfl))
  simp only [Act.put, List.getElem_toArray, List.getElem_cons_succ, List.getElem_cons_zero, List.setIfInBounds_toArray, List.set_cons_zero, List.set_cons_succ]
  refine wpAnyH_take (i := 4) (v := ?vb4) rfl (by kernel_rfl) (by kernel_rfl) (by kernel_rfl) (fun _ _ _ h => h) (Or.inl ⟨by rfl, ?hb4⟩) hH ?rb4
  case hb4 => (intro w hSw; (try dsimp only at hSw); obtain ⟨h9, h10⟩ := hSw; go_simp; (try with_reducible rfl))
  simp only [Act.put, List.getElem_toArray, List.getElem_cons_succ, List.getElem_cons_zero, List.setIfInBounds_toArray, List.set_cons_zero, List.set_cons_succ]
  refine wpAnyH_take (i := 5) (v := ?vb5) rfl (by kernel_rfl) (by kernel_rfl) (by kernel_rfl) (fun _ _ _ h => h) (Or.inl ⟨by rfl, ?hb5⟩) hH ?rb5
  case hb5 => (intro w hSw; (try dsimp only at hSw); clear hSw; go_simp; (try with_reducible rfl))
  simp only [Act.put, List.getElem_toArray, List.getElem_cons_succ, List.getElem_cons_zero, List.setIfInBounds_toArray, List.set_cons_zero, List.set_cons_succ]
  refine wpAnyH_take (i := 6) (v := ?vb6) rfl (by kernel_rfl) (by kernel_rfl) (by kernel_rfl) (fun _ _ _ h => h) (Or.inl ⟨by rfl, ?hb6⟩) hH ?rb6
  case hb6 => (intro w hSw; (try dsimp only at hSw); clear hSw; go_simp; (try with_reducible rfl))
  simp only [Act.put, List.getElem_toArray, List.getElem_cons_succ, List.getElem_cons_zero, List.setIfInBounds_toArray, List.set_cons_zero, List.set_cons_succ]
  refine wpAnyH_take (i := 7) (v := ?vb7) rfl (by kernel_rfl) (by kernel_rfl) (by kernel_rfl) (fun _ _ _ h => h) (Or.inl ⟨by rfl, ?hb7⟩) hH ?rb7
  case hb7 => (intro w hSw; (try dsimp only at hSw); obtain ⟨h9, h10⟩ := hSw; go_simp; (try with_reducible rfl))
  simp only [Act.put, List.getElem_toArray, List.getElem_cons_succ, List.getElem_cons_zero, List.setIfInBounds_toArray, List.set_cons_zero, List.set_cons_succ]
  refine wpAnyH_take (i := 8) (v := ?vb8) rfl (by kernel_rfl) (by kernel_rfl) (by kernel_rfl) (fun _ _ _ h => h) (Or.inl ⟨by rfl, ?hb8⟩) hH ?rb8
  case hb8 => (intro w hSw; (try dsimp only at hSw); clear hSw; go_simp; (try with_reducible rfl))
  simp only [Act.put, List.getElem_toArray, List.getElem_cons_succ, List.getElem_cons_zero, List.setIfInBounds_toArray, List.set_cons_zero, List.set_cons_succ]
  refine held_one 1 rfl (by kernel_rfl) rfl fun K hK => ?_
  replace hK := Lib.hid hK
  clear hH
  go_simp
  refine (gpath_any g _ s2 _ lab2 x2 sv2 xs2 (HX2.out.nob (T := Nob) (by repeat (first | exact Fr.refl _ _ | refine Fr.alloc ?_ _ | refine Fr.drew ?_ | refine Fr.drewN ?_ _)) fun _ _ hh => hh)).mono ?_
  rintro e w9 ⟨rfl, rfl⟩
  dsimp only
  have hH := HQ2.out w3.drew (Fr.refl Nob w3).drew
  refine hK.out _ _ hH ?_
  clear hK K
  refine wpAnyH_done (by kernel_rfl) ?_ _
  clear hH
  simp only [LastQ, List.getElem_cons_succ, List.getElem_cons_zero]
  go_simp
  refine (line_any x2.pg x2.pv s2.cur.p ⟨py, px⟩ _ (HX2.out.c.p.nob (by repeat (first | exact Fr.refl _ _ | refine Fr.drew ?_))) HP2.out.pb).mono ?_
  rintro e w4 ⟨rfl, ht⟩
  have T3 := Lib.hid (((HX2.out.nob (T := Nob) (show Fr Nob w3 w3.drew from (Fr.refl Nob w3).drew) fun _ _ hh => hh).path _ ht).after (Fr.refl Nob w3).drew)
  clear ht
  generalize (lineF s2.cur.p ⟨py, px⟩).1 = e2 at *
  go_wp2_with fail
  go_ret
  refine ⟨rfl, ?_⟩
  have h1 := HS1.out
  have h2 := HS2.out
  subst h1
  subst h2
  exact (T1.out.trans (T2.out.trans T3.out)).after HF.out
theorem callg_16 (g : Nat) (F : Nat → Prop) (s : GS) (n : Int) (m : M6) (v : Value) (l : List Int) (px py : Int) (S : Nat → Prop) (w : World) (h : Gs w g F s) (hb : SB 900 s) (hN : NamesIn w) (hr : RowIn w S 1 v l.length (ints l)) (hl : l.length ≤ 100) : Calls Tryd.prog 31 #[.pointer (some ⟨g, 0, none⟩), actV 16 n m v px py] w fun e w' => e = .returned (.int .i64 (callF ⟨16, n, m, l, px, py⟩ s).1) ∧ GsTo w g F (callF ⟨16, n, m, l, px, py⟩ s).2 w' := by
  refine (callg_16' g (fun k => F k ∧ k < w.heap.size) s n m v l px py S w h.lts hb hN hr hl fun j hj e => by have := hj.2; omega).mono ?_
  rintro e w' ⟨rfl, ht⟩
  exact ⟨rfl, ht.mono fun k hk => hk.1⟩
end Go.Proofs.YtkkejjfmidgciaaDoor
/- Any call (chapter 14); states of one's own; what the laws are handed. -/
namespace Go.Proofs.YtkkejjfmidgciaaDoor
open Go.RowKit
set_option linter.unusedVariables false
set_option linter.unusedSimpArgs false
theorem callg_0 (d : Int) (g : Nat) (F : Nat → Prop) (s : GS) (n : Int) (m : M6) (v : Value) (l : List Int) (px py : Int) (S : Nat → Prop) (w : World) (h : Gs w g F s) (hr : RowIn w S 1 v l.length (ints l)) (hd : d < 1 ∨ 16 < d) :
    Calls Tryd.prog 31 #[.pointer (some ⟨g, 0, none⟩), actV d n m v px py] w fun e w' => e = .returned (.int .i64 0) ∧ GsTo w g F s w' := by
  obtain ⟨A, c, rfl, _⟩ := hr.form
  have HF := Lib.hid ((Fr.refl Nob w).alloc (.cells #[.int .i64 d, .int .i64 n, .int .i64 m.a, .int .i64 m.b, .int .i64 m.c, .int .i64 m.d, .int .i64 m.e, .int .i64 m.f, .slice A l.length c, .int .i64 px, .int .i64 py] 76))
  have HG := Lib.hid h
  have n1 : ¬ d = 1 := by omega
  have n2 : ¬ d = 2 := by omega
  have n3 : ¬ d = 3 := by omega
  have n4 : ¬ d = 4 := by omega
  have n5 : ¬ d = 5 := by omega
  have n6 : ¬ d = 6 := by omega
  have n7 : ¬ d = 7 := by omega
  have n8 : ¬ d = 8 := by omega
  have n9 : ¬ d = 9 := by omega
  have n10 : ¬ d = 10 := by omega
  have n11 : ¬ d = 11 := by omega
  have n12 : ¬ d = 12 := by omega
  have n13 : ¬ d = 13 := by omega
  have n14 : ¬ d = 14 := by omega
  have n15 : ¬ d = 15 := by omega
  have n16 : ¬ d = 16 := by omega
  clear h hr hd
  unfold actV
  go_enter Tryd.func31, Tryd.ntmps31
  go_wp2_with fail
  go_ret
  exact ⟨rfl, GsTo.same HG.out HF.out⟩
theorem callg_any (g : Nat) (F : Nat → Prop) (s : GS) (a : Act14) (v : Value) (S : Nat → Prop) (w : World) (h : Gs w g F s) (hb : SB 900 s) (hN : NamesIn w) (hr : RowIn w S 1 v a.l.length (ints a.l)) (hl : a.l.length ≤ 100) :
    Calls Tryd.prog 31 #[.pointer (some ⟨g, 0, none⟩), actV a.d a.n a.m v a.px a.py] w fun e w' => e = .returned (.int .i64 (callF a s).1) ∧ GsTo w g F (callF a s).2 w' := by
  obtain ⟨d, n, m, l, px, py⟩ := a
  dsimp only at hr hl ⊢
  by_cases hd : d < 1 ∨ 16 < d
  · rw [callF_0 _ s hd]
    exact callg_0 d g F s n m v l px py S w h hr hd
  · have : d = 1 ∨ d = 2 ∨ d = 3 ∨ d = 4 ∨ d = 5 ∨ d = 6 ∨ d = 7 ∨ d = 8 ∨ d = 9 ∨ d = 10 ∨ d = 11 ∨ d = 12 ∨ d = 13 ∨ d = 14 ∨ d = 15 ∨ d = 16 := by omega
    rcases this with rfl | rfl | rfl | rfl | rfl | rfl | rfl | rfl | rfl | rfl | rfl | rfl | rfl | rfl | rfl | rfl
    · exact callg_1 g F s n m v l px py S w h hb hN hr hl
    · exact callg_2 g F s n m v l px py S w h hb hN hr hl
    · exact callg_3 g F s n m v l px py S w h hb hN hr hl
    · exact callg_4 g F s n m v l px py S w h hb hN hr hl
    · exact callg_5 g F s n m v l px py S w h hb hN hr hl
    · exact callg_6 g F s n m v l px py S w h hb hN hr hl
    · exact callg_7 g F s n m v l px py S w h hb hN hr hl
    · exact callg_8 g F s n m v l px py S w h hb hN hr hl
    · exact callg_9 g F s n m v l px py S w h hb hN hr hl
    · exact callg_10 g F s n m v l px py S w h hb hN hr hl
    · exact callg_11 g F s n m v l px py S w h hb hN hr hl
    · exact callg_12 g F s n m v l px py S w h hb hN hr hl
    · exact callg_13 g F s n m v l px py S w h hb hN hr hl
    · exact callg_14 g F s n m v l px py S w h hb hN hr hl
    · exact callg_15 g F s n m v l px py S w h hb hN hr hl
    · exact callg_16 g F s n m v l px py S w h hb hN hr hl
/-- Calls that the laws are handed, in memory that is never written. -/
def ActsIn (w : World) (v : Value) (ac : List (Act14 × Value)) : Prop :=
  RowIn w (Lt w) 11 v ac.length (ac.flatMap fun a => encA a.1 a.2) ∧ ∀ a ∈ ac, RowIn w (Lt w) 1 a.2 a.1.l.length (ints a.1.l)
theorem encAs_at (l : List (Act14 × Value)) (k j : Nat) (hk : k < l.length) (hj : j < 11) : (l.flatMap fun a => encA a.1 a.2)[k * 11 + j]? = (encA l[k].1 l[k].2)[j]? :=
  flatn_at (fun a : Act14 × Value => encA a.1 a.2) 11 l (fun _ _ => rfl) k j hk hj
theorem ActsIn.nob {w w' : World} {v : Value} {ac : List (Act14 × Value)} (h : ActsIn w v ac) (hf : Fr Nob w w') : ActsIn w' v ac :=
  ⟨(h.1.nob hf).mono fun k hk => Nat.lt_of_lt_of_le hk hf.size, fun a ha => ((h.2 a ha).nob hf).mono fun k hk => Nat.lt_of_lt_of_le hk hf.size⟩
theorem ActsIn.at {w : World} {v : Value} {ac : List (Act14 × Value)} (h : ActsIn w v ac) (hn : 0 < ac.length) :
    ∃ b off cap, v = .slice (some ⟨b, off, none⟩) ac.length cap ∧ ac.length ≤ cap ∧ cap ≤ 9223372036854775807 ∧ ∀ k (hk : k < ac.length), w.rangeAt b (off + k * 11) (encA ac[k].1 ac[k].2) := by
  have hl : (ac.flatMap fun a => encA a.1 a.2).length = ac.length * 11 := flatn_len (fun a : Act14 × Value => encA a.1 a.2) 11 ac fun _ _ => rfl
  obtain ⟨b, off, cap, hv, h1, h2, _, hc⟩ := h.1.pos (by omega)
  refine ⟨b, off, cap, hv, h1, h2, fun k hk j u hu => ?_⟩
  have hj : j < 11 := (List.getElem?_eq_some_iff.1 hu).1
  rw [Nat.add_assoc]
  exact hc (k * 11 + j) u (by rw [encAs_at ac k j hk hj]; exact hu)
theorem read_acts14 {H : Type} {enc' : TypeId × Value → H} {w : World} {base : Nat} {spare : Nat → Bool} {held : Bool} {fuel : Nat} {v : Value} {x : DataW H × List MemPlace}
    (h : DataW.trod enc' Tryd.prog w base spare held fuel 73 [v] = some x) : ∃ ac : List (Act14 × Value), ActsIn w v ac := by
  obtain ⟨xs, h1, h2⟩ := read_slice Tryd.underlying73 11 cellsAct14 (by omega) (fun (a : Act14 × Value) cs => cs = encA a.1 a.2 ∧ RowIn w (Lt w) 1 a.2 a.1.l.length (ints a.1.l)) (fun n cs y h => read_act14 n cs y h) h
  have e : xs.flatMap (·.2) = (xs.map (·.1)).flatMap fun a => encA a.1 a.2 := by
    clear h1
    induction xs with
    | nil => rfl
    | cons a r ih =>
      rw [List.flatMap_cons, List.map_cons, List.flatMap_cons, (h2 a (by simp)).1.1, ih fun y hy => h2 y (by simp [hy])]
  rw [e] at h1
  refine ⟨xs.map (·.1), by simpa using h1, fun a ha => ?_⟩
  obtain ⟨y, hy, rfl⟩ := List.mem_map.1 ha
  exact (h2 y hy).1.2
end Go.Proofs.YtkkejjfmidgciaaDoor
/- What 'open' (chapter 16) leaves, step by step: plain laws. No walk. -/
namespace Go.Proofs.YtkkejjfmidgciaaDoor
open Go.RowKit
set_option linter.unusedVariables false
set_option linter.unusedSimpArgs false
/-- What chapter 16's laws set ahead. -/
structure T16 where
  ctm : M6
  fm : M6
  font : Int
  ax : Int
  ay : Int
  place : Bool
  dark : Bool
  segs : Int
def encT (t : T16) : List Value := [.int .i64 t.ctm.a, .int .i64 t.ctm.b, .int .i64 t.ctm.c, .int .i64 t.ctm.d, .int .i64 t.ctm.e, .int .i64 t.ctm.f, .int .i64 t.fm.a, .int .i64 t.fm.b, .int .i64 t.fm.c, .int .i64 t.fm.d, .int .i64 t.fm.e, .int .i64 t.fm.f,
  .int .i64 t.font, .int .i64 t.ax, .int .i64 t.ay, .bool t.place, .bool t.dark, .int .u8 t.segs]
def tN (t : T16) : Int := t.segs % 10 + 1
def oM (t : T16) (s : GS) : GS := { s with cur := { s.cur with st := (matrixF t.ctm s.cur.st).2 } }
def oF (t : T16) (s : GS) : GS := { s with cur := { s.cur with st := (fontF t.font t.fm s.cur.st).2 } }
def oD (t : T16) (s : GS) : GS := if t.dark then { s with cur := { s.cur with st := { s.cur.st with dark := true } } } else s
def oP (t : T16) (s : GS) : GS := if t.place then { s with cur := { s.cur with p := (moveF s.cur.p ⟨t.ax, t.ay⟩).2 } } else s
def openS (t : T16) : GS := oP t (oD t (oF t (oM t (sNew 2 (tN t)))))
/-- Both sides' states as 'open' makes them: F the program's blocks, S those of the reference's path. -/
structure OpenJ (F0 : Nat → Prop) (w5 wc : World) (g gr : Nat) (n : Int) (F S : Nat → Prop) (s : GS) (st : Gst) (l : List Sg) (lv : Value) : Prop where
  gs : Gs wc g F s
  hF : ∀ k, F k → (F0 k ∨ w5.heap.size ≤ k) ∧ k < wc.heap.size
  fr : Fr (fun k => F0 k ∨ k = gr) w5 wc
  rs : RSt wc gr st nilV nilV n lv
  row : RowIn wc S 7 lv l.length (encSs l)
  sd : ∀ k, S k → w5.heap.size ≤ k ∧ ¬ F k ∧ k < wc.heap.size
  g0 : ¬ F0 gr
  g5 : gr < w5.heap.size
section
variable {F0 : Nat → Prop} {w5 wc w' : World} {g gr : Nat} {n : Int} {F S : Nat → Prop} {s s' : GS} {st st' : Gst} {l l' : List Sg} {lv : Value}
theorem OpenJ.ngr (h : OpenJ F0 w5 wc g gr n F S s st l lv) : ¬ F gr := fun hk => by
  rcases (h.hF gr hk).1 with h1 | h1
  · exact h.g0 h1
  · have := h.g5; omega
theorem OpenJ.nob (h : OpenJ F0 w5 wc g gr n F S s st l lv) (hf : Fr Nob wc w') : OpenJ F0 w5 w' g gr n F S s st l lv :=
  ⟨h.gs.nob hf, fun k hk => ⟨(h.hF k hk).1, Nat.lt_of_lt_of_le (h.hF k hk).2 hf.size⟩, h.fr.trans0 hf, h.rs.nob hf, h.row.nob hf, fun k hk => ⟨(h.sd k hk).1, (h.sd k hk).2.1, Nat.lt_of_lt_of_le (h.sd k hk).2.2 hf.size⟩, h.g0, h.g5⟩
theorem OpenJ.prog (h : OpenJ F0 w5 wc g gr n F S s st l lv) (ht : GsTo wc g F s' w') : OpenJ F0 w5 w' g gr n (Ext F wc w') S s' st l lv := by
  refine ⟨ht.1, fun k hk => ?_, h.fr.trans ht.2 fun k hk => ?_, Blk.fr h.rs ht.2 h.ngr, h.row.fr ht.2 fun k hk => (h.sd k hk).2.1, fun k hk => ⟨(h.sd k hk).1, fun he => ?_, Nat.lt_of_lt_of_le (h.sd k hk).2.2 ht.2.size⟩, h.g0, h.g5⟩
  · rcases hk with hk | hk
    · exact ⟨(h.hF k hk).1, Nat.lt_of_lt_of_le (h.hF k hk).2 ht.2.size⟩
    · exact ⟨.inr (Nat.le_trans h.fr.size hk.1), hk.2⟩
  · rcases (h.hF k hk).1 with h1 | h1
    · exact .inl (.inl h1)
    · exact .inr h1
  · rcases he with he | he
    · exact (h.sd k hk).2.1 he
    · have := (h.sd k hk).2.2; have := he.1; omega
theorem OpenJ.ref (h : OpenJ F0 w5 wc g gr n F S s st l lv) (hf : Fr (fun k => k = gr) wc w') (hr : RSt w' gr st' nilV nilV n lv) : OpenJ F0 w5 w' g gr n F S s st' l lv :=
  ⟨h.gs.fr hf fun k hk e => h.ngr (e ▸ hk), fun k hk => ⟨(h.hF k hk).1, Nat.lt_of_lt_of_le (h.hF k hk).2 hf.size⟩, h.fr.trans hf fun k hk => .inl (.inr hk), hr, h.row.fr hf fun k hk e => by have := (h.sd k hk).1; have := h.g5; omega,
    fun k hk => ⟨(h.sd k hk).1, (h.sd k hk).2.1, Nat.lt_of_lt_of_le (h.sd k hk).2.2 hf.size⟩, h.g0, h.g5⟩
theorem OpenJ.rq (h : OpenJ F0 w5 wc g gr n F S s st l lv) : Rq wc S gr 26 lv n l :=
  ⟨h.rs.cells.cell 26, h.rs.cells.cell 27, h.rs.cells.free 27, h.row, fun hk => by have := (h.sd gr hk).1; have := h.g5; omega⟩
theorem OpenJ.mv (h : OpenJ F0 w5 wc g gr n F S s st l lv) (ht : RqTo wc S gr 26 l' w') : ∃ S' lv', OpenJ F0 w5 w' g gr n F S' s st l' lv' := by
  obtain ⟨v', w1, h1, rfl, h3⟩ := ht
  have hf2 : Fr (fun k => k = gr) w1 (w1.setCell ⟨gr, 27, none⟩ v') := (Fr.refl (fun k => k = gr) w1).setCell (p := ⟨gr, 27, none⟩) (.inl rfl) v'
  have hj := h.nob h1
  have hb : Blk (w1.setCell ⟨gr, 27, none⟩ v') gr #[.int .i64 st.ctm.a, .int .i64 st.ctm.b, .int .i64 st.ctm.c, .int .i64 st.ctm.d, .int .i64 st.ctm.e, .int .i64 st.ctm.f, .int .i64 st.col.sp, .int .i64 st.col.p0, .int .i64 st.col.p1, .int .i64 st.col.p2, .int .i64 st.col.p3, .int .i64 st.width, .int .i64 st.cap, .int .i64 st.join, .int .i64 st.miter, nilV, .int .i64 st.phase, .int .i64 st.font, .int .i64 st.fm.a, .int .i64 st.fm.b, .int .i64 st.fm.c, .int .i64 st.fm.d, .int .i64 st.fm.e, .int .i64 st.fm.f, nilV, .bool st.dark, .int .i64 n, v'] 63 := hj.rs.cells.set 27 v'
  have hng : ¬ (S gr ∨ Bt wc w1 gr) := by
    rintro (hk | hk)
    · have := (h.sd gr hk).1; have := h.g5; omega
    · have := hk.1; have := h.g5; have := h.fr.size; omega
  refine ⟨fun k => S k ∨ Bt wc w1 k, v', hj.gs.fr hf2 fun k hk e => h.ngr (e ▸ hk), fun k hk => ⟨(h.hF k hk).1, Nat.lt_of_lt_of_le (hj.hF k hk).2 hf2.size⟩, hj.fr.trans hf2 fun k hk => .inl (.inr hk), hb, h3.fr hf2 fun k hk e => hng (e ▸ hk), fun k hk => ?_, h.g0, h.g5⟩
  rcases hk with hk | hk
  · exact ⟨(h.sd k hk).1, (h.sd k hk).2.1, Nat.lt_of_lt_of_le (hj.sd k hk).2.2 hf2.size⟩
  · exact ⟨Nat.le_trans h.fr.size hk.1, fun hF => by have := (h.hF k hF).2; have := hk.1; omega, Nat.lt_of_lt_of_le hk.2 hf2.size⟩
end
/-- What 'open' answers lies so. -/
structure OpenR (w w' : World) (g c : Nat) (F S : Nat → Prop) (s : GS) (lv : Value) : Prop where
  gs : Gs w' g F s
  hF : ∀ k, F k → w.heap.size ≤ k ∧ k < w'.heap.size ∧ k ≠ c ∧ ¬ S k
  cb : Blk w' c #[.int .i64 6553600, .int .i64 6553600, .slice none 0 0, .int .i64 2, .slice none 0 0] 103
  c0 : w.heap.size ≤ c
  row : RowIn w' S 7 lv s.cur.p.list.length (encSs s.cur.p.list)
  s0 : ∀ k, S k → w.heap.size ≤ k
  f : Fr Nob w w'
theorem OpenR.nob {w w' w'' : World} {g c : Nat} {F S : Nat → Prop} {s : GS} {lv : Value} (h : OpenR w w' g c F S s lv) (hf : Fr Nob w' w'') : OpenR w w'' g c F S s lv :=
  ⟨h.gs.nob hf, fun k hk => ⟨(h.hF k hk).1, Nat.lt_of_lt_of_le (h.hF k hk).2.1 hf.size, (h.hF k hk).2.2⟩, h.cb.nob hf, h.c0, h.row.nob hf, h.s0, h.f.trans0 hf⟩
theorem SB.oM {k : Nat} {s : GS} (t : T16) (h : SB k s) : SB k (oM t s) := ⟨h.st.of (matrixF_same _ _).1 (matrixF_same _ _).2, h.ps, h.v, h.n, h.m, h.sg⟩
theorem SB.oF {k : Nat} {s : GS} (t : T16) (h : SB k s) : SB k (oF t s) := ⟨h.st.of (fontF_same _ _ _).1 (fontF_same _ _ _).2, h.ps, h.v, h.n, h.m, h.sg⟩
theorem SB.oD {k : Nat} {s : GS} (t : T16) (h : SB k s) : SB k (oD t s) := by
  unfold YtkkejjfmidgciaaDoor.oD
  split
  · exact ⟨h.st.of rfl rfl, h.ps, h.v, h.n, h.m, h.sg⟩
  · exact h
theorem SB.oP {k : Nat} {s : GS} (t : T16) (h : SB k s) : SB k (oP t s) := by
  unfold YtkkejjfmidgciaaDoor.oP
  split
  · exact ⟨h.st, h.ps.move _, h.v, h.n, h.m, h.sg⟩
  · exact h
theorem tN_bd (t : T16) (h : 0 ≤ t.segs ∧ t.segs ≤ 255) : 1 ≤ tN t ∧ tN t ≤ 10 := by unfold tN; omega
theorem SB.openS (t : T16) (h : 0 ≤ t.segs ∧ t.segs ≤ 255) : SB 0 (openS t) := by
  have := tN_bd t h
  exact (((((SB.new 2 (tN t) (by omega) (by omega)).oM t).oF t).oD t).oP t)
end Go.Proofs.YtkkejjfmidgciaaDoor
/- More on regions that draw their order: an operation that is guarded and comes up alone. No program, no conditions. -/
namespace Go.Proofs.YtkkejjfmidgciaaDoor
open Go.RowKit
set_option linter.unusedVariables false
set_option linter.unusedSimpArgs false
/-- The same where the operation is guarded, and its guard says yes. -/
theorem held_oneG {P : Program} {md : Region.Mode} {ops : Array Oper} {Q : Exit → Act → World → Prop} {S : World → Prop} {fuel : Nat} {listed : Array Bool} {a : Act} {w : World} (i : Nat) {o : Oper} (ho : ops[i]? = some o) (hr : Region.ready md ops listed = [i]) (hg : Region.wanted o (yielded ops a.tmps) = true)
    (h : ∀ K : Act → World → Prop, (∀ a w, S w → wpAnyH P md ops Q S fuel (listed.setIfInBounds i true) a w → K a w) → Oper.wp P o a w K Q) : wpAnyH P md ops Q S (fuel + 1) listed a w := by
  refine wpAnyH_all hr (by simp) fun j hj => ?_
  rw [List.mem_singleton] at hj
  subst hj
  unfold wpOp
  rw [ho]
  simp only [hg, if_true]
  exact .inl (h _ fun a w h1 h2 => ⟨h1, h2⟩)
end Go.Proofs.YtkkejjfmidgciaaDoor
