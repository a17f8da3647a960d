/-
  How states lie behind a change: labels anew, fields anew. No walk.
-/
import Derived.Test.YtkkejjfmidgciaaDoorG6
namespace Go.Proofs.YtkkejjfmidgciaaDoor
open Go.RowKit
set_option linter.unusedVariables false
set_option linter.unusedSimpArgs false
theorem LvIn.lab {w : World} {F F' : Nat → Prop} {lab lab' : Nat → Nat} {n : Nat} {l : Lv} {x : LvG} (h : LvIn w (fun k => F k ∧ lab k = 0) (fun k => F k ∧ lab k = n) l x) (hF : ∀ k, F k → k < w.heap.size → F' k) (hL : ∀ k, k < w.heap.size → lab' k = lab k) :
    LvIn w (fun k => F' k ∧ lab' k = 0) (fun k => F' k ∧ lab' k = n) l x :=
  h.lts.mono (fun k hk => ⟨hF k hk.1.1 hk.2, by rw [hL k hk.2]; exact hk.1.2⟩) fun k hk _ => ⟨hF k hk.1.1 hk.2, by rw [hL k hk.2]; exact hk.1.2⟩
/-- Blocks that are not there may be told anew. -/
theorem GsX.lab {w : World} {g : Nat} {F F' : Nat → Prop} {s : GS} {lab : Nat → Nat} {x : LvG} {sv : Value} {xs : List (Lv × LvG)} (h : GsX w g F s lab x sv xs) (lab' : Nat → Nat) (hF : ∀ k, F k → k < w.heap.size → F' k) (hL : ∀ k, k < w.heap.size → lab' k = lab k) :
    GsX w g F' s lab' x sv xs :=
  ⟨h.l, h.b, ⟨hF g h.g1.1 h.b.lt, by rw [hL g h.b.lt]; exact h.g1.2⟩, h.o, fun k hk => ⟨hF k (h.o1 k hk).1 (h.o.lt k hk), by rw [hL k (h.o.lt k hk)]; exact (h.o1 k hk).2⟩, h.c.lab hF hL, fun i hi => (h.s i hi).lab hF hL⟩
/-- The state that is has other fields. -/
theorem GsX.upd {w w' : World} {g : Nat} {F : Nat → Prop} {s : GS} {lab : Nat → Nat} {x : LvG} {sv : Value} {xs : List (Lv × LvG)} (h : GsX w g F s lab x sv xs) (st : Gst) (dv cv : Value)
    (hb : Blk w' g #[.int .i64 st.ctm.a, .int .i64 st.ctm.b, .int .i64 st.ctm.c, .int .i64 st.ctm.d, .int .i64 st.ctm.e, .int .i64 st.ctm.f, .int .i64 st.col.sp, .int .i64 st.col.p0, .int .i64 st.col.p1, .int .i64 st.col.p2, .int .i64 st.col.p3, .int .i64 st.width, .int .i64 st.cap, .int .i64 st.join, .int .i64 st.miter, dv, .int .i64 st.phase, .int .i64 st.font, .int .i64 st.fm.a, .int .i64 st.fm.b, .int .i64 st.fm.c, .int .i64 st.fm.d, .int .i64 st.fm.e, .int .i64 st.fm.f, cv, .bool st.dark, .pointer (some ⟨x.pg, 0, none⟩), .int .i64 s.most, .int .i64 s.segs, sv] 124) (hf : Fr (fun k => k = g) w w') (hG : GIn w' (fun k => F k ∧ lab k = 0) dv cv st) :
    GsX w' g F { s with cur := { s.cur with st := st } } lab { x with dv := dv, cv := cv } sv xs :=
  ⟨h.l, hb, h.g1, h.o.fr hf fun k hk e => h.o.ne h.b (by decide) k hk e, h.o1,
    ⟨hG, h.c.p.fr hf fun k hk e => by have := (h.c.b k hk).2; rw [e, h.g1.2] at this; omega, h.c.b⟩,
    fun i hi => (h.s i hi).fr hf (fun k hk e => by have := hk.2; rw [e, h.g1.2] at this; omega) fun k hk e => by have := hk.2; rw [e, h.g1.2] at this; omega⟩
/-- What is in memory of the state that is, once the states' block is written. -/
theorem GsX.gin {w w' : World} {g : Nat} {F : Nat → Prop} {s : GS} {lab : Nat → Nat} {x : LvG} {sv : Value} {xs : List (Lv × LvG)} (h : GsX w g F s lab x sv xs) (hf : Fr (fun k => k = g) w w') : GIn w' (fun k => F k ∧ lab k = 0) x.dv x.cv s.cur.st :=
  h.c.g.fr hf fun k hk e => by have := hk.2; rw [e, h.g1.2] at this; omega
/-- The path that is has gone a step. -/
theorem GsX.path {w w' : World} {g : Nat} {F : Nat → Prop} {s : GS} {lab : Nat → Nat} {x : LvG} {sv : Value} {xs : List (Lv × LvG)} (h : GsX w g F s lab x sv xs) (p' : PS) (ht : PthTo w x.pg x.pv p' w') : GsTo w g F { s with cur := { s.cur with p := p' } } w' := by
  obtain ⟨v', hp, hf, hv⟩ := ht
  have h2 := h.lab (F' := Ext F w w') (fun k => if k < w.heap.size then lab k else 2) (fun k hk _ => .inl hk) fun k hk => by simp [hk]
  have hfp : ∀ k, ptB x.pg x.pv k → (if k < w.heap.size then lab k else 2) = 2 := fun k hk => by rw [if_pos (h.c.p.lt k hk)]; exact (h.c.b k hk).2
  refine ⟨⟨_, { x with pv := v' }, sv, xs, h.l, h.b.fr hf fun hk => ?_, h2.g1, h.o.fr hf fun k hk hp => ?_, h2.o1, ⟨h2.c.g.fr hf fun k hk hp => ?_, hp, ?_⟩, fun i hi => (h2.s i hi).fr hf (fun k hk hp => ?_) fun k hk hp => ?_⟩, hf.mono fun k hk => (h.c.b k hk).1⟩
  · have := (h.c.b g hk).2; rw [h.g1.2] at this; omega
  · have := (h.c.b k hp).2; rw [(h.o1 k hk).2] at this; omega
  · have := hfp k hp; have h3 := hk.2; omega
  · rintro k (rfl | hk)
    · exact h2.c.b _ (.inl rfl)
    · rcases hv k hk with e | e
      · exact h2.c.b k (.inr e)
      · exact ⟨.inr ⟨e, hp.lt k (.inr hk)⟩, by simp; intro h; omega⟩
  · have := hfp k hp; have h3 := hk.2; omega
  · have := hfp k hp; have h3 := hk.2; omega
end Go.Proofs.YtkkejjfmidgciaaDoor
