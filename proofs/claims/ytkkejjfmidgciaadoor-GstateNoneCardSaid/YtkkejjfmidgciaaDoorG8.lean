/-
  A level more is saved: how states lie then. No walk.
-/
import Derived.Test.YtkkejjfmidgciaaDoorG7
import Derived.Test.YtkkejjfmidgciaaDoorStep
namespace Go.Proofs.YtkkejjfmidgciaaDoor
open Go.RowKit
set_option linter.unusedVariables false
set_option linter.unusedSimpArgs false
theorem encLs_append (a b : List (Lv × LvG)) : encLs (a ++ b) = encLs a ++ encLs b := by simp [encLs]
theorem encLs_one (a : Lv × LvG) : encLs [a] = encL a.1 a.2 := by simp [encLs]
theorem encL_len (l : Lv) (x : LvG) : (encL l x).length = 27 := rfl
theorem encLs_len (xs : List (Lv × LvG)) : (encLs xs).length = xs.length * 27 := by
  induction xs with
  | nil => rfl
  | cons a r ih => rw [show encLs (a :: r) = encL a.1 a.2 ++ encLs r from rfl, List.length_append, ih, encL_len, List.length_cons]; omega
theorem encLs_at (xs : List (Lv × LvG)) (k : Nat) (hk : k < xs.length) : ((encLs xs).drop (k * 27)).take 27 = encL xs[k].1 xs[k].2 := by
  induction xs generalizing k with
  | nil => simp at hk
  | cons a r ih =>
    rw [show encLs (a :: r) = encL a.1 a.2 ++ encLs r from rfl]
    cases k with
    | zero => rw [Nat.zero_mul, List.drop_zero, List.take_append_of_le_length (by rw [encL_len]; exact Nat.le_refl _), List.take_of_length_le (by rw [encL_len]; exact Nat.le_refl _)]; rfl
    | succ k =>
      rw [List.drop_append, List.drop_of_length_le (by rw [encL_len]; omega), encL_len, List.nil_append, show (k + 1) * 27 - 27 = k * 27 by omega]
      exact ih k (by simpa using hk)
theorem encLs_take (xs : List (Lv × LvG)) (k : Nat) (hk : k ≤ xs.length) : (encLs xs).take (k * 27) = encLs (xs.take k) := by
  conv => lhs; rw [← List.take_append_drop k xs, encLs_append]
  rw [List.take_append_of_le_length (by rw [encLs_len, List.length_take]; omega), List.take_of_length_le (by rw [encLs_len, List.length_take]; omega)]
theorem GsX.len {w : World} {g : Nat} {F : Nat → Prop} {s : GS} {lab : Nat → Nat} {x : LvG} {sv : Value} {xs : List (Lv × LvG)} (h : GsX w g F s lab x sv xs) : xs.length = s.saved.length := by rw [← h.l, List.length_map]
/-- The list of what is saved does not lie where the states do. -/
theorem GsX.ne {w : World} {g : Nat} {F : Nat → Prop} {s : GS} {lab : Nat → Nat} {x : LvG} {sv : Value} {xs : List (Lv × LvG)} (h : GsX w g F s lab x sv xs) : ¬ inB sv g := fun e => h.o.ne h.b (by decide) g e rfl
/-- One level more. -/
theorem GsX.push {w w1 w4 w5 : World} {g : Nat} {F : Nat → Prop} {s : GS} {lab : Nat → Nat} {x x' : LvG} {sv v' : Value} {xs : List (Lv × LvG)} {l : Lv} {m : Nat} (h : GsX w g F s lab x sv xs) (hN : LvNew w w1 l x' m) (o : Obj)
    (hf4 : Fr (inB sv) (w1.alloc o) w4) (hO : OwnS w4 121 27 v' (xs.length + 1) (encLs xs ++ encL l x')) (hat : v'.ownBlock = sv.ownBlock ∨ v'.ownBlock = some (w1.alloc o).heap.size) (hf5 : Fr (fun k => k = g) w4 w5)
    (hb : Blk w5 g #[.int .i64 s.cur.st.ctm.a, .int .i64 s.cur.st.ctm.b, .int .i64 s.cur.st.ctm.c, .int .i64 s.cur.st.ctm.d, .int .i64 s.cur.st.ctm.e, .int .i64 s.cur.st.ctm.f, .int .i64 s.cur.st.col.sp, .int .i64 s.cur.st.col.p0, .int .i64 s.cur.st.col.p1, .int .i64 s.cur.st.col.p2, .int .i64 s.cur.st.col.p3, .int .i64 s.cur.st.width, .int .i64 s.cur.st.cap, .int .i64 s.cur.st.join, .int .i64 s.cur.st.miter, x.dv, .int .i64 s.cur.st.phase, .int .i64 s.cur.st.font, .int .i64 s.cur.st.fm.a, .int .i64 s.cur.st.fm.b, .int .i64 s.cur.st.fm.c, .int .i64 s.cur.st.fm.d, .int .i64 s.cur.st.fm.e, .int .i64 s.cur.st.fm.f, x.cv, .bool s.cur.st.dark, .pointer (some ⟨x.pg, 0, none⟩), .int .i64 s.most, .int .i64 s.segs, v'] 124) : GsTo w g F { s with saved := s.saved ++ [l] } w5 := by
  have hfa : Fr Nob w (w1.alloc o) := hN.f.alloc _
  have hf5' : Fr (fun k => k = g ∨ inB sv k) w w5 := (hfa.mono (fun _ hh => hh.elim)).trans ((hf4.mono (T := fun k => k = g ∨ inB sv k) fun k hk => .inr hk).trans (hf5.mono (T := fun k => k = g ∨ inB sv k) fun k hk => .inl hk) fun k hk => .inl hk) fun k hk => .inl hk
  have h2 := h.lab (F' := Ext F w w5) (fun k => if k < w.heap.size then lab k else if k < m then 0 else if k < w1.heap.size then xs.length + 3 else 1) (fun k hk _ => .inl hk) fun k hk => by simp [hk]
  have hlt : ∀ k, k = g ∨ inB sv k → k < w.heap.size := fun k hk => hk.elim (fun e => e ▸ h.b.lt) fun e => h.o.lt k e
  have hlab : ∀ k, k = g ∨ inB sv k → (if k < w.heap.size then lab k else if k < m then 0 else if k < w1.heap.size then xs.length + 3 else 1) = 1 := fun k hk => by
    rw [if_pos (hlt k hk)]
    rcases hk with rfl | e
    · exact h.g1.2
    · exact (h.o1 k e).2
  have hz1 := hN.f.size
  have hz2 : (w1.alloc o).heap.size = w1.heap.size + 1 := by simp
  have hz4 := hf4.size
  have hz5 := hf5.size
  have hlo := hN.lo
  have hhi := hN.hi
  refine ⟨⟨fun k => if k < w.heap.size then lab k else if k < m then 0 else if k < w1.heap.size then xs.length + 3 else 1, x, v', xs ++ [(l, x')], by simp [h.l], hb, h2.g1, ?_, ?_, ?_, ?_⟩, hf5'.mono ?_⟩
  · have hgv : ∀ k, v'.ownBlock = some k → ¬ k = g := fun k hk e => by
      rcases hat with e1 | e1
      · rw [e1] at hk; exact h.ne (e ▸ hk)
      · rw [e1] at hk; cases hk; have := h.b.lt; omega
    have := hO.fr hf5 hgv
    rw [encLs_append, encLs_one, List.length_append]
    exact this
  · intro k hk
    rcases hat with e1 | e1
    · rw [e1] at hk; exact ⟨.inl (h.o1 k hk).1, hlab k (.inr hk)⟩
    · have hk0 := hk
      rw [e1] at hk; cases hk
      refine ⟨.inr ⟨by omega, by have := hO.lt _ hk0; omega⟩, ?_⟩
      rw [if_neg (by omega), if_neg (by omega), if_neg (by omega)]
  · refine h2.c.fr hf5' (fun k hk e => ?_) fun k hk e => ?_
    · have := hk.2; rw [hlab k e] at this; omega
    · have := hk.2; rw [hlab k e] at this; omega
  · intro i hi
    rw [List.length_append] at hi
    by_cases hix : i < xs.length
    · rw [List.getElem_append_left hix]
      refine (h2.s i hix).fr hf5' (fun k hk e => ?_) fun k hk e => ?_
      · have := hk.2; rw [hlab k e] at this; omega
      · have := hk.2; rw [hlab k e] at this; omega
    · obtain rfl : i = xs.length := by simp at hi; omega
      rw [List.getElem_append_right (Nat.le_refl _)]
      simp only [Nat.sub_self, List.getElem_cons_zero]
      have hfz : Fr (fun k => k = g ∨ inB sv k) w1 w5 := ((Fr.refl (fun k => k = g ∨ inB sv k) w1).alloc o).trans ((hf4.mono (T := fun k => k = g ∨ inB sv k) fun k hk => .inr hk).trans (hf5.mono (T := fun k => k = g ∨ inB sv k) fun k hk => .inl hk) fun k hk => .inl hk) fun k hk => .inl hk
      have hp := hN.p.lt
      refine ⟨(hN.g.fr hfz fun k hk e => ?_).mono fun k hk => ⟨.inr ⟨hk.1, by omega⟩, ?_⟩, hN.p.fr hfz fun k hk e => ?_, fun k hk => ⟨.inr ⟨?_, ?_⟩, ?_⟩⟩
      · have := hlt k e; omega
      · rw [if_neg (by omega), if_pos hk.2]
      · have := hlt k e; have := hN.b k hk; omega
      · have := hN.b k hk; omega
      · have := hp k hk; omega
      · have h1 := hN.b k hk; have h3 := hp k hk
        rw [if_neg (by omega), if_neg (by omega), if_pos (by omega)]
  · intro k hk
    rcases hk with rfl | e
    · exact h.g1.1
    · exact (h.o1 k e).1
end Go.Proofs.YtkkejjfmidgciaaDoor
