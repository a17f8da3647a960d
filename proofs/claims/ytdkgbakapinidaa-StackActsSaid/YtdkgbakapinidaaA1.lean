/-
  What StackActs is handed: calls; plain laws of its roll; the state of its loop. No walk.
-/
import Derived.Test.YtdkgbakapinidaaK2
import Derived.Test.YtdkgbakapinidaaS9
import Derived.Test.YtdkgbakapinidaaStep
import Derived.Deep.CutBlock
import Derived.Deep.RegionHeld3
namespace Go.Proofs.Ytdkgbakapinidaa
open Go.RowKit
set_option linter.unusedVariables false
set_option linter.unusedSimpArgs false
structure Act7 where
  d : Int
  n : Int
  j : Int
  l : List Ob
  ks : List Int
/-- The cells of a call; lv, kv: its objects, its kinds. -/
def encA (a : Act7 × Value × Value) : List Value := [.int .i64 a.1.d, .int .i64 a.1.n, .int .i64 a.1.j, a.2.1, a.2.2]
theorem cells35 : Try.prog.cellsOf 35 = 5 := by kernel_rfl
theorem cells3 : Try.prog.cellsOf 3 = 1 := by kernel_rfl
structure ActR (w : World) (a : Act7 × Value × Value) : Prop where
  l : RowIn w (Lt w) 8 a.2.1 a.1.l.length (encs a.1.l)
  ks : RowIn w (Lt w) 1 a.2.2 a.1.ks.length (ints a.1.ks)
  j : -9223372036854775808 ≤ a.1.j ∧ a.1.j ≤ 9223372036854775807
theorem read_act {H : Type} {enc' : TypeId × Value → H} {w : World} {base : Nat} {spare : Nat → Bool} {held : Bool} (n : Nat) (cs : List Value) (y : DataW H × List MemPlace)
    (h : DataW.trod enc' Try.prog w base spare held n 35 cs = some y) : ∃ a : Act7 × Value × Value, cs = encA a ∧ ActR w a := by
  obtain ⟨xs, n, _, rfl, hl, hlen, hf⟩ := DataW.trod_struct Try.underlying35 h
  rw [cells35] at hl
  have hx : xs.length = 5 := hlen
  have e22 : Try.prog.cellsOf 22 = 1 := by kernel_rfl
  have e33 : Try.prog.cellsOf 33 = 1 := by kernel_rfl
  obtain ⟨z0, h0, _⟩ := field_int (hf 0 _ rfl) (by omega) Try.underlying3 cells3
  obtain ⟨z1, h1, _⟩ := field_int (hf 1 _ rfl) (by omega) Try.underlying3 cells3
  obtain ⟨z2, h2, w2⟩ := field_int (hf 2 _ rfl) (by omega) Try.underlying3 cells3
  have h3 : DataW.trod enc' Try.prog w base spare held n 22 [cs[3]'(by omega)] = some xs[3] := field_one (hf 3 _ rfl) (by omega) (by omega : 3 < cs.length) e22
  have h4 : DataW.trod enc' Try.prog w base spare held n 33 [cs[4]'(by omega)] = some xs[4] := field_one (hf 4 _ rfl) (by omega) (by omega : 4 < cs.length) e33
  obtain ⟨l, hl3⟩ := read_obs h3
  obtain ⟨ks, hl4⟩ := read_ints h4
  obtain ⟨c0, c1, c2, c3, c4, rfl⟩ : ∃ c0 c1 c2 c3 c4, cs = [c0, c1, c2, c3, c4] := by
    match cs, hl with
    | [c0, c1, c2, c3, c4], _ => exact ⟨c0, c1, c2, c3, c4, rfl⟩
  simp at h0 h1 h2
  exact ⟨(⟨z0, z1, z2, l, ks⟩, c3, c4), by simp [encA, h0, h1, h2], hl3, hl4, wf64 w2⟩
/-- Calls that the law is handed, in memory that is never written. -/
def ActsIn (w : World) (v : Value) (ac : List (Act7 × Value × Value)) : Prop :=
  RowIn w (Lt w) 5 v ac.length (ac.flatMap encA) ∧ ∀ a ∈ ac, ActR w a
theorem read_acts {H : Type} {enc' : TypeId × Value → H} {w : World} {base : Nat} {spare : Nat → Bool} {held : Bool} {fuel : Nat} {v : Value} {x : DataW H × List MemPlace}
    (h : DataW.trod enc' Try.prog w base spare held fuel 32 [v] = some x) : ∃ ac : List (Act7 × Value × Value), ActsIn w v ac := by
  obtain ⟨xs, h1, h2⟩ := read_slice Try.underlying32 5 cells35 (by omega) (fun (a : Act7 × Value × Value) cs => cs = encA a ∧ ActR w a) (fun n cs y h => read_act n cs y h) h
  have e : xs.flatMap (·.2) = (xs.map (·.1)).flatMap encA := by
    clear h1
    induction xs with
    | nil => rfl
    | cons a r ih => rw [List.flatMap_cons, List.map_cons, List.flatMap_cons, (h2 a (by simp)).1.1, ih fun y hy => h2 y (by simp [hy])]
  rw [e] at h1
  refine ⟨xs.map (·.1), by simpa using h1, fun a ha => ?_⟩
  obtain ⟨y, hy, rfl⟩ := List.mem_map.1 ha
  exact (h2 y hy).1.2
theorem ActsIn.cells {w : World} {v : Value} {ac : List (Act7 × Value × Value)} (h : ActsIn w v ac) :
    ∃ A cap, v = .slice A ac.length cap ∧ ac.length ≤ cap ∧ cap ≤ 9223372036854775807 ∧ ∀ k (hk : k < ac.length), ∃ b off, A = some ⟨b, off, none⟩ ∧ b < w.heap.size ∧ ∀ j, j < 5 → w.cell? ⟨b, off + k * 5 + j, none⟩ = (encA ac[k])[j]? := by
  by_cases h0 : 0 < ac.length
  · have hl : (ac.flatMap encA).length = ac.length * 5 := flat_len encA 5 ac fun _ _ => rfl
    obtain ⟨b, off, cap, hv, h1, h2, hb, hc⟩ := h.1.pos (by omega)
    refine ⟨_, cap, hv, h1, h2, fun k hk => ⟨b, off, rfl, hb, fun j hj => ?_⟩⟩
    have e := flat_at encA 5 ac (fun _ _ => rfl) k j hk hj
    have hlt : j < (encA ac[k]).length := hj
    rw [Nat.add_assoc, List.getElem?_eq_getElem hlt]
    exact hc (k * 5 + j) _ (by rw [e, List.getElem?_eq_getElem hlt])
  · obtain ⟨_, A, cap, hv, h1, h2, _⟩ := h.1
    exact ⟨A, cap, hv, h1, by unfold maxLen at h2; omega, fun k hk => by omega⟩
/-! The law's roll, place by place. -/
structure RollAt (m : List Ob) (N J k : Nat) (x : List Ob) : Prop where
  len : x.length = m.length
  low : ∀ i, i < m.length - N → x[i]? = m[i]?
  top : ∀ i, i < k → x[m.length - N + (i + J) % N]? = m[m.length - N + i]?
theorem RollAt.start (m : List Ob) (N J : Nat) : RollAt m N J 0 m := ⟨rfl, fun _ _ => rfl, fun i hi => by omega⟩
theorem RollAt.step {m x : List Ob} {N J k : Nat} (h : RollAt m N J k x) (hN : N ≤ m.length) (hk : k < N) (hm : m.length - N + k < m.length) : RollAt m N J (k + 1) (x.set (m.length - N + (k + J) % N) m[m.length - N + k]) := by
  have hlt := Nat.mod_lt (k + J) (show 0 < N by omega)
  refine ⟨by rw [List.length_set]; exact h.len, fun i hi => ?_, fun i hi => ?_⟩
  · rw [List.getElem?_set_ne (by omega)]
    exact h.low i hi
  · by_cases e : i = k
    · subst e
      rw [List.getElem?_set_self (by rw [h.len]; omega), List.getElem?_eq_getElem hm]
    · have hi' : i < k := by omega
      rw [List.getElem?_set_ne fun e2 => ?_]
      · exact h.top i hi'
      · have e3 : (k + J) % N = (i + J) % N := by omega
        have h1 := Nat.div_add_mod (k + J) N
        have h2 := Nat.div_add_mod (i + J) N
        have h3 : N * ((k + J) / N) = N * ((i + J) / N) + (k - i) := by omega
        have h4 : (i + J) / N ≤ (k + J) / N := Nat.div_le_div_right (by omega)
        obtain ⟨d, hd⟩ : ∃ d, (k + J) / N = (i + J) / N + d := ⟨_, (Nat.add_sub_cancel' h4).symm⟩
        rw [hd, Nat.mul_add] at h3
        rcases Nat.eq_zero_or_pos d with rfl | hd0
        · omega
        · have := Nat.le_mul_of_pos_right N hd0; omega
theorem RollAt.done {m x : List Ob} {N J : Nat} (h : RollAt m N J N x) (hN : N ≤ m.length) (hJ : J < N) : x = rollF m N J := by
  apply List.ext_getElem?
  intro i
  by_cases hi : i < m.length - N
  · rw [h.low i hi]
    unfold rollF
    rw [List.getElem?_append_left (by simp; omega), List.getElem?_take_of_lt hi]
  · by_cases hi2 : i < m.length
    · -- i = len - N + q
      obtain ⟨q, rfl⟩ : ∃ q, i = m.length - N + q := ⟨i - (m.length - N), by omega⟩
      have hq : q < N := by omega
      unfold rollF
      have hl1 : (m.take (m.length - N)).length = m.length - N := by simp
      rw [List.getElem?_append_right (by rw [hl1]; omega), hl1, Nat.add_sub_cancel_left]
      have hl2 : ((m.drop (m.length - N)).drop (N - J)).length = J := by simp; omega
      by_cases hqJ : q < J
      · -- comes from place q + N - J
        have := h.top (q + N - J) (by omega)
        have e : (q + N - J + J) % N = q := by rw [show q + N - J + J = q + N by omega, Nat.add_mod_right, Nat.mod_eq_of_lt hq]
        rw [e] at this
        rw [this, List.getElem?_append_left (by rw [hl2]; exact hqJ), List.getElem?_drop, List.getElem?_drop]
        congr 1; omega
      · have := h.top (q - J) (by omega)
        have e : (q - J + J) % N = q := by rw [show q - J + J = q by omega, Nat.mod_eq_of_lt hq]
        rw [e] at this
        rw [this, List.getElem?_append_right (by rw [hl2]; omega), hl2, List.getElem?_take_of_lt (by omega), List.getElem?_drop]
    · rw [List.getElem?_eq_none (by rw [h.len]; omega), List.getElem?_eq_none (by rw [rollF_len _ _ _ hN]; omega)]
/-- The same where the operation is guarded, and its guard says yes. -/
theorem held_oneG {P : Program} {md : Region.Mode} {ops : Array Oper} {Q : Exit → Act → World → Prop} {S : World → Prop} {fuel : Nat} {listed : Array Bool} {a : Act} {w : World} (i : Nat) {o : Oper} (ho : ops[i]? = some o) (hr : Region.ready md ops listed = [i]) (hg : Region.wanted o (yielded ops a.tmps) = true)
    (h : ∀ K : Act → World → Prop, (∀ a w, S w → wpAnyH P md ops Q S fuel (listed.setIfInBounds i true) a w → K a w) → Oper.wp P o a w K Q) : wpAnyH P md ops Q S (fuel + 1) listed a w := by
  refine wpAnyH_all hr (by simp) fun j hj => ?_
  rw [List.mem_singleton] at hj
  subst hj
  unfold wpOp
  rw [ho]
  simp only [hg, if_true]
  exact .inl (h _ fun a w h1 h2 => ⟨h1, h2⟩)
/-! The state of the law's loop. -/
structure ActsS (w wr : World) (g : Nat) (v : Value) (S : Nat → Prop) (most : Int) (mv : Value) (l : List Ob) : Prop where
  s : Stk wr g v most 12 13 l
  g0 : w.heap.size ≤ g
  v0 : NewV w v
  f : Fr Nob w wr
  m : RowIn wr S 8 mv l.length (encs l)
  d : ∀ k, S k → k < wr.heap.size ∧ ¬ stB g v k
theorem ActsS.nob {w wr w' : World} {g : Nat} {v : Value} {S : Nat → Prop} {most : Int} {mv : Value} {l : List Ob} (h : ActsS w wr g v S most mv l) (hf : Fr Nob wr w') : ActsS w w' g v S most mv l :=
  ⟨h.s.fr hf fun _ _ hh => hh, h.g0, h.v0, h.f.trans0 hf, h.m.fr hf fun _ _ hh => hh, fun k hk => ⟨Nat.lt_of_lt_of_le (h.d k hk).1 hf.size, (h.d k hk).2⟩⟩
/-- A step of the stack: its own list is another one; any list that was there and is none of its is still there. -/
structure StepTo (w wr w' : World) (g : Nat) (v v' : Value) (most : Int) (l' : List Ob) : Prop where
  s : Stk w' g v' most 12 13 l'
  f : Fr (stB g v) wr w'
  n : ∀ b, v'.ownBlock = some b → v.ownBlock = some b ∨ wr.heap.size ≤ b
theorem ActsS.step {w wr w' : World} {g : Nat} {v : Value} {S : Nat → Prop} {most : Int} {mv : Value} {l l' : List Ob} (h : ActsS w wr g v S most mv l) (ht : StkTo wr g v most 12 13 l' w') :
    ∃ v', Stk w' g v' most 12 13 l' ∧ NewV w v' ∧ Fr Nob w w' ∧ RowIn w' S 8 mv l.length (encs l) ∧ Fr (stB g v) wr w' ∧ ∀ T : Nat → Prop, (∀ k, T k → k < wr.heap.size ∧ ¬ stB g v k) → ∀ k, T k → k < w'.heap.size ∧ ¬ stB g v' k := by
  obtain ⟨v', h1, h2, h3⟩ := ht
  refine ⟨v', h1, fun b hb => ?_, h.f.trans h2 fun k hk => ?_, h.m.fr h2 fun k hk hs => (h.d k hk).2 hs, h2, fun T hT k hk => ⟨Nat.lt_of_lt_of_le (hT k hk).1 h2.size, fun hs => ?_⟩⟩
  · rcases h3 b hb with h4 | h4
    · exact h.v0 b h4
    · exact Nat.le_trans h.f.size h4
  · rcases hk with rfl | h4
    · exact .inr h.g0
    · exact .inr (h.v0 k h4)
  · rcases hs with rfl | h4
    · exact (hT k hk).2 (.inl rfl)
    · rcases h3 k h4 with h5 | h5
      · exact (hT k hk).2 (.inr h5)
      · have := (hT k hk).1; omega
/-- What a call leaves: both answer the same, both have the same list. -/
def ActsP (w : World) (g : Nat) (most : Int) (B : Nat) (mv e want got list : Value) (wc : World) : Prop :=
  ∃ (c : Int) (v : Value) (S : Nat → Prop) (l gl : List Ob) (S1 S2 : Nat → Prop), e = .int .i64 c ∧ want = .int .i64 c ∧ ActsS w wc g v S most mv l ∧ l.length ≤ B ∧ RowIn wc S1 8 got gl.length (encs gl) ∧ RowIn wc S2 8 list gl.length (encs gl)
theorem ActsP.none {w wc : World} {g : Nat} {v : Value} {S : Nat → Prop} {most c : Int} {mv : Value} {l : List Ob} {B : Nat} (h : ActsS w wc g v S most mv l) (hl : l.length ≤ B) :
    ActsP w g most B mv (.int .i64 c) (.int .i64 c) (.slice none 0 0) (.slice none 0 0) wc :=
  ⟨c, v, S, l, [], Nob, Nob, rfl, rfl, h, hl, RowIn.nil _ _ _, RowIn.nil _ _ _⟩
end Go.Proofs.Ytdkgbakapinidaa
