/-
  The walk of path.Box.
-/
import Derived.Test.YtkkejjfmidgciaaP11
namespace Go.Proofs.Ytkkejjfmidgciaa
open Go.RowKit
set_option linter.unusedVariables false
set_option linter.unusedSimpArgs false
def minZ (x y : Int) : Int := if y < x then y else x
def maxZ (x y : Int) : Int := if x < y then y else x
theorem run_min_z {P : Program} {w : World} (ts : Array TypeId) (t : TypeId) (k k' : IntKind) (x y : Int) : (Builtin.min_ ts t #[.int k x, .int k' y]).run P w = .ok (.int k (minZ x y)) w := run_min_int2 w ts t k k' x y
theorem run_max_z {P : Program} {w : World} (ts : Array TypeId) (t : TypeId) (k k' : IntKind) (x y : Int) : (Builtin.max_ ts t #[.int k x, .int k' y]).run P w = .ok (.int k (maxZ x y)) w := run_max_int2 w ts t k k' x y
def minP (p q : Pt) : Pt := ⟨minZ p.x q.x, minZ p.y q.y⟩
def maxP (p q : Pt) : Pt := ⟨maxZ p.x q.x, maxZ p.y q.y⟩
def segPts (s : Sg) : List Pt := (pts s).take (ptsK s.kind).toNat
def allPts (l : List Sg) : List Pt := l.flatMap segPts
def loF (l : List Sg) : Pt := (allPts l).foldl minP (l.getD 0 sgZ).a
def hiF (l : List Sg) : Pt := (allPts l).foldl maxP (l.getD 0 sgZ).a
theorem allPts_succ (l : List Sg) (k : Nat) (h : k < l.length) : allPts (l.take (k + 1)) = allPts (l.take k) ++ segPts l[k] := by
  unfold allPts
  rw [List.take_succ_eq_append_getElem h, List.flatMap_append]; simp
theorem fold_more {α β : Type} (f : α → β → α) (a : α) (l : List β) (k : Nat) (h : k < l.length) : (l.take (k + 1)).foldl f a = f ((l.take k).foldl f a) l[k] := by
  rw [List.take_succ_eq_append_getElem h, List.foldl_append]; rfl
theorem results_cct {P : Program} {fn : Func} {p q u : Tmp} {ty : TypeId} (h : fn.results = #[.cell p ty, .cell q ty, .tmp u]) (tmps : Array Value) (w : World) (g g' : Nat) (t : TypeId) (cs cs' : Array Value) (d : TypeDesc)
    (hp : tmps.getD p undef = .pointer (some ⟨g, 0, none⟩)) (hg : Blk w g cs t) (hq : tmps.getD q undef = .pointer (some ⟨g', 0, none⟩)) (hg' : Blk w g' cs' t)
    (hu : P.underlying ty = some d) (hd : (match d with | .struct _ | .array _ _ => true | _ => false) = true) (hi : (P.info? ty).map (·.size) = some cs.size) (hi' : cs'.size = cs.size) :
    (results fn tmps).run P w = .ok (.tuple #[.agg cs, .agg cs', tmps.getD u undef]) w := by
  have hp' : tmps[p]?.getD undef = .pointer (some ⟨g, 0, none⟩) := by simpa using hp
  have hq' : tmps[q]?.getD undef = .pointer (some ⟨g', 0, none⟩) := by simpa using hq
  simp [results, h, hp', hq', asAddr, run_loadVar_row w g t ty cs (0, 0) d hg hu hd hi, run_loadVar_row w g' t ty cs' (0, 0) d hg' hu hd (by rw [hi']; exact hi)]
theorem sgPt {w : World} {g : Nat} {s : Sg} (h : SgAt w g 0 s) (j : Nat) (hj : j < (pts s).length) : w.cell? ⟨g, 1 + j * 2, none⟩ = some (.int .i64 (pts s)[j].x) ∧ w.cell? ⟨g, 1 + j * 2 + 1, none⟩ = some (.int .i64 (pts s)[j].y) := by
  obtain ⟨c0, c1, c2, c3, c4, c5, c6⟩ := h
  have : j = 0 ∨ j = 1 ∨ j = 2 := by simp [pts] at hj; omega
  rcases this with rfl | rfl | rfl
  · exact ⟨c1, c2⟩
  · exact ⟨c3, c4⟩
  · exact ⟨c5, c6⟩
def boxV (l : List Sg) : Value := if SoundP l ∧ l ≠ [] then .tuple #[ptV (loF l), ptV (hiF l), .bool true] else .tuple #[ptV oo, ptV oo, .bool false]
theorem box_none (v : Value) (l : List Sg) (S : Nat → Prop) (w : World) (h : RowIn w S 7 v l.length (encSs l)) (hn : ¬ (SoundP l ∧ l ≠ [])) :
    Calls Try.prog 18 #[v] w fun e w' => e = .returned (boxV l) ∧ Fr Nob w w' := by
  rw [show boxV l = .tuple #[ptV oo, ptV oo, .bool false] by simp only [boxV, if_neg hn]]
  obtain ⟨wa, hwa⟩ : ∃ wa, (w.alloc (.cells #[.int .i64 0, .int .i64 0] 23)).alloc (.cells #[.int .i64 0, .int .i64 0] 23) = wa := ⟨_, rfl⟩
  have b1 : Blk wa w.heap.size #[.int .i64 0, .int .i64 0] 23 := by rw [← hwa]; exact (Blk.new w _ _).alloc _
  have b2 : Blk wa (w.heap.size + 1) #[.int .i64 0, .int .i64 0] 23 := by
    have := Blk.new (w.alloc (.cells #[.int .i64 0, .int .i64 0] 23)) #[.int .i64 0, .int .i64 0] 23
    rw [← hwa]; simpa using this
  have hf : Fr Nob w wa := by rw [← hwa]; exact ((Fr.refl Nob w).alloc _).alloc _
  have HW := Lib.hid hwa
  have B1 := Lib.hid b1
  have B2 := Lib.hid b2
  have HF := Lib.hid hf
  have HX := Lib.hid (h.fr hf fun _ _ hf => hf)
  have hlen := h.len_le
  clear hwa b1 b2 hf
  obtain ⟨q, hq⟩ : ∃ q, decide (SoundP l) = q := ⟨_, rfl⟩
  have HQ := Lib.hid hq
  have hz : q = true → l.length = 0 := fun hh => by
    rw [hh] at hq
    rcases Nat.eq_zero_or_pos l.length with h | h
    · exact h
    · exact (hn ⟨of_decide_eq_true hq, fun e => by rw [e] at h; simp at h⟩).elim
  obtain ⟨A, cap, rfl, _, _⟩ : ∃ A c, v = .slice A l.length c ∧ l.length ≤ c ∧ c ≤ maxLen := by obtain ⟨_, A, c, h, h1, h2, _⟩ := h; exact ⟨A, c, h, h1, h2⟩
  clear h hq hn
  unfold ptV oo
  cases q with
  | false =>
    clear hz
    go_enter Try.func18, Try.ntmps18
    go_wp2_with fail
    rw [HW.out]
    refine (sound_any _ l _ _ HX.out).mono ?_
    rw [HQ.out]
    rintro e w1 ⟨rfl, hf1⟩
    have D1 := Lib.hid (B1.out.fr hf1 fun hh => hh)
    have D2 := Lib.hid (B2.out.fr hf1 fun hh => hh)
    have z1 := D1.out.cell 0
    have z2 := D1.out.cell 1
    have z3 := D2.out.cell 0
    have z4 := D2.out.cell 1
    have y1 := D1.out.free 0
    have y2 := D1.out.free 1
    have y3 := D2.out.free 0
    have y4 := D2.out.free 1
    have HF1 := Lib.hid (HF.out.trans0 hf1)
    have hwl := HF.out.size
    clear hf1
    simp only [List.getElem?_toArray, List.getElem?_cons_succ, List.getElem?_cons_zero] at z1 z2 z3 z4
    go_wp2_with fail
    refine bodyPost_ret (results_cct rfl _ _ _ _ 23 _ _ _ rfl (((((D1.out.set 0 (.int .i64 0)).set 1 (.int .i64 0)).far (p := ⟨w.heap.size + 1, 0, none⟩) (by simp) (.int .i64 0)).far (p := ⟨w.heap.size + 1, 1, none⟩) (by simp) (.int .i64 0))) rfl
      (((((D2.out.far (p := ⟨w.heap.size, 0, none⟩) (by simp) (.int .i64 0)).far (p := ⟨w.heap.size, 1, none⟩) (by simp) (.int .i64 0)).set 0 (.int .i64 0)).set 1 (.int .i64 0))) Try.underlying23 rfl (by kernel_rfl) rfl) rfl ⟨rfl, ?_⟩
    exact (((HF1.out.setCell (p := ⟨w.heap.size, 0, none⟩) (.inr (by simp)) _).setCell (p := ⟨w.heap.size, 1, none⟩) (.inr (by simp)) _).setCell (p := ⟨w.heap.size + 1, 0, none⟩) (.inr (by simp)) _).setCell (p := ⟨w.heap.size + 1, 1, none⟩) (.inr (by simp)) _
  | true =>
    have hz := hz rfl
    rw [hz] at HX ⊢
    have hl0 : l = [] := List.length_eq_zero_iff.1 hz
    have HX := Lib.hid (show RowIn wa S 7 (.slice A l.length cap) l.length (encSs l) by rw [hz]; exact HX.out)
    rw [hz] at HX
    clear hz hlen
    go_enter Try.func18, Try.ntmps18
    go_wp2_with fail
    rw [HW.out]
    refine (sound_any _ l _ _ (by rw [hl0]; rw [hl0] at HX; exact HX.out)).mono ?_
    rw [HQ.out]
    rintro e w1 ⟨rfl, hf1⟩
    have D1 := Lib.hid (B1.out.fr hf1 fun hh => hh)
    have D2 := Lib.hid (B2.out.fr hf1 fun hh => hh)
    have z1 := D1.out.cell 0
    have z2 := D1.out.cell 1
    have z3 := D2.out.cell 0
    have z4 := D2.out.cell 1
    have y1 := D1.out.free 0
    have y2 := D1.out.free 1
    have y3 := D2.out.free 0
    have y4 := D2.out.free 1
    have HF1 := Lib.hid (HF.out.trans0 hf1)
    have hwl := HF.out.size
    clear hf1 hl0
    simp only [List.getElem?_toArray, List.getElem?_cons_succ, List.getElem?_cons_zero] at z1 z2 z3 z4
    go_wp2_with fail
    refine bodyPost_ret (results_cct rfl _ _ _ _ 23 _ _ _ rfl (((((D1.out.set 0 (.int .i64 0)).set 1 (.int .i64 0)).far (p := ⟨w.heap.size + 1, 0, none⟩) (by simp) (.int .i64 0)).far (p := ⟨w.heap.size + 1, 1, none⟩) (by simp) (.int .i64 0))) rfl
      (((((D2.out.far (p := ⟨w.heap.size, 0, none⟩) (by simp) (.int .i64 0)).far (p := ⟨w.heap.size, 1, none⟩) (by simp) (.int .i64 0)).set 0 (.int .i64 0)).set 1 (.int .i64 0))) Try.underlying23 rfl (by kernel_rfl) rfl) rfl ⟨rfl, ?_⟩
    exact (((HF1.out.setCell (p := ⟨w.heap.size, 0, none⟩) (.inr (by simp)) _).setCell (p := ⟨w.heap.size, 1, none⟩) (.inr (by simp)) _).setCell (p := ⟨w.heap.size + 1, 0, none⟩) (.inr (by simp)) _).setCell (p := ⟨w.heap.size + 1, 1, none⟩) (.inr (by simp)) _
end Go.Proofs.Ytkkejjfmidgciaa
