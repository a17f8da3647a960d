/-
  Texts joined in build order: Graphics states as Lean values: states, levels, what is saved; where they lie in memory. No conditions. Whole rows: stores into a block that is known whole, loads out of it. No program, no conditions. The walks of Identity, Start, New. The walks of slices.Clone of numbers, of own. The walk of the path's Copy. The walks of Now, Depth, Path, copied.
-/
import Derived.Test.YtkkejjfmidgciaaDoorJSNone2
import Derived.Deep.MidRow
import Derived.Deep.RegionHeld3
import Derived.Deep.CutBlock
/- Graphics states as Lean values: states, levels, what is saved; where they lie in memory. No conditions. -/
namespace Go.Proofs.YtkkejjfmidgciaaDoor
open Go.RowKit
set_option linter.unusedVariables false
set_option linter.unusedSimpArgs false
structure M6 where
  a : Int
  b : Int
  c : Int
  d : Int
  e : Int
  f : Int
deriving DecidableEq
structure Col where
  sp : Int
  p0 : Int
  p1 : Int
  p2 : Int
  p3 : Int
deriving DecidableEq
structure Clp where
  path : List Sg
  eo : Bool
deriving DecidableEq
structure Gst where
  ctm : M6
  col : Col
  width : Int
  cap : Int
  join : Int
  miter : Int
  dash : List Int
  phase : Int
  font : Int
  fm : M6
  clips : List Clp
  dark : Bool
deriving DecidableEq
def encM (m : M6) : List Value := [.int .i64 m.a, .int .i64 m.b, .int .i64 m.c, .int .i64 m.d, .int .i64 m.e, .int .i64 m.f]
def ints (ks : List Int) : List Value := ks.map (.int .i64)
theorem ints_len (ks : List Int) : (ints ks).length = ks.length := by simp [ints]
theorem ints_one (ks : List Int) : ∀ u ∈ ints ks, u.oneCell' = true := by
  intro u hu
  simp only [ints, List.mem_map] at hu
  obtain ⟨x, _, rfl⟩ := hu
  rfl
theorem ints_at {ks : List Int} {j : Nat} (h : j < ks.length) : (ints ks)[j]? = some (.int .i64 ks[j]) := by simp [ints, List.getElem?_eq_getElem h]
/-- The cells of a state; dv, cv: its dashes, its clips. -/
def encG (s : Gst) (dv cv : Value) : List Value := [.int .i64 s.ctm.a, .int .i64 s.ctm.b, .int .i64 s.ctm.c, .int .i64 s.ctm.d, .int .i64 s.ctm.e, .int .i64 s.ctm.f,
  .int .i64 s.col.sp, .int .i64 s.col.p0, .int .i64 s.col.p1, .int .i64 s.col.p2, .int .i64 s.col.p3,
  .int .i64 s.width, .int .i64 s.cap, .int .i64 s.join, .int .i64 s.miter, dv, .int .i64 s.phase,
  .int .i64 s.font, .int .i64 s.fm.a, .int .i64 s.fm.b, .int .i64 s.fm.c, .int .i64 s.fm.d, .int .i64 s.fm.e, .int .i64 s.fm.f, cv, .bool s.dark]
/-! Clips. -/
def encX (xs : List (Clp × Value)) : List Value := xs.flatMap fun x => [x.2, .bool x.1.eo]
theorem encX_cons (x : Clp × Value) (r : List (Clp × Value)) : encX (x :: r) = x.2 :: .bool x.1.eo :: encX r := rfl
theorem encX_append (a b : List (Clp × Value)) : encX (a ++ b) = encX a ++ encX b := by simp [encX]
theorem encX_len (l : List (Clp × Value)) : (encX l).length = l.length * 2 := by
  induction l with
  | nil => rfl
  | cons a r ih => rw [encX_cons, List.length_cons, List.length_cons, List.length_cons, ih]; omega
theorem encX_at (l : List (Clp × Value)) (k j : Nat) (hk : k < l.length) (hj : j < 2) : (encX l)[k * 2 + j]? = ([l[k].2, .bool l[k].1.eo] : List Value)[j]? := by
  induction l generalizing k with
  | nil => simp at hk
  | cons a r ih =>
    rw [encX_cons]
    cases k with
    | zero => match j, hj with
      | 0, _ => rfl
      | 1, _ => rfl
    | succ k =>
      rw [show (k + 1) * 2 + j = (k * 2 + j) + 1 + 1 by omega, List.getElem?_cons_succ, List.getElem?_cons_succ]
      exact ih k (by simpa using hk)
/-- Clips that are read: their list, and the lists within. -/
def ClpsX (w : World) (S : Nat → Prop) (v : Value) (xs : List (Clp × Value)) : Prop :=
  RowIn w S 2 v xs.length (encX xs) ∧ ∀ x ∈ xs, RowIn w S 7 x.2 x.1.path.length (encSs x.1.path)
def Clps (w : World) (S : Nat → Prop) (v : Value) (l : List Clp) : Prop := ∃ xs : List (Clp × Value), xs.map Prod.fst = l ∧ ClpsX w S v xs
theorem ClpsX.fr {w w' : World} {S T : Nat → Prop} {v : Value} {xs : List (Clp × Value)} (h : ClpsX w S v xs) (hf : Fr T w w') (hd : ∀ k, S k → ¬ T k) : ClpsX w' S v xs :=
  ⟨h.1.fr hf hd, fun x hx => (h.2 x hx).fr hf hd⟩
theorem ClpsX.mono {w : World} {S T : Nat → Prop} {v : Value} {xs : List (Clp × Value)} (h : ClpsX w S v xs) (hs : ∀ k, S k → T k) : ClpsX w T v xs := ⟨h.1.mono hs, fun x hx => (h.2 x hx).mono hs⟩
theorem Clps.fr {w w' : World} {S T : Nat → Prop} {v : Value} {l : List Clp} (h : Clps w S v l) (hf : Fr T w w') (hd : ∀ k, S k → ¬ T k) : Clps w' S v l := by
  obtain ⟨xs, h1, h2⟩ := h
  exact ⟨xs, h1, h2.fr hf hd⟩
theorem Clps.mono {w : World} {S T : Nat → Prop} {v : Value} {l : List Clp} (h : Clps w S v l) (hs : ∀ k, S k → T k) : Clps w T v l := by
  obtain ⟨xs, h1, h2⟩ := h
  exact ⟨xs, h1, h2.mono hs⟩
theorem Clps.nil (w : World) (S : Nat → Prop) : Clps w S (.slice none 0 0) [] := ⟨[], rfl, RowIn.nil _ _ _, fun x hx => by simp at hx⟩
theorem Clps.form {w : World} {S : Nat → Prop} {v : Value} {l : List Clp} (h : Clps w S v l) : ∃ A cap, v = .slice A l.length cap ∧ l.length ≤ cap ∧ cap ≤ maxLen := by
  obtain ⟨xs, rfl, h2, _⟩ := h
  obtain ⟨A, cap, hv, h3, h4⟩ := h2.form
  exact ⟨A, cap, by rw [hv, List.length_map], by rw [List.length_map]; exact h3, h4⟩
theorem Clps.lts {w : World} {S : Nat → Prop} {v : Value} {l : List Clp} (h : Clps w S v l) : Clps w (fun k => S k ∧ k < w.heap.size) v l := by
  obtain ⟨xs, h1, h2, h3⟩ := h
  exact ⟨xs, h1, h2.lts, fun x hx => (h3 x hx).lts⟩
/-- The two cells of a clip. -/
theorem ClpsX.at {w : World} {S : Nat → Prop} {v : Value} {xs : List (Clp × Value)} (h : ClpsX w S v xs) (hn : 0 < xs.length) :
    ∃ b off cap, v = .slice (some ⟨b, off, none⟩) xs.length cap ∧ xs.length ≤ cap ∧ cap ≤ 9223372036854775807 ∧ S b ∧ ∀ k (hk : k < xs.length), w.cell? ⟨b, off + k * 2, none⟩ = some xs[k].2 ∧ w.cell? ⟨b, off + k * 2 + 1, none⟩ = some (.bool xs[k].1.eo) := by
  obtain ⟨b, off, cap, hv, h1, h2, hS, hc⟩ := h.1.pos (by rw [encX_len]; omega)
  refine ⟨b, off, cap, hv, h1, h2, hS, fun k hk => ⟨?_, ?_⟩⟩
  · exact hc (k * 2 + 0) _ (by rw [encX_at xs k 0 hk (by omega)]; rfl)
  · rw [Nat.add_assoc]; exact hc (k * 2 + 1) _ (by rw [encX_at xs k 1 hk (by omega)]; rfl)
/-- The memory of a state. -/
structure GIn (w : World) (S : Nat → Prop) (dv cv : Value) (s : Gst) : Prop where
  d : RowIn w S 1 dv s.dash.length (ints s.dash)
  c : Clps w S cv s.clips
theorem GIn.fr {w w' : World} {S T : Nat → Prop} {dv cv : Value} {s : Gst} (h : GIn w S dv cv s) (hf : Fr T w w') (hd : ∀ k, S k → ¬ T k) : GIn w' S dv cv s := ⟨h.d.fr hf hd, h.c.fr hf hd⟩
theorem GIn.nob {w w' : World} {S : Nat → Prop} {dv cv : Value} {s : Gst} (h : GIn w S dv cv s) (hf : Fr Nob w w') : GIn w' S dv cv s := h.fr hf fun _ _ hh => hh
theorem GIn.mono {w : World} {S T : Nat → Prop} {dv cv : Value} {s : Gst} (h : GIn w S dv cv s) (hs : ∀ k, S k → T k) : GIn w T dv cv s := ⟨h.d.mono hs, h.c.mono hs⟩
theorem GIn.lts {w : World} {S : Nat → Prop} {dv cv : Value} {s : Gst} (h : GIn w S dv cv s) : GIn w (fun k => S k ∧ k < w.heap.size) dv cv s := ⟨h.d.lts, h.c.lts⟩
/-- A level: a state, and the path with it. -/
structure Lv where
  st : Gst
  p : PS
/-- Where a level lies. -/
structure LvG where
  dv : Value
  cv : Value
  pv : Value
  pg : Nat
def encL (l : Lv) (x : LvG) : List Value := encG l.st x.dv x.cv ++ [.pointer (some ⟨x.pg, 0, none⟩)]
structure LvIn (w : World) (S P : Nat → Prop) (l : Lv) (x : LvG) : Prop where
  g : GIn w S x.dv x.cv l.st
  p : Pth w x.pg x.pv l.p
  b : ∀ k, ptB x.pg x.pv k → P k
theorem LvIn.fr {w w' : World} {S P T : Nat → Prop} {l : Lv} {x : LvG} (h : LvIn w S P l x) (hf : Fr T w w') (hS : ∀ k, S k → ¬ T k) (hP : ∀ k, P k → ¬ T k) : LvIn w' S P l x :=
  ⟨h.g.fr hf hS, h.p.fr hf fun k hk => hP k (h.b k hk), h.b⟩
theorem LvIn.mono {w : World} {S P S' P' : Nat → Prop} {l : Lv} {x : LvG} (h : LvIn w S P l x) (hS : ∀ k, S k → S' k) (hP : ∀ k, P k → k < w.heap.size → P' k) : LvIn w S' P' l x :=
  ⟨h.g.mono hS, h.p, fun k hk => hP k (h.b k hk) (h.p.lt k hk)⟩
theorem LvIn.lts {w : World} {S P : Nat → Prop} {l : Lv} {x : LvG} (h : LvIn w S P l x) : LvIn w (fun k => S k ∧ k < w.heap.size) (fun k => P k ∧ k < w.heap.size) l x :=
  ⟨h.g.lts, h.p, fun k hk => ⟨h.b k hk, h.p.lt k hk⟩⟩
/-- States: the level that is, those that are saved. -/
structure GS where
  cur : Lv
  most : Int
  segs : Int
  saved : List Lv
def encLs (xs : List (Lv × LvG)) : List Value := xs.flatMap fun x => encL x.1 x.2
/-- Where the parts of states lie: lab tells the blocks apart: 0 what is never written, 1 the states and the list of what is saved, 2 the path that is, from 3 on the saved paths. -/
structure GsX (w : World) (g : Nat) (F : Nat → Prop) (s : GS) (lab : Nat → Nat) (x : LvG) (sv : Value) (xs : List (Lv × LvG)) : Prop where
  l : xs.map Prod.fst = s.saved
  b : Blk w g (encL s.cur x ++ [.int .i64 s.most, .int .i64 s.segs, sv]).toArray 124
  g1 : F g ∧ lab g = 1
  o : OwnS w 121 27 sv xs.length (encLs xs)
  o1 : ∀ k, sv.ownBlock = some k → F k ∧ lab k = 1
  c : LvIn w (fun k => F k ∧ lab k = 0) (fun k => F k ∧ lab k = 2) s.cur x
  s : ∀ i (h : i < xs.length), LvIn w (fun k => F k ∧ lab k = 0) (fun k => F k ∧ lab k = i + 3) xs[i].1 xs[i].2
def Gs (w : World) (g : Nat) (F : Nat → Prop) (s : GS) : Prop := ∃ lab x sv xs, GsX w g F s lab x sv xs
theorem GsX.nob {w w' : World} {g : Nat} {F : Nat → Prop} {s : GS} {lab : Nat → Nat} {x : LvG} {sv : Value} {xs : List (Lv × LvG)} (h : GsX w g F s lab x sv xs) {T : Nat → Prop} (hf : Fr T w w') (hT : ∀ k, F k → ¬ T k) : GsX w' g F s lab x sv xs :=
  ⟨h.l, h.b.fr hf (hT _ h.g1.1), h.g1, h.o.fr hf fun k hk => hT k (h.o1 k hk).1, h.o1, h.c.fr hf (fun k hk => hT k hk.1) fun k hk => hT k hk.1, fun i hi => (h.s i hi).fr hf (fun k hk => hT k hk.1) fun k hk => hT k hk.1⟩
theorem Gs.fr {w w' : World} {g : Nat} {F T : Nat → Prop} {s : GS} (h : Gs w g F s) (hf : Fr T w w') (hT : ∀ k, F k → ¬ T k) : Gs w' g F s := by
  obtain ⟨lab, x, sv, xs, h⟩ := h
  exact ⟨lab, x, sv, xs, h.nob hf hT⟩
theorem Gs.nob {w w' : World} {g : Nat} {F : Nat → Prop} {s : GS} (h : Gs w g F s) (hf : Fr Nob w w') : Gs w' g F s := h.fr hf fun _ _ hh => hh
theorem Gs.mono {w : World} {g : Nat} {F F' : Nat → Prop} {s : GS} (h : Gs w g F s) (hF : ∀ k, F k → F' k) : Gs w g F' s := by
  obtain ⟨lab, x, sv, xs, h⟩ := h
  exact ⟨lab, x, sv, xs, h.l, h.b, ⟨hF _ h.g1.1, h.g1.2⟩, h.o, fun k hk => ⟨hF _ (h.o1 k hk).1, (h.o1 k hk).2⟩, h.c.mono (fun k hk => ⟨hF _ hk.1, hk.2⟩) (fun k hk _ => ⟨hF _ hk.1, hk.2⟩),
    fun i hi => (h.s i hi).mono (fun k hk => ⟨hF _ hk.1, hk.2⟩) (fun k hk _ => ⟨hF _ hk.1, hk.2⟩)⟩
/-- What was there, and new blocks. -/
def Ext (F : Nat → Prop) (w w' : World) : Nat → Prop := fun k => F k ∨ Bt w w' k
/-- What a step leaves of states. -/
def GsTo (w : World) (g : Nat) (F : Nat → Prop) (s : GS) (w' : World) : Prop := Gs w' g (Ext F w w') s ∧ Fr F w w'
theorem Fr.le {S : Nat → Prop} {w w' : World} (h : Fr S w w') : w.heap.size ≤ w'.heap.size := h.size
theorem GsTo.same {w w' : World} {g : Nat} {F : Nat → Prop} {s : GS} (h : Gs w g F s) (hf : Fr Nob w w') : GsTo w g F s w' := ⟨(h.nob hf).mono fun k hk => .inl hk, hf.mono fun _ hh => hh.elim⟩
/-- States of one's own: all their blocks are new since w0. -/
def LG (w0 w : World) (g : Nat) (s : GS) : Prop := Gs w g (fun k => w0.heap.size ≤ k) s ∧ Fr Nob w0 w
theorem LG.nob {w0 w w' : World} {g : Nat} {s : GS} (h : LG w0 w g s) (hf : Fr Nob w w') : LG w0 w' g s := ⟨h.1.nob hf, h.2.trans0 hf⟩
theorem LG.to {w0 w w' : World} {g : Nat} {s s' : GS} (h : LG w0 w g s) (ht : GsTo w g (fun k => w0.heap.size ≤ k) s' w') : LG w0 w' g s' :=
  ⟨ht.1.mono fun k hk => hk.elim id fun hk => Nat.le_trans h.2.size hk.1, h.2.trans ht.2 fun k hk => .inr hk⟩
end Go.Proofs.YtkkejjfmidgciaaDoor
/- Whole rows: stores into a block that is known whole, loads out of it. No program, no conditions. -/
namespace Go.Proofs.YtkkejjfmidgciaaDoor
open Go.RowKit
set_option linter.unusedVariables false
set_option linter.unusedSimpArgs false
/-- A block, cells stored over from o on. -/
def over (old : Array Value) (o : Nat) (cells : List Value) : Array Value := (old.toList.take o ++ cells ++ old.toList.drop (o + cells.length)).toArray
theorem over_all (old : Array Value) (cells : List Value) (h : old.size = cells.length) : over old 0 cells = cells.toArray := by
  unfold over
  rw [List.take_zero, List.nil_append, List.drop_of_length_le (by simp; omega), List.append_nil]
theorem Blk.range {w : World} {g : Nat} {C : Array Value} {t : TypeId} (h : Blk w g C t) (o : Nat) (cs : List Value) (hc : (C.toList.drop o).take cs.length = cs) : w.rangeAt g o cs := fun j v hv => by
  rw [h.cell]
  have hj : j < cs.length := (List.getElem?_eq_some_iff.1 hv).1
  rw [← hc, List.getElem?_take, if_pos (by simpa using hj), List.getElem?_drop] at hv
  simpa using hv
theorem Blk.there {w : World} {g : Nat} {C : Array Value} {t : TypeId} (h : Blk w g C t) (o n : Nat) (hn : o + n ≤ C.size) : w.there g o n := fun j hj =>
  ⟨by rw [h.cell, Array.getElem?_eq_getElem (by omega)]; rfl, h.free _⟩
theorem Blk.over {w : World} {g : Nat} {C : Array Value} {t : TypeId} (h : Blk w g C t) (o : Nat) (cells : List Value) : Blk (w.setRow g (YtkkejjfmidgciaaDoor.over C o cells)) g (YtkkejjfmidgciaaDoor.over C o cells) t := h.setRow _
section
variable {P : Program} {w : World}
theorem run_putAt (ty : TypeId) (g o : Nat) (cells : List Value) (t : TypeId) (old : Array Value) (hg : Blk w g old t) (hfit : o + cells.length ≤ old.size) (hi : (P.info? ty).map (·.size) = some cells.length) (h1 : ∀ u ∈ cells, u.oneCell' = true) :
    (storeVar ty ⟨g, o, none⟩ (.agg cells.toArray)).run P w = .ok () (w.setRow g (over old o cells)) := by
  have hst := run_storeCells_at P g o t cells 0 old w hg (by simpa using hfit) h1
  simp only [Nat.add_zero] at hst
  cases hq : P.info? ty with
  | none => simp [hq] at hi
  | some i =>
    have hs : cells.length = i.size := by simp [hq] at hi; omega
    simp [storeVar, sizeOf, typeInfo, hq, Value.cells, ← hs]
    simpa [over] using hst
theorem wp_putAt {op : Oper} {a : Act} {K : Act → World → Prop} {Q : Exit → Act → World → Prop} (ty : TypeId) (x y : Operand) (ho : op.op = .store ty x y)
    (g o : Nat) (cells : List Value) (hx : a.eval x = .pointer (some ⟨g, o, none⟩)) (hy : a.eval y = .agg cells.toArray)
    (t : TypeId) (old : Array Value) (hg : Blk w g old t) (hfit : o + cells.length ≤ old.size) (hi : (P.info? ty).map (·.size) = some cells.length) (h1 : ∀ u ∈ cells, u.oneCell' = true)
    (h : ∀ w', Blk w' g (over old o cells) t → Fr (fun k => k = g) w w' → K (a.put op.dst undef) w') : op.wp P a w K Q := by
  unfold Oper.wp execOp
  simp only [ho, hx, hy, Instr.storeAt, Instr.sureAddr, Sem.run_bind, Sem.run_pure, Result.andThen_ok, run_putAt ty g o cells t old hg hfit hi h1]
  exact h _ (hg.over o cells) ((Fr.refl (fun k => k = g) w).setRow (.inl rfl) _)
theorem wpList_putAt {ops : Array Oper} {rest : List Oper} {op : Oper} {a : Act} {Q : Exit → Act → World → Prop} (hgd : op.guard = none) (ty : TypeId) (x y : Operand) (ho : op.op = .store ty x y)
    (g o : Nat) (cells : List Value) (hx : a.eval x = .pointer (some ⟨g, o, none⟩)) (hy : a.eval y = .agg cells.toArray)
    (t : TypeId) (old : Array Value) (hg : Blk w g old t) (hfit : o + cells.length ≤ old.size) (hi : (P.info? ty).map (·.size) = some cells.length) (h1 : ∀ u ∈ cells, u.oneCell' = true)
    (h : ∀ w', Blk w' g (over old o cells) t → Fr (fun k => k = g) w w' → wpList P ops Q rest (a.put op.dst undef) w') : wpList P ops Q (op :: rest) a w :=
  wpList_plain hgd fun _ hK => wp_putAt ty x y ho g o cells hx hy t old hg hfit hi h1 fun w' hb hf => hK _ _ (h w' hb hf)
/-- A store as a step of a region that draws its order. -/
theorem step_putAt {ops : Array Oper} {op : Oper} {a : Act} {K : Act → World → Prop} {Q : Exit → Act → World → Prop} {E : Prop} (hgd : op.guard = none) (ty : TypeId) (x y : Operand) (ho : op.op = .store ty x y)
    (g o : Nat) (cells : List Value) (hx : a.eval x = .pointer (some ⟨g, o, none⟩)) (hy : a.eval y = .agg cells.toArray)
    (t : TypeId) (old : Array Value) (hg : Blk w g old t) (hfit : o + cells.length ≤ old.size) (hi : (P.info? ty).map (·.size) = some cells.length) (h1 : ∀ u ∈ cells, u.oneCell' = true)
    (h : ∀ w', Blk w' g (over old o cells) t → Fr (fun k => k = g) w w' → K (a.put op.dst undef) w') : if Region.wanted op (yielded ops a.tmps) = true then Oper.wp P op a w K Q else E := by
  rw [if_pos (by simp [Region.wanted, hgd])]
  exact wp_putAt ty x y ho g o cells hx hy t old hg hfit hi h1 h
theorem wpList_getAt {ops : Array Oper} {rest : List Oper} {op : Oper} {a : Act} {Q : Exit → Act → World → Prop} (hgd : op.guard = none) (ty : TypeId) (x : Operand) (ho : op.op = .load ty x)
    (b o : Nat) (hx : a.eval x = .pointer (some ⟨b, o, none⟩)) (cs : List Value) (d : TypeDesc) (hc : w.rangeAt b o cs)
    (hu : P.underlying ty = some d) (hd : d.isRow = true) (hi : (P.info? ty).map (·.size) = some cs.length)
    (h : wpList P ops Q rest (a.put op.dst (.agg cs.toArray)) w) : wpList P ops Q (op :: rest) a w := wpList_load_mid hgd ty x ho b o hx cs d hc hu hd hi h
end
theorem results_cl {P : Program} {fn : Func} {p : Tmp} {ty : TypeId} (h : fn.results = #[.cell p ty]) (tmps : Array Value) (w : World) (g : Nat) (t : TypeId) (cs : List Value) (d : TypeDesc)
    (hp : tmps.getD p undef = .pointer (some ⟨g, 0, none⟩)) (hg : Blk w g cs.toArray t)
    (hu : P.underlying ty = some d) (hd : (match d with | .struct _ | .array _ _ => true | _ => false) = true) (hi : (P.info? ty).map (·.size) = some cs.length) :
    (results fn tmps).run P w = .ok (.agg cs.toArray) w := results_c h tmps w g t cs.toArray d hp hg hu hd (by simpa using hi)
end Go.Proofs.YtkkejjfmidgciaaDoor
/- The walks of Identity, Start, New. -/
namespace Go.Proofs.YtkkejjfmidgciaaDoor
open Go.RowKit
set_option linter.unusedVariables false
set_option linter.unusedSimpArgs false
def mId : M6 := ⟨65536, 0, 0, 65536, 0, 0⟩
def gStart : Gst := ⟨mId, ⟨1, 0, 0, 0, 0⟩, 65536, 0, 0, 655360, [], 0, -1, mId, [], false⟩
def gZero : Gst := ⟨⟨0, 0, 0, 0, 0, 0⟩, ⟨0, 0, 0, 0, 0⟩, 0, 0, 0, 0, [], 0, 0, ⟨0, 0, 0, 0, 0, 0⟩, [], false⟩
def mV (m : M6) : Value := .agg #[.int .i64 m.a, .int .i64 m.b, .int .i64 m.c, .int .i64 m.d, .int .i64 m.e, .int .i64 m.f]
def gV (s : Gst) (dv cv : Value) : Value := .agg (encG s dv cv).toArray
def nilV : Value := .slice none 0 0
theorem encG_one (s : Gst) (dv cv : Value) (hd : ∃ A n c, dv = .slice A n c) (hc : ∃ A n c, cv = .slice A n c) : ∀ u ∈ encG s dv cv, u.oneCell' = true := by
  obtain ⟨A, n, c, rfl⟩ := hd
  obtain ⟨A', n', c', rfl⟩ := hc
  intro u hu
  simp only [encG, List.mem_cons, List.not_mem_nil, or_false] at hu
  rcases hu with rfl | rfl | rfl | rfl | rfl | rfl | rfl | rfl | rfl | rfl | rfl | rfl | rfl | rfl | rfl | rfl | rfl | rfl | rfl | rfl | rfl | rfl | rfl | rfl | rfl | rfl <;> rfl
theorem sizeG : (Tryd.prog.info? 79).map (·.size) = some 26 := by kernel_rfl
theorem ident_any (w : World) : Calls Tryd.prog 86 #[] w fun e w' => e = .returned (mV mId) ∧ Fr Nob w w' := by
  have HB := Lib.hid (Blk.new w #[.int .i64 65536, .int .i64 0, .int .i64 0, .int .i64 65536, .int .i64 0, .int .i64 0] 33)
  unfold mV mId
  go_enter Tryd.func86, Tryd.ntmps86
  go_wp2
  exact bodyPost_ret (results_c rfl _ _ _ 33 _ _ rfl HB.out Tryd.underlying33 rfl (by kernel_rfl)) rfl ⟨rfl, (Fr.refl _ _).alloc _⟩
theorem start_any (w : World) : Calls Tryd.prog 41 #[] w fun e w' => e = .returned (gV gStart nilV nilV) ∧ Fr Nob w w' := by
  have HB := Lib.hid (Blk.new w (encG gZero nilV nilV).toArray 79)
  have HF := Lib.hid ((Fr.refl Nob w).alloc (.cells (encG gZero nilV nilV).toArray 79))
  go_enter Tryd.func41, Tryd.ntmps41
  go_wp2_with fail
  refine (ident_any _).mono ?_
  unfold mV mId
  rintro e w1 ⟨rfl, h1⟩
  have HB1 := Lib.hid (HB.out.nob h1)
  have H1 := Lib.hid (HF.out.trans0 h1)
  clear h1 HB HF
  go_wp2_with fail
  refine (ident_any _).mono ?_
  unfold mV mId
  rintro e w2 ⟨rfl, h2⟩
  have HB2 := Lib.hid (HB1.out.nob h2)
  have H2 := Lib.hid (H1.out.trans0 h2)
  clear h2 HB1 H1
  go_wp2_with (refine wpList_putAt rfl 79 (.tmp 0) (.tmp 5) rfl w.heap.size 0 (encG gStart nilV nilV) (by rfl) (by rfl) 79 _ HB2.out (by decide) sizeG (encG_one _ _ _ ⟨_, _, _, rfl⟩ ⟨_, _, _, rfl⟩) ?_)
  intro w3 hb3 hf3
  rw [over_all (encG gZero nilV nilV).toArray (encG gStart nilV nilV) rfl] at hb3
  have HB3 := Lib.hid hb3
  have H3 := Lib.hid (H2.out.trans hf3 fun k hk => .inr (by rw [hk]; exact Nat.le_refl _))
  clear hb3 hf3
  go_wp2_with fail
  exact bodyPost_ret (results_cl rfl _ _ _ 79 _ _ rfl HB3.out Tryd.underlying79 rfl sizeG) rfl ⟨rfl, H3.out⟩
/-- New states. -/
def sNew (most segs : Int) : GS := ⟨⟨gStart, ⟨segs, [], oo, oo⟩⟩, most, segs, []⟩
theorem gnew_any (most segs : Int) (w : World) :
    Calls Tryd.prog 29 #[.int .i64 most, .int .i64 segs] w fun e w' => ∃ g, e = .returned (.pointer (some ⟨g, 0, none⟩)) ∧ Gs w' g (Bt w w') (sNew most segs) ∧ Fr Nob w w' := by
  go_enter Tryd.func29, Tryd.ntmps29
  go_wp2_with fail
  refine (start_any _).mono ?_
  unfold gV
  simp only [encG, gStart, mId, nilV]
  rintro e w1 ⟨rfl, h1⟩
  have H1 := Lib.hid h1
  clear h1
  go_wp2_with fail
  refine (new_any segs w1).mono ?_
  rintro e w2 ⟨rfl, hp, h2⟩
  have HP := Lib.hid hp
  have H2 := Lib.hid (H1.out.trans0 h2)
  have hz := H1.out.size
  have hl := hp.1.lt
  clear hp h2
  go_wp2_with fail
  go_ret
  refine ⟨_, rfl, ⟨fun k => if k = w1.heap.size then 2 else 1, ⟨.slice none 0 0, .slice none 0 0, .slice none 0 0, w1.heap.size⟩, .slice none 0 0, [], rfl, Blk.new w2 _ _, ⟨⟨by omega, by simp⟩, by rw [if_neg (by omega)]⟩, OwnS.nil _ _ _, fun k hk => by simp [Value.ownBlock] at hk, ⟨⟨RowIn.nil _ _ _, Clps.nil _ _⟩, HP.out.nob ((Fr.refl Nob w2).alloc _), ?_⟩, fun i hi => by simp at hi⟩, H2.out.alloc _⟩
  rintro k (rfl | hk)
  · exact ⟨⟨hz, by simp; omega⟩, by rw [if_pos rfl]⟩
  · simp [Value.ownBlock] at hk
end Go.Proofs.YtkkejjfmidgciaaDoor
/- The walks of slices.Clone of numbers, of own. -/
namespace Go.Proofs.YtkkejjfmidgciaaDoor
open Go.RowKit
set_option linter.unusedVariables false
set_option linter.unusedSimpArgs false
theorem infoInt : (Tryd.prog.info? 3).map (fun i => (i.zero, i.size, i.bytes)) = some (some (.int .i64 0), 1, 8) := by kernel_rfl
theorem infoClip : (Tryd.prog.info? 93).map (fun i => (i.zero, i.size, i.bytes)) = some (some (.agg #[.slice none 0 0, .bool false]), 2, 32) := by kernel_rfl
theorem clonei_any (v : Value) (l : List Int) (S : Nat → Prop) (w : World) (h : RowIn w S 1 v l.length (ints l)) (hs : l.length ≤ 1000000) :
    Calls Tryd.prog 117 #[v] w fun e w' => ∃ vo, e = .returned vo ∧ OwnS w' 3 1 vo l.length (ints l) ∧ Fr Nob w w' ∧ NewV w vo := by
  obtain ⟨i0, hi, hz0, hz1, hz2⟩ := info_parts infoInt
  obtain ⟨A, cap, rfl, h1, h2⟩ := h.form
  have HH := Lib.hid h
  cases A with
  | none =>
    have hc : cap = 0 := by obtain ⟨_, A, c, h, _, _, h3, _⟩ := h; cases h; exact h3 rfl
    subst hc
    have hl : l = [] := List.length_eq_zero_iff.1 (by omega)
    subst hl
    clear h HH
    have kn := fun A l c w => run_slice_is_nil Tryd.underlying30 A l c w
    go_enter Tryd.func117, Tryd.ntmps117
    go_wp2
    go_ret
    exact ⟨_, rfl, OwnS.nil _ _ _, Fr.refl _ _, fun b hb => by simp [Value.ownBlock] at hb⟩
  | some a =>
    clear h
    have kn := fun A l c w => run_slice_is_nil Tryd.underlying30 A l c w
    have HR := Lib.hid (HH.out.nob ((Fr.refl Nob w).alloc (.cells #[] 3)))
    clear HH
    go_enter Tryd.func117, Tryd.ntmps117
    go_wp2_with (at_builtin; refine wpList_app _ rfl _ _ 30 rfl 3 i0 _ 1 8 Tryd.underlying30 hi hz0 hz1 hz2 rfl (by decide) _ 0 [] rfl (OwnS.new0 w 3 1) S _ l.length (ints l) rfl HR.out ?c1 ?c2 ?c3 ?_)
    case c1 => exact ints_one l
    case c2 => unfold maxLen at *; omega
    case c3 => omega
    intro v' w1 hown hfr hat _
    go_wp2
    go_ret
    have hN := app_new (w := w) (NewV.at w 0 0) ((Fr.refl _ _).alloc _) hfr (by simpa using hat)
    exact ⟨v', rfl, by simpa using hown, hN.1, hN.2⟩
/-- The bounds under which states are copied. -/
structure SmallG (s : Gst) : Prop where
  d : s.dash.length ≤ 1000
  c : s.clips.length ≤ 1000
  p : ∀ c ∈ s.clips, c.path.length ≤ 1000000
theorem OwnS.made {w : World} {g : Nat} {cs : Array Value} {e : TypeId} {size n : Nat} (h : Blk w g cs e) (hs : cs.size = n * size) (hn : n ≤ maxLen) : OwnS w e size (.slice (some ⟨g, 0, none⟩) 0 n) 0 [] :=
  ⟨by simp, .inr ⟨_, _, _, rfl, h, Nat.zero_le _, hn, Nat.le_of_eq hs.symm, by simp⟩⟩
def mkC (n : Nat) : Array Value := madeCells #[.slice none 0 0, .bool false] (n * 2)
theorem Blk.made' {w : World} {g n : Nat} (h : Blk w g (mkC n) 93) (hn : n ≤ 1000) : OwnS w 93 2 (.slice (some ⟨g, 0, none⟩) 0 n) 0 [] :=
  OwnS.made h (by simp [mkC, madeCells]) (by unfold maxLen; omega)
/-- Clips of a call's own, the first k of l. -/
structure OwnC (w wr : World) (v : Value) (l : List Clp) (k : Nat) (xs : List (Clp × Value)) (S : Nat → Prop) : Prop where
  l : xs.map Prod.fst = l.take k
  o : OwnS wr 93 2 v k (encX xs)
  n : NewV w v
  p : ∀ x ∈ xs, RowIn wr S 7 x.2 x.1.path.length (encSs x.1.path)
  s : ∀ j, S j → Bt w wr j
  d : ∀ j, inB v j → ¬ S j
  f : Fr Nob w wr
theorem OwnC.snoc {w wr wa wb wc wd : World} {v vo v' : Value} {l : List Clp} {k : Nat} {xs : List (Clp × Value)} {S : Nat → Prop} (h : OwnC w wr v l k xs S) (hk : k < l.length)
    (ha : Fr Nob wr wa) (ho : OwnS wb 91 7 vo l[k].path.length (encSs l[k].path)) (hn : NewV wa vo) (hb : Fr Nob wa wb) (hc : Fr Nob wb wc)
    (hd : OwnS wd 93 2 v' (k + 1) (encX xs ++ [vo, .bool l[k].eo])) (hfd : Fr (inB v) wc wd) (hat : v'.ownBlock = v.ownBlock ∨ v'.ownBlock = some wc.heap.size) :
    OwnC w wd v' l (k + 1) (xs ++ [(l[k], vo)]) (fun j => S j ∨ vo.ownBlock = some j) := by
  have hwc := (ha.trans0 hb).trans0 hc
  have hvl : ∀ j, inB v j → j < wr.heap.size := h.o.lt
  have hol : ∀ j, vo.ownBlock = some j → j < wb.heap.size := ho.lt
  have hon : ∀ j, vo.ownBlock = some j → wr.heap.size ≤ j := fun j hj => Nat.le_trans ha.size (hn j hj)
  refine ⟨?_, by rw [encX_append]; exact hd, ?_, ?_, ?_, ?_, ?_⟩
  · rw [List.map_append, h.l, List.take_succ_eq_append_getElem hk]; rfl
  · intro b hb'
    rcases hat with e | e
    · exact h.n b (e ▸ hb')
    · rw [e] at hb'; cases hb'; exact Nat.le_trans h.f.size hwc.size
  · intro x hx
    rcases List.mem_append.1 hx with hx | hx
    · exact ((((h.p x hx).nob hwc).fr hfd fun j hj hv => h.d j hv hj)).mono fun j hj => .inl hj
    · rw [List.mem_singleton] at hx
      subst hx
      exact ((ho.nob hc).row.fr hfd fun j hj hv => by have := hvl j hv; have := hon j hj; omega).mono fun j hj => .inr hj
  · rintro j (hj | hj)
    · exact ⟨(h.s j hj).1, Nat.lt_of_lt_of_le (h.s j hj).2 (Nat.le_trans hwc.size hfd.size)⟩
    · exact ⟨Nat.le_trans h.f.size (hon j hj), Nat.lt_of_lt_of_le (hol j hj) (Nat.le_trans hc.size hfd.size)⟩
  · rintro j hj (hS | hS)
    · rcases hat with e | e
      · exact h.d j (show v.ownBlock = some j from e ▸ hj) hS
      · have hj' : v'.ownBlock = some j := hj
        rw [e] at hj'; cases hj'
        have := (h.s _ hS).2; have := hwc.size; omega
    · rcases hat with e | e
      · have := hvl j (show v.ownBlock = some j from e ▸ hj); have := hon j hS; omega
      · have hj' : v'.ownBlock = some j := hj
        rw [e] at hj'; cases hj'
        have := hol _ hS; have := hc.size; omega
  · exact (h.f.trans0 hwc).trans hfd fun j hj => .inr (h.n j hj)
theorem OwnC.clps {w wr : World} {v : Value} {l : List Clp} {xs : List (Clp × Value)} {S : Nat → Prop} (h : OwnC w wr v l l.length xs S) : Clps wr (Bt w wr) v l := by
  have hl : xs.map Prod.fst = l := by rw [h.l, List.take_length]
  have hn : xs.length = l.length := by rw [← hl, List.length_map]
  refine ⟨xs, hl, ?_, fun x hx => (h.p x hx).mono h.s⟩
  rw [hn]
  exact h.o.bt h.n
/-- Clips of one's own, in a later world. -/
theorem OwnC.re {w w2 wr w9 : World} {v : Value} {l : List Clp} {k : Nat} {xs : List (Clp × Value)} {S T : Nat → Prop} (h : OwnC w2 wr v l k xs S) (hw : w.heap.size ≤ w2.heap.size) (hf : Fr T wr w9) (hT : ∀ j, T j → j < w2.heap.size) (hF : Fr Nob w w9) : OwnC w w9 v l k xs S :=
  ⟨h.l, h.o.fr hf fun j hj e => by have := h.n j hj; have := hT j e; omega, h.n.le hw, fun x hx => (h.p x hx).fr hf fun j hj e => by have := (h.s j hj).1; have := hT j e; omega, fun j hj => ⟨Nat.le_trans hw (h.s j hj).1, Nat.lt_of_lt_of_le (h.s j hj).2 hf.size⟩, h.d, hF⟩
set_option maxRecDepth 8000 in
set_option maxHeartbeats 6400000 in
theorem own_all (s : Gst) (dv cv : Value) (S : Nat → Prop) (w : World) (h : GIn w S dv cv s) (hb : SmallG s) :
    Calls Tryd.prog 83 #[gV s dv cv] w fun e w' => ∃ dv' cv' xs S', e = .returned (gV s dv' cv') ∧ RowIn w' (Bt w w') 1 dv' s.dash.length (ints s.dash) ∧ OwnC w w' cv' s.clips s.clips.length xs S' ∧ Fr Nob w w' := by
  obtain ⟨i0, hi, hz0, hz1, hz2⟩ := info_parts infoClip
  have hmk : ∀ w : World, (Instr.makeSlice 29 (.int .i64 0) (.int .i64 s.clips.length)).run Tryd.prog w = .ok (.slice (some ⟨w.heap.size, 0, none⟩) 0 s.clips.length) (w.alloc (.cells (mkC s.clips.length) 93)) := fun w => by
    have := run_make (P := Tryd.prog) w 29 93 i0 _ Tryd.underlying29 hi hz0 .i64 .i64 0 s.clips.length (by omega) (by omega) (by rw [hz2]; have := hb.c; omega) (by have := hb.c; omega)
    rw [this, hz1]
    simp only [Int.toNat_natCast, Int.toNat_zero]
    rfl
  replace hi := Lib.hid hi
  replace hz0 := Lib.hid hz0
  replace hz1 := Lib.hid hz1
  replace hz2 := Lib.hid hz2
  have hf0 : Fr Nob w ((w.alloc (.cells (encG s dv cv).toArray 79)).alloc (.cells #[.int .i64 0, .int .i64 0, .int .i64 0, .int .i64 0, .int .i64 0, .int .i64 0, .int .i64 0, .int .i64 0, .int .i64 0, .int .i64 0, .int .i64 0, .int .i64 0, .int .i64 0, .int .i64 0, .int .i64 0, .slice none 0 0, .int .i64 0, .int .i64 0, .int .i64 0, .int .i64 0, .int .i64 0, .int .i64 0, .int .i64 0, .int .i64 0, .slice none 0 0, .bool false] 79)) := ((Fr.refl Nob w).alloc _).alloc _
  have HB0 := Lib.hid (show Blk ((w.alloc (.cells (encG s dv cv).toArray 79)).alloc (.cells #[.int .i64 0, .int .i64 0, .int .i64 0, .int .i64 0, .int .i64 0, .int .i64 0, .int .i64 0, .int .i64 0, .int .i64 0, .int .i64 0, .int .i64 0, .int .i64 0, .int .i64 0, .int .i64 0, .int .i64 0, .slice none 0 0, .int .i64 0, .int .i64 0, .int .i64 0, .int .i64 0, .int .i64 0, .int .i64 0, .int .i64 0, .int .i64 0, .slice none 0 0, .bool false] 79)) w.heap.size (encG s dv cv).toArray 79 from (Blk.new w _ _).alloc _)
  have HZ0 := Lib.hid (show Blk ((w.alloc (.cells (encG s dv cv).toArray 79)).alloc (.cells #[.int .i64 0, .int .i64 0, .int .i64 0, .int .i64 0, .int .i64 0, .int .i64 0, .int .i64 0, .int .i64 0, .int .i64 0, .int .i64 0, .int .i64 0, .int .i64 0, .int .i64 0, .int .i64 0, .int .i64 0, .slice none 0 0, .int .i64 0, .int .i64 0, .int .i64 0, .int .i64 0, .int .i64 0, .int .i64 0, .int .i64 0, .int .i64 0, .slice none 0 0, .bool false] 79)) (w.heap.size + 1) (encG gZero nilV nilV).toArray 79 from Blk.new1 w _ _ _)
  have HG := Lib.hid (h.lts.nob hf0)
  have HGN := Lib.hid (show ∀ k, (S k ∧ k < w.heap.size) → k < w.heap.size from fun k hk => hk.2)
  have HF0 := Lib.hid hf0
  have HBD := Lib.hid hb
  obtain ⟨A, cap, rfl, ha1, ha2⟩ := h.c.form
  have hbc := hb.c
  have hne : w.heap.size ≠ w.heap.size + 1 := by omega
  clear h hb hf0
  unfold gV
  go_enter Tryd.func83, Tryd.ntmps83
  go_upto_region 1 with (fail)
  generalize (w.alloc (.cells (encG s dv (.slice A s.clips.length cap)).toArray 79)).alloc (.cells #[.int .i64 0, .int .i64 0, .int .i64 0, .int .i64 0, .int .i64 0, .int .i64 0, .int .i64 0, .int .i64 0, .int .i64 0, .int .i64 0, .int .i64 0, .int .i64 0, .int .i64 0, .int .i64 0, .int .i64 0, .slice none 0 0, .int .i64 0, .int .i64 0, .int .i64 0, .int .i64 0, .int .i64 0, .int .i64 0, .int .i64 0, .int .i64 0, .slice none 0 0, .bool false] 79) = wa at *
  have c15 : wa.cell? ⟨w.heap.size, 15, none⟩ = some dv := HB0.out.cell 15
  go_wp2_with fail
  refine (clonei_any dv s.dash _ wa HG.out.d (by have := HBD.out.d; omega)).mono ?_
  rintro e w1 ⟨dv', rfl, hod, hf1, hn1⟩
  have hB1 := HB0.out.nob hf1
  have k15 : w1.cell? ⟨w.heap.size, 15, none⟩ = some dv := hB1.cell 15
  have f15 := hB1.free 15
  have HB1 := Lib.hid (show Blk (w1.setCell ⟨w.heap.size, 15, none⟩ dv') w.heap.size (encG s dv' (.slice A s.clips.length cap)).toArray 79 from hB1.set 15 dv')
  have HFS := Lib.hid ((Fr.refl (fun k => k = w.heap.size) w1).setCell (p := ⟨w.heap.size, 15, none⟩) (.inl rfl) dv')
  have HZ1 := Lib.hid (HZ0.out.nob hf1)
  have HF1 := Lib.hid (HF0.out.trans0 hf1)
  have HG1 := Lib.hid (HG.out.nob hf1)
  have HOD := Lib.hid hod
  have HN1 := Lib.hid hn1
  have hzz := HF0.out.size
  obtain ⟨Ad, cd, rfl, _, _⟩ := hod.form
  clear c15 hod hf1 hn1 hB1
  go_upto_region 2 with (fail)
  have HG2 := Lib.hid (HG1.out.fr HFS.out fun k hk e => by have := HGN.out k hk; omega)
  generalize w1.setCell ⟨w.heap.size, 15, none⟩ (.slice Ad s.dash.length cd) = w2 at *
  clear k15 f15
  have k24 : w2.cell? ⟨w.heap.size, 24, none⟩ = some (.slice A s.clips.length cap) := HB1.out.cell 24
  have HZ2 := Lib.hid (HZ1.out.fr HFS.out fun e => hne e.symm)
  have HF2 := Lib.hid (HF1.out.trans HFS.out fun k hk => .inr (by rw [hk]; exact Nat.le_refl _))
  have HOD2 := Lib.hid (HOD.out.fr HFS.out fun k hk e => by have := HN1.out k hk; subst e; have := HB0.out.lt; omega)
  have hb3 : Blk (w2.alloc (.cells (mkC s.clips.length) 93)) w2.heap.size _ 93 := Blk.new w2 _ _
  have hf3 : Fr Nob w2 (w2.alloc (.cells (mkC s.clips.length) 93)) := (Fr.refl Nob w2).alloc _
  have k24' : (w2.alloc (.cells (mkC s.clips.length) 93)).cell? ⟨w.heap.size, 24, none⟩ = some (.slice A s.clips.length cap) := (HB1.out.nob hf3).cell 24
  have HO3 := Lib.hid (hb3.made' hbc)
  have HF3 := Lib.hid hf3
  clear hb3 hf3
  go_upto_region 4 with (fail)
  generalize w2.alloc (.cells (mkC s.clips.length) 93) = w3 at *
  clear k24 k24' hmk
  obtain ⟨zs, hzl, hzx⟩ := HG2.out.c
  have hzn : zs.length = s.clips.length := by rw [← hzl, List.length_map]
  have HZL := Lib.hid hzl
  have HZN := Lib.hid hzn
  have HZX := Lib.hid hzx
  have HC0 : Hid (OwnC w2 w3 (.slice (some ⟨w2.heap.size, 0, none⟩) 0 s.clips.length) s.clips 0 [] (fun _ => False)) := by
    exact ⟨rfl, HO3.out, NewV.at w2 _ _, fun x hx => by simp at hx, fun j hj => hj.elim, fun j _ hj => hj, HF3.out⟩
  clear hzl hzn hzx HO3 HF3
  go_loopw [3, 19] (fun v q wr => ∃ (k : Nat) (xs : List (Clp × Value)) (S' : Nat → Prop), k ≤ s.clips.length ∧ q = .int .i64 k ∧ Hid (OwnC w2 wr v s.clips k xs S')) (fun _ q _ => s.clips.length - (intOf q).toNat)
  case atStart => exact ⟨0, [], _, by omega, rfl, HC0.out⟩
  case round =>
    obtain ⟨k, xs, S', hk, rfl, HC⟩ := hrel
    clear HC0
    by_cases hlt : k < s.clips.length
    · have hkz : k < zs.length := by rw [HZN.out]; exact hlt
      have hzk : zs[k].1 = s.clips[k] := by
        have := congrArg (fun l => l[k]?) HZL.out
        simp only [List.getElem?_map, List.getElem?_eq_getElem hkz, List.getElem?_eq_getElem hlt, Option.map_some, Option.some.injEq] at this
        exact this
      obtain ⟨b, off, cap', hv, _, _, _, hc⟩ := HZX.out.at (by omega)
      rw [HZN.out] at hv
      cases hv
      obtain ⟨d0, d1⟩ := hc k hkz
      have hrow := HZX.out.2 zs[k] (List.getElem_mem hkz)
      have hsm := HBD.out.p zs[k].1 (by rw [hzk]; exact List.getElem_mem hlt)
      have SN := Lib.hid (fun (wa wb wc wd : World) (vo v' : Value) => HC.out.snoc (wa := wa) (wb := wb) (wc := wc) (wd := wd) (vo := vo) (v' := v') hlt)
      rw [← hzk] at SN
      generalize zs[k] = z at *
      obtain ⟨⟨zp, ze⟩, zv⟩ := z
      simp only at d0 d1 hrow hsm SN
      obtain ⟨A2, cap2, rfl, _, _⟩ := hrow.form
      have i1 : (k : Int) < s.clips.length := by omega
      have e0 := cell_nob d0 HC.out.f
      have e1 := cell_nob d1 HC.out.f
      obtain ⟨Av, cv', rfl, _, _⟩ := HC.out.o.form
      have hfq : Fr Nob wr (wr.alloc (.cells #[.slice A2 zp.length cap2, .bool ze] 93)) := (Fr.refl Nob wr).alloc _
      have hbq : Blk (wr.alloc (.cells #[.slice A2 zp.length cap2, .bool ze] 93)) wr.heap.size #[.slice A2 zp.length cap2, .bool ze] 93 := Blk.new wr _ _
      have HFQ := Lib.hid hfq
      have HRQ := Lib.hid ((hrow.nob HC.out.f).nob hfq)
      have HLV := Lib.hid (HC.out.o.lt)
      have HSQ : Hid (∀ w', Fr (inB (.slice Av k cv')) (wr.alloc (.cells #[.slice A2 zp.length cap2, .bool ze] 93)) w' → w'.cell? ⟨wr.heap.size, 0, none⟩ = some (.slice A2 zp.length cap2) ∧ w'.cell? ⟨wr.heap.size, 1, none⟩ = some (.bool ze)) :=
        fun w' hw' => by
          have hb := hbq.fr hw' fun hh => by have := HLV.out _ hh; omega
          exact ⟨hb.cell 0, hb.cell 1⟩
      have HOV := Lib.hid (HC.out.o)
      clear hc hrow hzk hfq hbq d0 d1
      go_upto_region 6 with (fail)
      generalize wr.alloc (.cells #[.slice A2 zp.length cap2, .bool ze] 93) = wq at *
      obtain ⟨q0, q1⟩ := HSQ.out wq (Fr.refl _ _)
      go_region_held3 (fun w' => w'.cell? ⟨wr.heap.size, 0, none⟩ = some (.slice A2 zp.length cap2) ∧ w'.cell? ⟨wr.heap.size, 1, none⟩ = some (.bool ze))
        ((refine HSQ.out _ ?_; (repeat (first | exact Fr.refl _ _ | exact K2.out | exact K1g.out | refine Fr.alloc ?_ _ | refine Fr.drew ?_)); done))
        ((first
          | (go_at_call 84
             refine (clone_any _ zp _ _ (HRQ.out.nob (by repeat (first | exact Fr.refl _ _ | refine Fr.alloc ?_ _ | refine Fr.drew ?_))) (by omega)).mono ?_
             rintro e w5 ⟨vo, rfl, ho, hf5, hn5⟩
             have K1 := Lib.hid (show Fr Nob wq w5 from Fr.trans0 (by repeat (first | exact Fr.refl _ _ | refine Fr.alloc ?_ _ | refine Fr.drew ?_)) hf5)
             have K1g := Lib.hid (K1.out.mono (T := inB (.slice Av k cv')) fun _ hh => hh.elim)
             have HOo := Lib.hid ho
             have HNo := Lib.hid (show NewV wr vo from hn5.le (by have := HFQ.out.size; simp; omega))
             obtain ⟨A5, cap5, rfl, _, _⟩ := ho.form
             clear ho hf5 hn5)
          | (refine step_app rfl (.tmp 23) (.tmp 30) 29 rfl 93 i0 _ 2 32 Tryd.underlying29 hi.out hz0.out hz1.out hz2.out rfl (by decide) _ k (encX xs) (by rfl) ((HOV.out.nob HFQ.out).nob (Fr.trans0 K1.out (by repeat (first | exact Fr.refl _ _ | refine Fr.alloc ?_ _ | refine Fr.drew ?_)))) _ _ 1 [.slice A5 zp.length cap5, .bool ze] (by rfl) (Blk.row (n := 1) (cs := #[.slice A5 zp.length cap5, .bool ze]) (by first | exact Blk.new w5 _ _ | exact (Blk.new w5 _ _).drew) rfl (by decide)) (by intro u hu; simp at hu; rcases hu with rfl | rfl <;> rfl) (by unfold maxLen; omega) (by omega) ?_
             intro v6 w6 ho6 hf6 hat6 _
             have K2 := Lib.hid (show Fr (inB (.slice Av k cv')) wq w6 from Fr.trans (show Fr (inB (.slice Av k cv')) wq _ from (by repeat (first | exact K1g.out | refine Fr.alloc ?_ _ | refine Fr.drew ?_))) hf6 fun k hk => .inl hk)
             have HO6 := Lib.hid ho6
             have HF6 := Lib.hid hf6
             have HA6 := Lib.hid hat6
             obtain ⟨A6, cap6, rfl, _, _⟩ := ho6.form
             clear ho6 hf6 hat6)))
      go_wp2_with fail
      go_roundw
      case rel => exact ⟨k + 1, _, _, by omega, by go_num, SN.out wr w5 _ w6 _ _ (Fr.refl _ _) HOo.out HNo.out (HFQ.out.trans0 K1.out) (by repeat (first | exact Fr.refl _ _ | refine Fr.alloc ?_ _ | refine Fr.drew ?_)) HO6.out HF6.out (by simpa using HA6.out)⟩
      case measure => simp [intOf]; omega
    · have hge : s.clips.length ≤ k := by omega
      have HFC := Lib.hid (HC.out.f)
      obtain ⟨Av, cv', rfl, _, _⟩ := HC.out.o.form
      have HCL : Hid (OwnC w2 wr (.slice Av k cv') s.clips s.clips.length xs S') := by
        show OwnC w2 wr (.slice Av k cv') s.clips s.clips.length xs S'
        obtain rfl : k = s.clips.length := by omega
        exact HC.out
      have hBr := HB1.out.nob HC.out.f
      have k24 : wr.cell? ⟨w.heap.size, 24, none⟩ = some (.slice A s.clips.length cap) := hBr.cell 24
      have f24 := hBr.free 24
      have HBE := Lib.hid (show Blk (wr.setCell ⟨w.heap.size, 24, none⟩ (.slice Av k cv')) w.heap.size (encG s (.slice Ad s.dash.length cd) (.slice Av k cv')).toArray 79 from hBr.set 24 _)
      have hFS := (Fr.refl (fun k => k = w.heap.size) wr).setCell (p := ⟨w.heap.size, 24, none⟩) (.inl rfl) (.slice Av k cv')
      have HZE := Lib.hid ((HZ2.out.nob HC.out.f).fr hFS fun e => hne e.symm)
      have HFS2 := Lib.hid hFS
      clear hBr HC hFS
      go_wp2_with (first
        | (refine wpList_getAt rfl 79 (.tmp 1) rfl w.heap.size 0 (by rfl) (encG s (.slice Ad s.dash.length cd) (.slice Av k cv')) _ (HBE.out.range 0 _ (by rfl)) Tryd.underlying79 rfl sizeG ?_)
        | (refine wpList_putAt rfl 79 (.tmp 2) (.tmp 35) rfl (w.heap.size + 1) 0 (encG s (.slice Ad s.dash.length cd) (.slice Av k cv')) (by rfl) (by rfl) 79 _ HZE.out (Nat.le_refl 26) sizeG (encG_one _ _ _ ⟨_, _, _, rfl⟩ ⟨_, _, _, rfl⟩) ?_))
      intro w9 hb9 hf9
      rw [over_all (encG gZero nilV nilV).toArray (encG s (.slice Ad s.dash.length cd) (.slice Av k cv')) rfl] at hb9
      have HB9 := Lib.hid hb9
      have HF9 := Lib.hid hf9
      clear hb9 hf9 k24 f24
      go_wp2_with fail
      have z1 := HF2.out.size
      have z2 := HFC.out.size
      have z3 := HFS2.out.size
      have z4 := HF9.out.size
      have zb := HZ2.out.lt
      have zc := HN1.out
      have hF9 : Fr Nob w w9 := ((HF2.out.trans0 HFC.out).trans HFS2.out fun k hk => .inr (by rw [hk]; exact Nat.le_refl _)).trans HF9.out fun k hk => .inr (by rw [hk]; omega)
      refine bodyPost_ret (results_cl rfl _ _ _ 79 _ _ rfl HB9.out Tryd.underlying79 rfl sizeG) rfl ⟨_, _, xs, S', rfl, ?_, ?_, hF9⟩
      · have h1 := (HOD2.out.nob HFC.out).fr HFS2.out fun k hk e => by have := HN1.out k hk; have := HB0.out.lt; subst e; omega
        have h2 := h1.fr HF9.out fun k hk e => by have := HN1.out k hk; have := HZ0.out.lt; subst e; omega
        refine h2.row.mono fun k hk => ⟨?_, h2.lt k hk⟩
        have := HN1.out k hk; have := HZ0.out.lt; omega
      · refine HCL.out.re z1 ((HFS2.out.mono (T := fun k => k = w.heap.size ∨ k = w.heap.size + 1) fun k hk => .inl hk).trans (HF9.out.mono (T := fun k => k = w.heap.size ∨ k = w.heap.size + 1) fun k hk => .inr hk) fun k hk => .inl hk) (fun j hj => ?_) hF9
        rcases hj with e | e <;> omega
theorem OwnC.gin {w w' : World} {dv cv : Value} {s : Gst} {xs : List (Clp × Value)} {S : Nat → Prop} (hd : RowIn w' (Bt w w') 1 dv s.dash.length (ints s.dash)) (h : OwnC w w' cv s.clips s.clips.length xs S) : GIn w' (Bt w w') dv cv s := ⟨hd, h.clps⟩
theorem own_any (s : Gst) (dv cv : Value) (S : Nat → Prop) (w : World) (h : GIn w S dv cv s) (hb : SmallG s) :
    Calls Tryd.prog 83 #[gV s dv cv] w fun e w' => ∃ dv' cv', e = .returned (gV s dv' cv') ∧ GIn w' (Bt w w') dv' cv' s ∧ Fr Nob w w' := by
  refine (own_all s dv cv S w h hb).mono ?_
  rintro e w' ⟨dv', cv', xs, S', rfl, hd, hc, hf⟩
  exact ⟨dv', cv', rfl, OwnC.gin hd hc, hf⟩
end Go.Proofs.YtkkejjfmidgciaaDoor
/- The walk of the path's Copy. -/
namespace Go.Proofs.YtkkejjfmidgciaaDoor
open Go.RowKit
set_option linter.unusedVariables false
set_option linter.unusedSimpArgs false
set_option maxRecDepth 8000 in
set_option maxHeartbeats 1600000 in
theorem copy_any (g : Nat) (v : Value) (p : PS) (w : World) (h : Pth w g v p) (hb : PB p) :
    Calls Tryd.prog 90 #[.pointer (some ⟨g, 0, none⟩)] w fun e w' => ∃ g' v', e = .returned (.pointer (some ⟨g', 0, none⟩)) ∧ Pth w' g' v' p ∧ Fr Nob w w' ∧ ∀ k, ptB g' v' k → w.heap.size ≤ k := by
  have hS : ∀ w', Fr Nob w w' → w'.cell? ⟨g, 0, none⟩ = some (.int .i64 p.most) ∧ w'.cell? ⟨g, 1, none⟩ = some v ∧ w'.cell? ⟨g, 2, none⟩ = some (.int .i64 p.start.x) ∧ w'.cell? ⟨g, 3, none⟩ = some (.int .i64 p.start.y) ∧ w'.cell? ⟨g, 4, none⟩ = some (.int .i64 p.now.x) ∧ w'.cell? ⟨g, 5, none⟩ = some (.int .i64 p.now.y) := fun w' hw' => by
    have hc := (h.nob hw').cells
    exact ⟨hc.c0, hc.c1, hc.c2, hc.c3, hc.c4, hc.c5⟩
  have HS := Lib.hid hS
  have HH := Lib.hid h
  have hl := hb.len
  obtain ⟨A, cap, rfl, h1, h2⟩ := h.form
  clear h hb hS
  go_enter Tryd.func90, Tryd.ntmps90
  go_wp2_with fail
  obtain ⟨c0, c1, c2, c3, c4, c5⟩ := HS.out w (Fr.refl _ _)
  go_region_held3 (fun w' => w'.cell? ⟨g, 0, none⟩ = some (.int .i64 p.most) ∧ w'.cell? ⟨g, 1, none⟩ = some (.slice A p.list.length cap) ∧ w'.cell? ⟨g, 2, none⟩ = some (.int .i64 p.start.x) ∧ w'.cell? ⟨g, 3, none⟩ = some (.int .i64 p.start.y) ∧ w'.cell? ⟨g, 4, none⟩ = some (.int .i64 p.now.x) ∧ w'.cell? ⟨g, 5, none⟩ = some (.int .i64 p.now.y))
    ((refine HS.out _ ?_; (repeat (first | exact Fr.refl _ _ | exact H1.out | refine Fr.alloc ?_ _ | refine Fr.drew ?_)); done))
    ((go_at_call 84
      refine (clone_any _ p.list _ _ (HH.out.2.row.fr (show Fr Nob w _ by repeat (first | exact Fr.refl _ _ | refine Fr.alloc ?_ _ | refine Fr.drew ?_)) fun _ _ hh => hh) (by omega)).mono ?_
      rintro e w1 ⟨vo, rfl, ho, hf, hn⟩
      have H1 := Lib.hid (show Fr Nob w w1 from Fr.trans0 (by repeat (first | exact Fr.refl _ _ | refine Fr.alloc ?_ _ | refine Fr.drew ?_)) hf)
      have HO := Lib.hid ho
      have HN := Lib.hid (show NewV w vo from hn.le (by simp))
      obtain ⟨A1, cap1, rfl, _, _⟩ := ho.form
      clear ho hf hn))
  go_wp2_with fail
  go_ret
  refine ⟨_, _, rfl, ⟨Blk.new w1 _ _, HO.out.nob ((Fr.refl Nob w1).alloc _)⟩, H1.out.alloc _, ?_⟩
  rintro k (rfl | hk)
  · exact H1.out.size
  · exact HN.out k hk
end Go.Proofs.YtkkejjfmidgciaaDoor
/- The walks of Now, Depth, Path, copied. -/
namespace Go.Proofs.YtkkejjfmidgciaaDoor
open Go.RowKit
set_option linter.unusedVariables false
set_option linter.unusedSimpArgs false
/-- The cells of the states' block. -/
theorem GsX.cells {w : World} {g : Nat} {F : Nat → Prop} {s : GS} {lab : Nat → Nat} {x : LvG} {sv : Value} {xs : List (Lv × LvG)} (h : GsX w g F s lab x sv xs) :
    Blk w g #[.int .i64 s.cur.st.ctm.a, .int .i64 s.cur.st.ctm.b, .int .i64 s.cur.st.ctm.c, .int .i64 s.cur.st.ctm.d, .int .i64 s.cur.st.ctm.e, .int .i64 s.cur.st.ctm.f, .int .i64 s.cur.st.col.sp, .int .i64 s.cur.st.col.p0, .int .i64 s.cur.st.col.p1, .int .i64 s.cur.st.col.p2, .int .i64 s.cur.st.col.p3, .int .i64 s.cur.st.width, .int .i64 s.cur.st.cap, .int .i64 s.cur.st.join, .int .i64 s.cur.st.miter, x.dv, .int .i64 s.cur.st.phase, .int .i64 s.cur.st.font, .int .i64 s.cur.st.fm.a, .int .i64 s.cur.st.fm.b, .int .i64 s.cur.st.fm.c, .int .i64 s.cur.st.fm.d, .int .i64 s.cur.st.fm.e, .int .i64 s.cur.st.fm.f, x.cv, .bool s.cur.st.dark, .pointer (some ⟨x.pg, 0, none⟩), .int .i64 s.most, .int .i64 s.segs, sv] 124 := h.b
/-- The bounds under which states are walked. -/
structure SmallS (s : GS) : Prop where
  c : SmallG s.cur.st
  p : PB s.cur.p
  v : ∀ l ∈ s.saved, SmallG l.st ∧ PB l.p
  n : s.saved.length ≤ 1000
  m : -9223372036854775808 ≤ s.most ∧ s.most ≤ 9223372036854775807
theorem gdepth_any (g : Nat) (F : Nat → Prop) (s : GS) (w : World) (h : Gs w g F s) : Calls Tryd.prog 35 #[.pointer (some ⟨g, 0, none⟩)] w fun e w' => e = .returned (.int .i64 s.saved.length) ∧ w = w' := by
  obtain ⟨lab, x, sv, xs, h⟩ := h
  have c29 : w.cell? ⟨g, 29, none⟩ = some sv := h.cells.cell 29
  obtain ⟨A, cap, rfl, _, _⟩ := h.o.form
  have hn : xs.length = s.saved.length := by rw [← h.l, List.length_map]
  rw [hn] at c29
  clear h hn
  go_enter Tryd.func35, Tryd.ntmps35
  go_wp2
  go_ret
  exact ⟨rfl, rfl⟩
theorem gdepth_none (w : World) : Calls Tryd.prog 35 #[.pointer none] w fun e w' => e = .returned (.int .i64 0) ∧ w = w' := by
  go_enter Tryd.func35, Tryd.ntmps35
  go_wp2
  go_ret
  exact ⟨rfl, rfl⟩
theorem gpath_none (w : World) : Calls Tryd.prog 33 #[.pointer none] w fun e w' => e = .returned (.pointer none) ∧ w = w' := by
  go_enter Tryd.func33, Tryd.ntmps33
  go_wp2
  go_ret
  exact ⟨rfl, rfl⟩
theorem gpath_any (g : Nat) (F : Nat → Prop) (s : GS) (w : World) (lab : Nat → Nat) (x : LvG) (sv : Value) (xs : List (Lv × LvG)) (h : GsX w g F s lab x sv xs) :
    Calls Tryd.prog 33 #[.pointer (some ⟨g, 0, none⟩)] w fun e w' => e = .returned (.pointer (some ⟨x.pg, 0, none⟩)) ∧ w = w' := by
  have c26 : w.cell? ⟨g, 26, none⟩ = some (.pointer (some ⟨x.pg, 0, none⟩)) := h.cells.cell 26
  clear h
  go_enter Tryd.func33, Tryd.ntmps33
  go_wp2
  go_ret
  exact ⟨rfl, rfl⟩
theorem gnow_any (g : Nat) (F : Nat → Prop) (s : GS) (w : World) (h : Gs w g F s) (hb : SmallG s.cur.st) :
    Calls Tryd.prog 32 #[.pointer (some ⟨g, 0, none⟩)] w fun e w' => ∃ dv cv, e = .returned (gV s.cur.st dv cv) ∧ GIn w' (Bt w w') dv cv s.cur.st ∧ Fr Nob w w' := by
  obtain ⟨lab, x, sv, xs, h⟩ := h
  have hf0 : Fr Nob w (w.alloc (.cells #[.int .i64 0, .int .i64 0, .int .i64 0, .int .i64 0, .int .i64 0, .int .i64 0, .int .i64 0, .int .i64 0, .int .i64 0, .int .i64 0, .int .i64 0, .int .i64 0, .int .i64 0, .int .i64 0, .int .i64 0, .slice none 0 0, .int .i64 0, .int .i64 0, .int .i64 0, .int .i64 0, .int .i64 0, .int .i64 0, .int .i64 0, .int .i64 0, .slice none 0 0, .bool false] 79)) := (Fr.refl Nob w).alloc _
  have HZ := Lib.hid (show Blk (w.alloc (.cells #[.int .i64 0, .int .i64 0, .int .i64 0, .int .i64 0, .int .i64 0, .int .i64 0, .int .i64 0, .int .i64 0, .int .i64 0, .int .i64 0, .int .i64 0, .int .i64 0, .int .i64 0, .int .i64 0, .int .i64 0, .slice none 0 0, .int .i64 0, .int .i64 0, .int .i64 0, .int .i64 0, .int .i64 0, .int .i64 0, .int .i64 0, .int .i64 0, .slice none 0 0, .bool false] 79)) w.heap.size (encG gZero nilV nilV).toArray 79 from Blk.new w _ _)
  have HC := Lib.hid (h.cells.nob hf0)
  have HG := Lib.hid (h.c.g.nob hf0)
  have HF := Lib.hid hf0
  have HB := Lib.hid hb
  clear h hf0 hb
  go_enter Tryd.func32, Tryd.ntmps32
  go_wp2_with (refine wpList_getAt rfl 79 (.tmp 9) rfl g 0 (by rfl) (encG s.cur.st x.dv x.cv) _ (HC.out.range 0 _ (by rfl)) Tryd.underlying79 rfl sizeG ?_)
  generalize w.alloc (.cells #[.int .i64 0, .int .i64 0, .int .i64 0, .int .i64 0, .int .i64 0, .int .i64 0, .int .i64 0, .int .i64 0, .int .i64 0, .int .i64 0, .int .i64 0, .int .i64 0, .int .i64 0, .int .i64 0, .int .i64 0, .slice none 0 0, .int .i64 0, .int .i64 0, .int .i64 0, .int .i64 0, .int .i64 0, .int .i64 0, .int .i64 0, .int .i64 0, .slice none 0 0, .bool false] 79) = wa at *
  refine (own_any s.cur.st x.dv x.cv _ wa HG.out HB.out).mono ?_
  rintro e w1 ⟨dv, cv, rfl, hg, hf1⟩
  have HG1 := Lib.hid hg
  have HF1 := Lib.hid hf1
  have HZ1 := Lib.hid (HZ.out.nob hf1)
  obtain ⟨Ad, cd, hdv, _⟩ := hg.d.form
  obtain ⟨Ac, cc, hcv, _⟩ := hg.c.form
  have HONE := Lib.hid (encG_one s.cur.st dv cv ⟨_, _, _, hdv⟩ ⟨_, _, _, hcv⟩)
  clear hg hf1 hdv hcv
  unfold gV
  go_wp2_with (refine wpList_putAt rfl 79 (.tmp 2) (.tmp 11) rfl w.heap.size 0 (encG s.cur.st dv cv) (by rfl) (by rfl) 79 _ HZ1.out (Nat.le_refl 26) sizeG HONE.out ?_)
  intro w3 hb3 hf3
  rw [over_all (encG gZero nilV nilV).toArray (encG s.cur.st dv cv) rfl] at hb3
  have HB3 := Lib.hid hb3
  have H3 := Lib.hid hf3
  clear hb3 hf3
  go_wp2_with fail
  have z1 := HF.out.size
  have z2 := HZ.out.lt
  have z3 := H3.out.size
  refine bodyPost_ret (results_cl rfl _ _ _ 79 _ _ rfl HB3.out Tryd.underlying79 rfl sizeG) rfl ⟨dv, cv, rfl, ?_, ?_⟩
  · refine (HG1.out.fr H3.out fun k hk e => ?_).mono fun k hk => ⟨?_, ?_⟩
    · have := hk.1; subst e; omega
    · exact Nat.le_trans z1 hk.1
    · exact Nat.lt_of_lt_of_le hk.2 z3
  · exact (HF.out.trans0 HF1.out).trans H3.out fun k hk => .inr (by rw [hk]; exact Nat.le_refl _)
end Go.Proofs.YtkkejjfmidgciaaDoor
