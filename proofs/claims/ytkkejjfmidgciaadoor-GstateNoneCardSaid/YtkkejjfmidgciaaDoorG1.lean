/-
  Graphics states as Lean values: states, levels, what is saved; where they lie in memory. No conditions.
-/
import Derived.Test.YtkkejjfmidgciaaDoorQ0
namespace Go.Proofs.YtkkejjfmidgciaaDoor
open Go.RowKit
set_option linter.unusedVariables false
set_option linter.unusedSimpArgs false
structure M6 where
  a : Int
  b : Int
  c : Int
  d : Int
  e : Int
  f : Int
deriving DecidableEq
structure Col where
  sp : Int
  p0 : Int
  p1 : Int
  p2 : Int
  p3 : Int
deriving DecidableEq
structure Clp where
  path : List Sg
  eo : Bool
deriving DecidableEq
structure Gst where
  ctm : M6
  col : Col
  width : Int
  cap : Int
  join : Int
  miter : Int
  dash : List Int
  phase : Int
  font : Int
  fm : M6
  clips : List Clp
  dark : Bool
deriving DecidableEq
def encM (m : M6) : List Value := [.int .i64 m.a, .int .i64 m.b, .int .i64 m.c, .int .i64 m.d, .int .i64 m.e, .int .i64 m.f]
def ints (ks : List Int) : List Value := ks.map (.int .i64)
theorem ints_len (ks : List Int) : (ints ks).length = ks.length := by simp [ints]
theorem ints_one (ks : List Int) : ∀ u ∈ ints ks, u.oneCell' = true := by
  intro u hu
  simp only [ints, List.mem_map] at hu
  obtain ⟨x, _, rfl⟩ := hu
  rfl
theorem ints_at {ks : List Int} {j : Nat} (h : j < ks.length) : (ints ks)[j]? = some (.int .i64 ks[j]) := by simp [ints, List.getElem?_eq_getElem h]
/-- The cells of a state; dv, cv: its dashes, its clips. -/
def encG (s : Gst) (dv cv : Value) : List Value := [.int .i64 s.ctm.a, .int .i64 s.ctm.b, .int .i64 s.ctm.c, .int .i64 s.ctm.d, .int .i64 s.ctm.e, .int .i64 s.ctm.f,
  .int .i64 s.col.sp, .int .i64 s.col.p0, .int .i64 s.col.p1, .int .i64 s.col.p2, .int .i64 s.col.p3,
  .int .i64 s.width, .int .i64 s.cap, .int .i64 s.join, .int .i64 s.miter, dv, .int .i64 s.phase,
  .int .i64 s.font, .int .i64 s.fm.a, .int .i64 s.fm.b, .int .i64 s.fm.c, .int .i64 s.fm.d, .int .i64 s.fm.e, .int .i64 s.fm.f, cv, .bool s.dark]
/-! Clips. -/
def encX (xs : List (Clp × Value)) : List Value := xs.flatMap fun x => [x.2, .bool x.1.eo]
theorem encX_cons (x : Clp × Value) (r : List (Clp × Value)) : encX (x :: r) = x.2 :: .bool x.1.eo :: encX r := rfl
theorem encX_append (a b : List (Clp × Value)) : encX (a ++ b) = encX a ++ encX b := by simp [encX]
theorem encX_len (l : List (Clp × Value)) : (encX l).length = l.length * 2 := by
  induction l with
  | nil => rfl
  | cons a r ih => rw [encX_cons, List.length_cons, List.length_cons, List.length_cons, ih]; omega
theorem encX_at (l : List (Clp × Value)) (k j : Nat) (hk : k < l.length) (hj : j < 2) : (encX l)[k * 2 + j]? = ([l[k].2, .bool l[k].1.eo] : List Value)[j]? := by
  induction l generalizing k with
  | nil => simp at hk
  | cons a r ih =>
    rw [encX_cons]
    cases k with
    | zero => match j, hj with
      | 0, _ => rfl
      | 1, _ => rfl
    | succ k =>
      rw [show (k + 1) * 2 + j = (k * 2 + j) + 1 + 1 by omega, List.getElem?_cons_succ, List.getElem?_cons_succ]
      exact ih k (by simpa using hk)
/-- Clips that are read: their list, and the lists within. -/
def ClpsX (w : World) (S : Nat → Prop) (v : Value) (xs : List (Clp × Value)) : Prop :=
  RowIn w S 2 v xs.length (encX xs) ∧ ∀ x ∈ xs, RowIn w S 7 x.2 x.1.path.length (encSs x.1.path)
def Clps (w : World) (S : Nat → Prop) (v : Value) (l : List Clp) : Prop := ∃ xs : List (Clp × Value), xs.map Prod.fst = l ∧ ClpsX w S v xs
theorem ClpsX.fr {w w' : World} {S T : Nat → Prop} {v : Value} {xs : List (Clp × Value)} (h : ClpsX w S v xs) (hf : Fr T w w') (hd : ∀ k, S k → ¬ T k) : ClpsX w' S v xs :=
  ⟨h.1.fr hf hd, fun x hx => (h.2 x hx).fr hf hd⟩
theorem ClpsX.mono {w : World} {S T : Nat → Prop} {v : Value} {xs : List (Clp × Value)} (h : ClpsX w S v xs) (hs : ∀ k, S k → T k) : ClpsX w T v xs := ⟨h.1.mono hs, fun x hx => (h.2 x hx).mono hs⟩
theorem Clps.fr {w w' : World} {S T : Nat → Prop} {v : Value} {l : List Clp} (h : Clps w S v l) (hf : Fr T w w') (hd : ∀ k, S k → ¬ T k) : Clps w' S v l := by
  obtain ⟨xs, h1, h2⟩ := h
  exact ⟨xs, h1, h2.fr hf hd⟩
theorem Clps.mono {w : World} {S T : Nat → Prop} {v : Value} {l : List Clp} (h : Clps w S v l) (hs : ∀ k, S k → T k) : Clps w T v l := by
  obtain ⟨xs, h1, h2⟩ := h
  exact ⟨xs, h1, h2.mono hs⟩
theorem Clps.nil (w : World) (S : Nat → Prop) : Clps w S (.slice none 0 0) [] := ⟨[], rfl, RowIn.nil _ _ _, fun x hx => by simp at hx⟩
theorem Clps.form {w : World} {S : Nat → Prop} {v : Value} {l : List Clp} (h : Clps w S v l) : ∃ A cap, v = .slice A l.length cap ∧ l.length ≤ cap ∧ cap ≤ maxLen := by
  obtain ⟨xs, rfl, h2, _⟩ := h
  obtain ⟨A, cap, hv, h3, h4⟩ := h2.form
  exact ⟨A, cap, by rw [hv, List.length_map], by rw [List.length_map]; exact h3, h4⟩
theorem Clps.lts {w : World} {S : Nat → Prop} {v : Value} {l : List Clp} (h : Clps w S v l) : Clps w (fun k => S k ∧ k < w.heap.size) v l := by
  obtain ⟨xs, h1, h2, h3⟩ := h
  exact ⟨xs, h1, h2.lts, fun x hx => (h3 x hx).lts⟩
/-- The two cells of a clip. -/
theorem ClpsX.at {w : World} {S : Nat → Prop} {v : Value} {xs : List (Clp × Value)} (h : ClpsX w S v xs) (hn : 0 < xs.length) :
    ∃ b off cap, v = .slice (some ⟨b, off, none⟩) xs.length cap ∧ xs.length ≤ cap ∧ cap ≤ 9223372036854775807 ∧ S b ∧ ∀ k (hk : k < xs.length), w.cell? ⟨b, off + k * 2, none⟩ = some xs[k].2 ∧ w.cell? ⟨b, off + k * 2 + 1, none⟩ = some (.bool xs[k].1.eo) := by
  obtain ⟨b, off, cap, hv, h1, h2, hS, hc⟩ := h.1.pos (by rw [encX_len]; omega)
  refine ⟨b, off, cap, hv, h1, h2, hS, fun k hk => ⟨?_, ?_⟩⟩
  · exact hc (k * 2 + 0) _ (by rw [encX_at xs k 0 hk (by omega)]; rfl)
  · rw [Nat.add_assoc]; exact hc (k * 2 + 1) _ (by rw [encX_at xs k 1 hk (by omega)]; rfl)
/-- The memory of a state. -/
structure GIn (w : World) (S : Nat → Prop) (dv cv : Value) (s : Gst) : Prop where
  d : RowIn w S 1 dv s.dash.length (ints s.dash)
  c : Clps w S cv s.clips
theorem GIn.fr {w w' : World} {S T : Nat → Prop} {dv cv : Value} {s : Gst} (h : GIn w S dv cv s) (hf : Fr T w w') (hd : ∀ k, S k → ¬ T k) : GIn w' S dv cv s := ⟨h.d.fr hf hd, h.c.fr hf hd⟩
theorem GIn.nob {w w' : World} {S : Nat → Prop} {dv cv : Value} {s : Gst} (h : GIn w S dv cv s) (hf : Fr Nob w w') : GIn w' S dv cv s := h.fr hf fun _ _ hh => hh
theorem GIn.mono {w : World} {S T : Nat → Prop} {dv cv : Value} {s : Gst} (h : GIn w S dv cv s) (hs : ∀ k, S k → T k) : GIn w T dv cv s := ⟨h.d.mono hs, h.c.mono hs⟩
theorem GIn.lts {w : World} {S : Nat → Prop} {dv cv : Value} {s : Gst} (h : GIn w S dv cv s) : GIn w (fun k => S k ∧ k < w.heap.size) dv cv s := ⟨h.d.lts, h.c.lts⟩
/-- A level: a state, and the path with it. -/
structure Lv where
  st : Gst
  p : PS
/-- Where a level lies. -/
structure LvG where
  dv : Value
  cv : Value
  pv : Value
  pg : Nat
def encL (l : Lv) (x : LvG) : List Value := encG l.st x.dv x.cv ++ [.pointer (some ⟨x.pg, 0, none⟩)]
structure LvIn (w : World) (S P : Nat → Prop) (l : Lv) (x : LvG) : Prop where
  g : GIn w S x.dv x.cv l.st
  p : Pth w x.pg x.pv l.p
  b : ∀ k, ptB x.pg x.pv k → P k
theorem LvIn.fr {w w' : World} {S P T : Nat → Prop} {l : Lv} {x : LvG} (h : LvIn w S P l x) (hf : Fr T w w') (hS : ∀ k, S k → ¬ T k) (hP : ∀ k, P k → ¬ T k) : LvIn w' S P l x :=
  ⟨h.g.fr hf hS, h.p.fr hf fun k hk => hP k (h.b k hk), h.b⟩
theorem LvIn.mono {w : World} {S P S' P' : Nat → Prop} {l : Lv} {x : LvG} (h : LvIn w S P l x) (hS : ∀ k, S k → S' k) (hP : ∀ k, P k → k < w.heap.size → P' k) : LvIn w S' P' l x :=
  ⟨h.g.mono hS, h.p, fun k hk => hP k (h.b k hk) (h.p.lt k hk)⟩
theorem LvIn.lts {w : World} {S P : Nat → Prop} {l : Lv} {x : LvG} (h : LvIn w S P l x) : LvIn w (fun k => S k ∧ k < w.heap.size) (fun k => P k ∧ k < w.heap.size) l x :=
  ⟨h.g.lts, h.p, fun k hk => ⟨h.b k hk, h.p.lt k hk⟩⟩
/-- States: the level that is, those that are saved. -/
structure GS where
  cur : Lv
  most : Int
  segs : Int
  saved : List Lv
def encLs (xs : List (Lv × LvG)) : List Value := xs.flatMap fun x => encL x.1 x.2
/-- Where the parts of states lie: lab tells the blocks apart: 0 what is never written, 1 the states and the list of what is saved, 2 the path that is, from 3 on the saved paths. -/
structure GsX (w : World) (g : Nat) (F : Nat → Prop) (s : GS) (lab : Nat → Nat) (x : LvG) (sv : Value) (xs : List (Lv × LvG)) : Prop where
  l : xs.map Prod.fst = s.saved
  b : Blk w g (encL s.cur x ++ [.int .i64 s.most, .int .i64 s.segs, sv]).toArray 124
  g1 : F g ∧ lab g = 1
  o : OwnS w 121 27 sv xs.length (encLs xs)
  o1 : ∀ k, sv.ownBlock = some k → F k ∧ lab k = 1
  c : LvIn w (fun k => F k ∧ lab k = 0) (fun k => F k ∧ lab k = 2) s.cur x
  s : ∀ i (h : i < xs.length), LvIn w (fun k => F k ∧ lab k = 0) (fun k => F k ∧ lab k = i + 3) xs[i].1 xs[i].2
def Gs (w : World) (g : Nat) (F : Nat → Prop) (s : GS) : Prop := ∃ lab x sv xs, GsX w g F s lab x sv xs
theorem GsX.nob {w w' : World} {g : Nat} {F : Nat → Prop} {s : GS} {lab : Nat → Nat} {x : LvG} {sv : Value} {xs : List (Lv × LvG)} (h : GsX w g F s lab x sv xs) {T : Nat → Prop} (hf : Fr T w w') (hT : ∀ k, F k → ¬ T k) : GsX w' g F s lab x sv xs :=
  ⟨h.l, h.b.fr hf (hT _ h.g1.1), h.g1, h.o.fr hf fun k hk => hT k (h.o1 k hk).1, h.o1, h.c.fr hf (fun k hk => hT k hk.1) fun k hk => hT k hk.1, fun i hi => (h.s i hi).fr hf (fun k hk => hT k hk.1) fun k hk => hT k hk.1⟩
theorem Gs.fr {w w' : World} {g : Nat} {F T : Nat → Prop} {s : GS} (h : Gs w g F s) (hf : Fr T w w') (hT : ∀ k, F k → ¬ T k) : Gs w' g F s := by
  obtain ⟨lab, x, sv, xs, h⟩ := h
  exact ⟨lab, x, sv, xs, h.nob hf hT⟩
theorem Gs.nob {w w' : World} {g : Nat} {F : Nat → Prop} {s : GS} (h : Gs w g F s) (hf : Fr Nob w w') : Gs w' g F s := h.fr hf fun _ _ hh => hh
theorem Gs.mono {w : World} {g : Nat} {F F' : Nat → Prop} {s : GS} (h : Gs w g F s) (hF : ∀ k, F k → F' k) : Gs w g F' s := by
  obtain ⟨lab, x, sv, xs, h⟩ := h
  exact ⟨lab, x, sv, xs, h.l, h.b, ⟨hF _ h.g1.1, h.g1.2⟩, h.o, fun k hk => ⟨hF _ (h.o1 k hk).1, (h.o1 k hk).2⟩, h.c.mono (fun k hk => ⟨hF _ hk.1, hk.2⟩) (fun k hk _ => ⟨hF _ hk.1, hk.2⟩),
    fun i hi => (h.s i hi).mono (fun k hk => ⟨hF _ hk.1, hk.2⟩) (fun k hk _ => ⟨hF _ hk.1, hk.2⟩)⟩
/-- What was there, and new blocks. -/
def Ext (F : Nat → Prop) (w w' : World) : Nat → Prop := fun k => F k ∨ Bt w w' k
/-- What a step leaves of states. -/
def GsTo (w : World) (g : Nat) (F : Nat → Prop) (s : GS) (w' : World) : Prop := Gs w' g (Ext F w w') s ∧ Fr F w w'
theorem Fr.le {S : Nat → Prop} {w w' : World} (h : Fr S w w') : w.heap.size ≤ w'.heap.size := h.size
theorem GsTo.same {w w' : World} {g : Nat} {F : Nat → Prop} {s : GS} (h : Gs w g F s) (hf : Fr Nob w w') : GsTo w g F s w' := ⟨(h.nob hf).mono fun k hk => .inl hk, hf.mono fun _ hh => hh.elim⟩
/-- States of one's own: all their blocks are new since w0. -/
def LG (w0 w : World) (g : Nat) (s : GS) : Prop := Gs w g (fun k => w0.heap.size ≤ k) s ∧ Fr Nob w0 w
theorem LG.nob {w0 w w' : World} {g : Nat} {s : GS} (h : LG w0 w g s) (hf : Fr Nob w w') : LG w0 w' g s := ⟨h.1.nob hf, h.2.trans0 hf⟩
theorem LG.to {w0 w w' : World} {g : Nat} {s s' : GS} (h : LG w0 w g s) (ht : GsTo w g (fun k => w0.heap.size ≤ k) s' w') : LG w0 w' g s' :=
  ⟨ht.1.mono fun k hk => hk.elim id fun hk => Nat.le_trans h.2.size hk.1, h.2.trans ht.2 fun k hk => .inr hk⟩
end Go.Proofs.YtkkejjfmidgciaaDoor
