/-
  Texts joined in build order: The names of the fonts in memory; the walk of font.Name. What the listed variable gives: the names of the fonts stand in it. Graphics states as Lean values: states, levels, what is saved; where they lie in memory. No conditions. Whole rows: stores into a block that is known whole, loads out of it. No program, no conditions. The walks of Identity, Start, New. The walks of slices.Clone of numbers, of own. The walk of the path's Copy. The walks of Now, Depth, Path, copied. A region that draws its order, whose last operation waits for all others: it comes last; the others go under a condition that the last one need not keep. No program, no conditions. The walk of copied. The walks of slices.ContainsFunc over numbers, of check, shape. How states lie behind a change: labels anew, fields anew. No walk. A level more is saved: how states lie then. No walk.
-/
import Derived.Test.YtkkejjfmidgciaaDoorJBal1
import Derived.Test.YtkkejjfmidgciaaDoorRows
import Derived.ProofKit
import Derived.LaidMore
import Derived.OpenShut
import Derived.Stop.Joined
import Derived.Deep.MidRow
import Derived.Deep.RegionHeld3
import Derived.Deep.CutBlock
/- The names of the fonts in memory; the walk of font.Name. -/
namespace Go.Proofs.YtkkejjfmidgciaaDoor
open Go.RowKit
set_option linter.unusedVariables false
set_option linter.unusedSimpArgs false
def nameL : List (List UInt8) := [[67, 111, 117, 114, 105, 101, 114], [67, 111, 117, 114, 105, 101, 114, 45, 66, 111, 108, 100], [67, 111, 117, 114, 105, 101, 114, 45, 79, 98, 108, 105, 113, 117, 101], [67, 111, 117, 114, 105, 101, 114, 45, 66, 111, 108, 100, 79, 98, 108, 105, 113, 117, 101], [72, 101, 108, 118, 101, 116, 105, 99, 97], [72, 101, 108, 118, 101, 116, 105, 99, 97, 45, 66, 111, 108, 100], [72, 101, 108, 118, 101, 116, 105, 99, 97, 45, 79, 98, 108, 105, 113, 117, 101], [72, 101, 108, 118, 101, 116, 105, 99, 97, 45, 66, 111, 108, 100, 79, 98, 108, 105, 113, 117, 101], [84, 105, 109, 101, 115, 45, 82, 111, 109, 97, 110], [84, 105, 109, 101, 115, 45, 66, 111, 108, 100], [84, 105, 109, 101, 115, 45, 73, 116, 97, 108, 105, 99], [84, 105, 109, 101, 115, 45, 66, 111, 108, 100, 73, 116, 97, 108, 105, 99], [83, 121, 109, 98, 111, 108], [90, 97, 112, 102, 68, 105, 110, 103, 98, 97, 116, 115]]
def nameS (i : Nat) : ByteArray := ⟨(nameL.getD i []).toArray⟩
def NamesIn (w : World) : Prop := ∀ i, i < 14 → w.cell? ⟨0, i, none⟩ = some (.string (nameS i))
theorem NamesIn.below {w w' : World} (h : NamesIn w) (hb : Below w.heap.size w w') : NamesIn w' := fun i hi => by
  rw [hb.cell (p := ⟨0, i, none⟩) (World.block_lt_of_cell? w _ (h i hi))]; exact h i hi

def nameF (i : Int) : ByteArray := if i < 0 ∨ 14 ≤ i then ⟨#[]⟩ else nameS i.toNat
theorem name_any (i : Int) (w : World) (hN : NamesIn w) : Calls Tryd.prog 104 #[.int .i64 i] w fun e w' => e = .returned (.string (nameF i)) ∧ w = w' := by
  by_cases h1 : i < 0
  · rw [show nameF i = ⟨#[]⟩ by simp [nameF, h1]]
    clear hN
    go_enter Tryd.func104, Tryd.ntmps104; go_wp2; go_ret; exact ⟨rfl, rfl⟩
  by_cases h2 : 14 ≤ i
  · rw [show nameF i = ⟨#[]⟩ by simp [nameF, h2]]
    clear hN
    go_enter Tryd.func104, Tryd.ntmps104; go_wp2; go_ret; exact ⟨rfl, rfl⟩
  · obtain ⟨n, rfl⟩ : ∃ n : Nat, i = n := ⟨i.toNat, by omega⟩
    have hn : n < 14 := by omega
    have hc := hN n hn
    rw [show nameF (n : Int) = nameS n by simp only [nameF]; rw [if_neg (by omega)]; rfl]
    generalize nameS n = s at *
    clear hN
    go_enter Tryd.func104, Tryd.ntmps104; go_wp2; go_ret; exact ⟨rfl, rfl⟩

theorem NamesIn.nob {w w' : World} (h : NamesIn w) (hf : Fr Nob w w') : NamesIn w' := h.below hf.to_below
theorem NamesIn.fr {w w' : World} {S : Nat → Prop} (h : NamesIn w) (hf : Fr S w w') (h0 : ¬ S 0) : NamesIn w' := fun i hi => cell_fr (h i hi) hf h0
theorem NamesIn.pos {w : World} (h : NamesIn w) : 0 < w.heap.size := World.block_lt_of_cell? w _ (h 0 (by omega))
end Go.Proofs.YtkkejjfmidgciaaDoor
/- What the listed variable gives: the names of the fonts stand in it. -/
namespace Go.Proofs.YtkkejjfmidgciaaDoor
open Go.ChangeShapes Go.WideShapes Go.ChangeAt Go.WideMaps Go.WideElems Go.RowKit
set_option linter.unusedVariables false
set_option linter.unusedSimpArgs false
theorem own : ownKnob Tryd.prog.godebug = none := by kernel_rfl
theorem gNames : Tryd.prog.globalNamed "mezzotint/font.names" = some 0 := by kernel_rfl
theorem tNames : (Tryd.prog.globals[0]?).map (·.type) = some 167 := by kernel_rfl
abbrev laidL {H : Type} : List (String × DataW H) := [("mezzotint/font.names", Rows.laid_mezzotint_font_names)]
theorem door_met (os : Os) (args : Array Value) : laidMetH Tryd.prog laidL ((World.doorLaid Tryd.prog 400 os).forCall (fun _ _ => 0) ⟨#[], args, []⟩).memory :=
  laidMetH_of_parts3 (fuel := 8) (laidMet_of_run' 8 (by kernel_rfl) (by kernel_rfl)) (by kernel_rfl) (by kernel_rfl)
theorem of_laid {W : World} (h : laidMetH Tryd.prog laidL W) : NamesIn W := by
  rw [MakeChecks.laidMetH_plain _ _ _ (by kernel_rfl)] at h
  obtain ⟨ps, ⟨g0, t0, cs0, f0, p0, q0, hg0, ht0, hv0, hd0, _, _⟩, _, _⟩ := h
  obtain rfl := Option.some.inj (gNames.symm.trans hg0)
  obtain rfl := Option.some.inj (tNames.symm.trans ht0)
  obtain ⟨xs, m1, rfl, hx1, hlen, hn3, hel⟩ := DataW.trod_array Tryd.underlying167 hd0
  have c9 : Tryd.prog.cellsOf 9 = 1 := by kernel_rfl
  have c36 : Tryd.prog.cellsOf 167 = 14 := by kernel_rfl
  rw [c36] at hlen
  simp only [Prod.mk.injEq] at hx1
  intro i hi
  have hi' := hel i hi
  have hxi : xs[i]? = some xs[i] := List.getElem?_eq_getElem (by omega)
  rw [hxi, c9] at hi'
  have hci : (cs0.toList.drop (i * 1)).take 1 = [cs0.toList[i]] := by
    rw [Nat.mul_one, List.take_one, List.head?_drop, List.getElem?_eq_getElem (by omega)]; rfl
  rw [hci] at hi'
  obtain ⟨s, e1, e2, _⟩ := DataW.trod_string Tryd.underlying9 hi'
  have hd : (xs.map (·.1))[i]? = some (.lit (.string (nameL.getD i []))) := by
    have : (xs.map (·.1)) = nameL.map (fun l => DataW.lit (.string l)) := by
      have h2 := hx1.1
      have h3 : (Rows.laid_mezzotint_font_names : DataW Unit) = .agg (nameL.map (fun l => DataW.lit (.string l))) := rfl
      rw [h3] at h2
      exact (DataW.agg.inj h2).symm
    rw [this, List.getElem?_map, List.getElem?_eq_getElem (show i < nameL.length from hi)]
    simp [List.getD_eq_getElem?_getD, List.getElem?_eq_getElem (show i < nameL.length from hi)]
  rw [List.getElem?_map, hxi] at hd
  have hs : s = nameS i := by
    rw [e2] at hd
    simp only [Option.map_some, Option.some.injEq, DataW.lit.injEq, Lit.string.injEq] at hd
    unfold nameS
    rw [← hd]
  have := World.var?_cell hg0 hv0 i
  rw [this]
  have e3 : cs0.toList[i] = Value.string s := by simpa using e1
  rw [← hs, ← e3]
  simp
end Go.Proofs.YtkkejjfmidgciaaDoor
/- Graphics states as Lean values: states, levels, what is saved; where they lie in memory. No conditions. -/
namespace Go.Proofs.YtkkejjfmidgciaaDoor
open Go.RowKit
set_option linter.unusedVariables false
set_option linter.unusedSimpArgs false
structure M6 where
  a : Int
  b : Int
  c : Int
  d : Int
  e : Int
  f : Int
deriving DecidableEq
structure Col where
  sp : Int
  p0 : Int
  p1 : Int
  p2 : Int
  p3 : Int
deriving DecidableEq
structure Clp where
  path : List Sg
  eo : Bool
deriving DecidableEq
structure Gst where
  ctm : M6
  col : Col
  width : Int
  cap : Int
  join : Int
  miter : Int
  dash : List Int
  phase : Int
  font : Int
  fm : M6
  clips : List Clp
  dark : Bool
deriving DecidableEq
def encM (m : M6) : List Value := [.int .i64 m.a, .int .i64 m.b, .int .i64 m.c, .int .i64 m.d, .int .i64 m.e, .int .i64 m.f]
def ints (ks : List Int) : List Value := ks.map (.int .i64)
theorem ints_len (ks : List Int) : (ints ks).length = ks.length := by simp [ints]
theorem ints_one (ks : List Int) : ∀ u ∈ ints ks, u.oneCell' = true := by
  intro u hu
  simp only [ints, List.mem_map] at hu
  obtain ⟨x, _, rfl⟩ := hu
  rfl
theorem ints_at {ks : List Int} {j : Nat} (h : j < ks.length) : (ints ks)[j]? = some (.int .i64 ks[j]) := by simp [ints, List.getElem?_eq_getElem h]
/-- The cells of a state; dv, cv: its dashes, its clips. -/
def encG (s : Gst) (dv cv : Value) : List Value := [.int .i64 s.ctm.a, .int .i64 s.ctm.b, .int .i64 s.ctm.c, .int .i64 s.ctm.d, .int .i64 s.ctm.e, .int .i64 s.ctm.f,
  .int .i64 s.col.sp, .int .i64 s.col.p0, .int .i64 s.col.p1, .int .i64 s.col.p2, .int .i64 s.col.p3,
  .int .i64 s.width, .int .i64 s.cap, .int .i64 s.join, .int .i64 s.miter, dv, .int .i64 s.phase,
  .int .i64 s.font, .int .i64 s.fm.a, .int .i64 s.fm.b, .int .i64 s.fm.c, .int .i64 s.fm.d, .int .i64 s.fm.e, .int .i64 s.fm.f, cv, .bool s.dark]
/-! Clips. -/
def encX (xs : List (Clp × Value)) : List Value := xs.flatMap fun x => [x.2, .bool x.1.eo]
theorem encX_cons (x : Clp × Value) (r : List (Clp × Value)) : encX (x :: r) = x.2 :: .bool x.1.eo :: encX r := rfl
theorem encX_append (a b : List (Clp × Value)) : encX (a ++ b) = encX a ++ encX b := by simp [encX]
theorem encX_len (l : List (Clp × Value)) : (encX l).length = l.length * 2 := by
  induction l with
  | nil => rfl
  | cons a r ih => rw [encX_cons, List.length_cons, List.length_cons, List.length_cons, ih]; omega
theorem encX_at (l : List (Clp × Value)) (k j : Nat) (hk : k < l.length) (hj : j < 2) : (encX l)[k * 2 + j]? = ([l[k].2, .bool l[k].1.eo] : List Value)[j]? := by
  induction l generalizing k with
  | nil => simp at hk
  | cons a r ih =>
    rw [encX_cons]
    cases k with
    | zero => match j, hj with
      | 0, _ => rfl
      | 1, _ => rfl
    | succ k =>
      rw [show (k + 1) * 2 + j = (k * 2 + j) + 1 + 1 by omega, List.getElem?_cons_succ, List.getElem?_cons_succ]
      exact ih k (by simpa using hk)
/-- Clips that are read: their list, and the lists within. -/
def ClpsX (w : World) (S : Nat → Prop) (v : Value) (xs : List (Clp × Value)) : Prop :=
  RowIn w S 2 v xs.length (encX xs) ∧ ∀ x ∈ xs, RowIn w S 7 x.2 x.1.path.length (encSs x.1.path)
def Clps (w : World) (S : Nat → Prop) (v : Value) (l : List Clp) : Prop := ∃ xs : List (Clp × Value), xs.map Prod.fst = l ∧ ClpsX w S v xs
theorem ClpsX.fr {w w' : World} {S T : Nat → Prop} {v : Value} {xs : List (Clp × Value)} (h : ClpsX w S v xs) (hf : Fr T w w') (hd : ∀ k, S k → ¬ T k) : ClpsX w' S v xs :=
  ⟨h.1.fr hf hd, fun x hx => (h.2 x hx).fr hf hd⟩
theorem ClpsX.mono {w : World} {S T : Nat → Prop} {v : Value} {xs : List (Clp × Value)} (h : ClpsX w S v xs) (hs : ∀ k, S k → T k) : ClpsX w T v xs := ⟨h.1.mono hs, fun x hx => (h.2 x hx).mono hs⟩
theorem Clps.fr {w w' : World} {S T : Nat → Prop} {v : Value} {l : List Clp} (h : Clps w S v l) (hf : Fr T w w') (hd : ∀ k, S k → ¬ T k) : Clps w' S v l := by
  obtain ⟨xs, h1, h2⟩ := h
  exact ⟨xs, h1, h2.fr hf hd⟩
theorem Clps.mono {w : World} {S T : Nat → Prop} {v : Value} {l : List Clp} (h : Clps w S v l) (hs : ∀ k, S k → T k) : Clps w T v l := by
  obtain ⟨xs, h1, h2⟩ := h
  exact ⟨xs, h1, h2.mono hs⟩
theorem Clps.nil (w : World) (S : Nat → Prop) : Clps w S (.slice none 0 0) [] := ⟨[], rfl, RowIn.nil _ _ _, fun x hx => by simp at hx⟩
theorem Clps.form {w : World} {S : Nat → Prop} {v : Value} {l : List Clp} (h : Clps w S v l) : ∃ A cap, v = .slice A l.length cap ∧ l.length ≤ cap ∧ cap ≤ maxLen := by
  obtain ⟨xs, rfl, h2, _⟩ := h
  obtain ⟨A, cap, hv, h3, h4⟩ := h2.form
  exact ⟨A, cap, by rw [hv, List.length_map], by rw [List.length_map]; exact h3, h4⟩
theorem Clps.lts {w : World} {S : Nat → Prop} {v : Value} {l : List Clp} (h : Clps w S v l) : Clps w (fun k => S k ∧ k < w.heap.size) v l := by
  obtain ⟨xs, h1, h2, h3⟩ := h
  exact ⟨xs, h1, h2.lts, fun x hx => (h3 x hx).lts⟩
/-- The two cells of a clip. -/
theorem ClpsX.at {w : World} {S : Nat → Prop} {v : Value} {xs : List (Clp × Value)} (h : ClpsX w S v xs) (hn : 0 < xs.length) :
    ∃ b off cap, v = .slice (some ⟨b, off, none⟩) xs.length cap ∧ xs.length ≤ cap ∧ cap ≤ 9223372036854775807 ∧ S b ∧ ∀ k (hk : k < xs.length), w.cell? ⟨b, off + k * 2, none⟩ = some xs[k].2 ∧ w.cell? ⟨b, off + k * 2 + 1, none⟩ = some (.bool xs[k].1.eo) := by
  obtain ⟨b, off, cap, hv, h1, h2, hS, hc⟩ := h.1.pos (by rw [encX_len]; omega)
  refine ⟨b, off, cap, hv, h1, h2, hS, fun k hk => ⟨?_, ?_⟩⟩
  · exact hc (k * 2 + 0) _ (by rw [encX_at xs k 0 hk (by omega)]; rfl)
  · rw [Nat.add_assoc]; exact hc (k * 2 + 1) _ (by rw [encX_at xs k 1 hk (by omega)]; rfl)
/-- The memory of a state. -/
structure GIn (w : World) (S : Nat → Prop) (dv cv : Value) (s : Gst) : Prop where
  d : RowIn w S 1 dv s.dash.length (ints s.dash)
  c : Clps w S cv s.clips
theorem GIn.fr {w w' : World} {S T : Nat → Prop} {dv cv : Value} {s : Gst} (h : GIn w S dv cv s) (hf : Fr T w w') (hd : ∀ k, S k → ¬ T k) : GIn w' S dv cv s := ⟨h.d.fr hf hd, h.c.fr hf hd⟩
theorem GIn.nob {w w' : World} {S : Nat → Prop} {dv cv : Value} {s : Gst} (h : GIn w S dv cv s) (hf : Fr Nob w w') : GIn w' S dv cv s := h.fr hf fun _ _ hh => hh
theorem GIn.mono {w : World} {S T : Nat → Prop} {dv cv : Value} {s : Gst} (h : GIn w S dv cv s) (hs : ∀ k, S k → T k) : GIn w T dv cv s := ⟨h.d.mono hs, h.c.mono hs⟩
theorem GIn.lts {w : World} {S : Nat → Prop} {dv cv : Value} {s : Gst} (h : GIn w S dv cv s) : GIn w (fun k => S k ∧ k < w.heap.size) dv cv s := ⟨h.d.lts, h.c.lts⟩
/-- A level: a state, and the path with it. -/
structure Lv where
  st : Gst
  p : PS
/-- Where a level lies. -/
structure LvG where
  dv : Value
  cv : Value
  pv : Value
  pg : Nat
def encL (l : Lv) (x : LvG) : List Value := encG l.st x.dv x.cv ++ [.pointer (some ⟨x.pg, 0, none⟩)]
structure LvIn (w : World) (S P : Nat → Prop) (l : Lv) (x : LvG) : Prop where
  g : GIn w S x.dv x.cv l.st
  p : Pth w x.pg x.pv l.p
  b : ∀ k, ptB x.pg x.pv k → P k
theorem LvIn.fr {w w' : World} {S P T : Nat → Prop} {l : Lv} {x : LvG} (h : LvIn w S P l x) (hf : Fr T w w') (hS : ∀ k, S k → ¬ T k) (hP : ∀ k, P k → ¬ T k) : LvIn w' S P l x :=
  ⟨h.g.fr hf hS, h.p.fr hf fun k hk => hP k (h.b k hk), h.b⟩
theorem LvIn.mono {w : World} {S P S' P' : Nat → Prop} {l : Lv} {x : LvG} (h : LvIn w S P l x) (hS : ∀ k, S k → S' k) (hP : ∀ k, P k → k < w.heap.size → P' k) : LvIn w S' P' l x :=
  ⟨h.g.mono hS, h.p, fun k hk => hP k (h.b k hk) (h.p.lt k hk)⟩
theorem LvIn.lts {w : World} {S P : Nat → Prop} {l : Lv} {x : LvG} (h : LvIn w S P l x) : LvIn w (fun k => S k ∧ k < w.heap.size) (fun k => P k ∧ k < w.heap.size) l x :=
  ⟨h.g.lts, h.p, fun k hk => ⟨h.b k hk, h.p.lt k hk⟩⟩
/-- States: the level that is, those that are saved. -/
structure GS where
  cur : Lv
  most : Int
  segs : Int
  saved : List Lv
def encLs (xs : List (Lv × LvG)) : List Value := xs.flatMap fun x => encL x.1 x.2
/-- Where the parts of states lie: lab tells the blocks apart: 0 what is never written, 1 the states and the list of what is saved, 2 the path that is, from 3 on the saved paths. -/
structure GsX (w : World) (g : Nat) (F : Nat → Prop) (s : GS) (lab : Nat → Nat) (x : LvG) (sv : Value) (xs : List (Lv × LvG)) : Prop where
  l : xs.map Prod.fst = s.saved
  b : Blk w g (encL s.cur x ++ [.int .i64 s.most, .int .i64 s.segs, sv]).toArray 124
  g1 : F g ∧ lab g = 1
  o : OwnS w 121 27 sv xs.length (encLs xs)
  o1 : ∀ k, sv.ownBlock = some k → F k ∧ lab k = 1
  c : LvIn w (fun k => F k ∧ lab k = 0) (fun k => F k ∧ lab k = 2) s.cur x
  s : ∀ i (h : i < xs.length), LvIn w (fun k => F k ∧ lab k = 0) (fun k => F k ∧ lab k = i + 3) xs[i].1 xs[i].2
def Gs (w : World) (g : Nat) (F : Nat → Prop) (s : GS) : Prop := ∃ lab x sv xs, GsX w g F s lab x sv xs
theorem GsX.nob {w w' : World} {g : Nat} {F : Nat → Prop} {s : GS} {lab : Nat → Nat} {x : LvG} {sv : Value} {xs : List (Lv × LvG)} (h : GsX w g F s lab x sv xs) {T : Nat → Prop} (hf : Fr T w w') (hT : ∀ k, F k → ¬ T k) : GsX w' g F s lab x sv xs :=
  ⟨h.l, h.b.fr hf (hT _ h.g1.1), h.g1, h.o.fr hf fun k hk => hT k (h.o1 k hk).1, h.o1, h.c.fr hf (fun k hk => hT k hk.1) fun k hk => hT k hk.1, fun i hi => (h.s i hi).fr hf (fun k hk => hT k hk.1) fun k hk => hT k hk.1⟩
theorem Gs.fr {w w' : World} {g : Nat} {F T : Nat → Prop} {s : GS} (h : Gs w g F s) (hf : Fr T w w') (hT : ∀ k, F k → ¬ T k) : Gs w' g F s := by
  obtain ⟨lab, x, sv, xs, h⟩ := h
  exact ⟨lab, x, sv, xs, h.nob hf hT⟩
theorem Gs.nob {w w' : World} {g : Nat} {F : Nat → Prop} {s : GS} (h : Gs w g F s) (hf : Fr Nob w w') : Gs w' g F s := h.fr hf fun _ _ hh => hh
theorem Gs.mono {w : World} {g : Nat} {F F' : Nat → Prop} {s : GS} (h : Gs w g F s) (hF : ∀ k, F k → F' k) : Gs w g F' s := by
  obtain ⟨lab, x, sv, xs, h⟩ := h
  exact ⟨lab, x, sv, xs, h.l, h.b, ⟨hF _ h.g1.1, h.g1.2⟩, h.o, fun k hk => ⟨hF _ (h.o1 k hk).1, (h.o1 k hk).2⟩, h.c.mono (fun k hk => ⟨hF _ hk.1, hk.2⟩) (fun k hk _ => ⟨hF _ hk.1, hk.2⟩),
    fun i hi => (h.s i hi).mono (fun k hk => ⟨hF _ hk.1, hk.2⟩) (fun k hk _ => ⟨hF _ hk.1, hk.2⟩)⟩
/-- What was there, and new blocks. -/
def Ext (F : Nat → Prop) (w w' : World) : Nat → Prop := fun k => F k ∨ Bt w w' k
/-- What a step leaves of states. -/
def GsTo (w : World) (g : Nat) (F : Nat → Prop) (s : GS) (w' : World) : Prop := Gs w' g (Ext F w w') s ∧ Fr F w w'
theorem Fr.le {S : Nat → Prop} {w w' : World} (h : Fr S w w') : w.heap.size ≤ w'.heap.size := h.size
theorem GsTo.same {w w' : World} {g : Nat} {F : Nat → Prop} {s : GS} (h : Gs w g F s) (hf : Fr Nob w w') : GsTo w g F s w' := ⟨(h.nob hf).mono fun k hk => .inl hk, hf.mono fun _ hh => hh.elim⟩
/-- States of one's own: all their blocks are new since w0. -/
def LG (w0 w : World) (g : Nat) (s : GS) : Prop := Gs w g (fun k => w0.heap.size ≤ k) s ∧ Fr Nob w0 w
theorem LG.nob {w0 w w' : World} {g : Nat} {s : GS} (h : LG w0 w g s) (hf : Fr Nob w w') : LG w0 w' g s := ⟨h.1.nob hf, h.2.trans0 hf⟩
theorem LG.to {w0 w w' : World} {g : Nat} {s s' : GS} (h : LG w0 w g s) (ht : GsTo w g (fun k => w0.heap.size ≤ k) s' w') : LG w0 w' g s' :=
  ⟨ht.1.mono fun k hk => hk.elim id fun hk => Nat.le_trans h.2.size hk.1, h.2.trans ht.2 fun k hk => .inr hk⟩
end Go.Proofs.YtkkejjfmidgciaaDoor
/- Whole rows: stores into a block that is known whole, loads out of it. No program, no conditions. -/
namespace Go.Proofs.YtkkejjfmidgciaaDoor
open Go.RowKit
set_option linter.unusedVariables false
set_option linter.unusedSimpArgs false
/-- A block, cells stored over from o on. -/
def over (old : Array Value) (o : Nat) (cells : List Value) : Array Value := (old.toList.take o ++ cells ++ old.toList.drop (o + cells.length)).toArray
theorem over_all (old : Array Value) (cells : List Value) (h : old.size = cells.length) : over old 0 cells = cells.toArray := by
  unfold over
  rw [List.take_zero, List.nil_append, List.drop_of_length_le (by simp; omega), List.append_nil]
theorem Blk.range {w : World} {g : Nat} {C : Array Value} {t : TypeId} (h : Blk w g C t) (o : Nat) (cs : List Value) (hc : (C.toList.drop o).take cs.length = cs) : w.rangeAt g o cs := fun j v hv => by
  rw [h.cell]
  have hj : j < cs.length := (List.getElem?_eq_some_iff.1 hv).1
  rw [← hc, List.getElem?_take, if_pos (by simpa using hj), List.getElem?_drop] at hv
  simpa using hv
theorem Blk.there {w : World} {g : Nat} {C : Array Value} {t : TypeId} (h : Blk w g C t) (o n : Nat) (hn : o + n ≤ C.size) : w.there g o n := fun j hj =>
  ⟨by rw [h.cell, Array.getElem?_eq_getElem (by omega)]; rfl, h.free _⟩
theorem Blk.over {w : World} {g : Nat} {C : Array Value} {t : TypeId} (h : Blk w g C t) (o : Nat) (cells : List Value) : Blk (w.setRow g (YtkkejjfmidgciaaDoor.over C o cells)) g (YtkkejjfmidgciaaDoor.over C o cells) t := h.setRow _
section
variable {P : Program} {w : World}
theorem run_putAt (ty : TypeId) (g o : Nat) (cells : List Value) (t : TypeId) (old : Array Value) (hg : Blk w g old t) (hfit : o + cells.length ≤ old.size) (hi : (P.info? ty).map (·.size) = some cells.length) (h1 : ∀ u ∈ cells, u.oneCell' = true) :
    (storeVar ty ⟨g, o, none⟩ (.agg cells.toArray)).run P w = .ok () (w.setRow g (over old o cells)) := by
  have hst := run_storeCells_at P g o t cells 0 old w hg (by simpa using hfit) h1
  simp only [Nat.add_zero] at hst
  cases hq : P.info? ty with
  | none => simp [hq] at hi
  | some i =>
    have hs : cells.length = i.size := by simp [hq] at hi; omega
    simp [storeVar, sizeOf, typeInfo, hq, Value.cells, ← hs]
    simpa [over] using hst
theorem wp_putAt {op : Oper} {a : Act} {K : Act → World → Prop} {Q : Exit → Act → World → Prop} (ty : TypeId) (x y : Operand) (ho : op.op = .store ty x y)
    (g o : Nat) (cells : List Value) (hx : a.eval x = .pointer (some ⟨g, o, none⟩)) (hy : a.eval y = .agg cells.toArray)
    (t : TypeId) (old : Array Value) (hg : Blk w g old t) (hfit : o + cells.length ≤ old.size) (hi : (P.info? ty).map (·.size) = some cells.length) (h1 : ∀ u ∈ cells, u.oneCell' = true)
    (h : ∀ w', Blk w' g (over old o cells) t → Fr (fun k => k = g) w w' → K (a.put op.dst undef) w') : op.wp P a w K Q := by
  unfold Oper.wp execOp
  simp only [ho, hx, hy, Instr.storeAt, Instr.sureAddr, Sem.run_bind, Sem.run_pure, Result.andThen_ok, run_putAt ty g o cells t old hg hfit hi h1]
  exact h _ (hg.over o cells) ((Fr.refl (fun k => k = g) w).setRow (.inl rfl) _)
theorem wpList_putAt {ops : Array Oper} {rest : List Oper} {op : Oper} {a : Act} {Q : Exit → Act → World → Prop} (hgd : op.guard = none) (ty : TypeId) (x y : Operand) (ho : op.op = .store ty x y)
    (g o : Nat) (cells : List Value) (hx : a.eval x = .pointer (some ⟨g, o, none⟩)) (hy : a.eval y = .agg cells.toArray)
    (t : TypeId) (old : Array Value) (hg : Blk w g old t) (hfit : o + cells.length ≤ old.size) (hi : (P.info? ty).map (·.size) = some cells.length) (h1 : ∀ u ∈ cells, u.oneCell' = true)
    (h : ∀ w', Blk w' g (over old o cells) t → Fr (fun k => k = g) w w' → wpList P ops Q rest (a.put op.dst undef) w') : wpList P ops Q (op :: rest) a w :=
  wpList_plain hgd fun _ hK => wp_putAt ty x y ho g o cells hx hy t old hg hfit hi h1 fun w' hb hf => hK _ _ (h w' hb hf)
/-- A store as a step of a region that draws its order. -/
theorem step_putAt {ops : Array Oper} {op : Oper} {a : Act} {K : Act → World → Prop} {Q : Exit → Act → World → Prop} {E : Prop} (hgd : op.guard = none) (ty : TypeId) (x y : Operand) (ho : op.op = .store ty x y)
    (g o : Nat) (cells : List Value) (hx : a.eval x = .pointer (some ⟨g, o, none⟩)) (hy : a.eval y = .agg cells.toArray)
    (t : TypeId) (old : Array Value) (hg : Blk w g old t) (hfit : o + cells.length ≤ old.size) (hi : (P.info? ty).map (·.size) = some cells.length) (h1 : ∀ u ∈ cells, u.oneCell' = true)
    (h : ∀ w', Blk w' g (over old o cells) t → Fr (fun k => k = g) w w' → K (a.put op.dst undef) w') : if Region.wanted op (yielded ops a.tmps) = true then Oper.wp P op a w K Q else E := by
  rw [if_pos (by simp [Region.wanted, hgd])]
  exact wp_putAt ty x y ho g o cells hx hy t old hg hfit hi h1 h
theorem wpList_getAt {ops : Array Oper} {rest : List Oper} {op : Oper} {a : Act} {Q : Exit → Act → World → Prop} (hgd : op.guard = none) (ty : TypeId) (x : Operand) (ho : op.op = .load ty x)
    (b o : Nat) (hx : a.eval x = .pointer (some ⟨b, o, none⟩)) (cs : List Value) (d : TypeDesc) (hc : w.rangeAt b o cs)
    (hu : P.underlying ty = some d) (hd : d.isRow = true) (hi : (P.info? ty).map (·.size) = some cs.length)
    (h : wpList P ops Q rest (a.put op.dst (.agg cs.toArray)) w) : wpList P ops Q (op :: rest) a w := wpList_load_mid hgd ty x ho b o hx cs d hc hu hd hi h
end
theorem results_cl {P : Program} {fn : Func} {p : Tmp} {ty : TypeId} (h : fn.results = #[.cell p ty]) (tmps : Array Value) (w : World) (g : Nat) (t : TypeId) (cs : List Value) (d : TypeDesc)
    (hp : tmps.getD p undef = .pointer (some ⟨g, 0, none⟩)) (hg : Blk w g cs.toArray t)
    (hu : P.underlying ty = some d) (hd : (match d with | .struct _ | .array _ _ => true | _ => false) = true) (hi : (P.info? ty).map (·.size) = some cs.length) :
    (results fn tmps).run P w = .ok (.agg cs.toArray) w := results_c h tmps w g t cs.toArray d hp hg hu hd (by simpa using hi)
end Go.Proofs.YtkkejjfmidgciaaDoor
/- The walks of Identity, Start, New. -/
namespace Go.Proofs.YtkkejjfmidgciaaDoor
open Go.RowKit
set_option linter.unusedVariables false
set_option linter.unusedSimpArgs false
def mId : M6 := ⟨65536, 0, 0, 65536, 0, 0⟩
def gStart : Gst := ⟨mId, ⟨1, 0, 0, 0, 0⟩, 65536, 0, 0, 655360, [], 0, -1, mId, [], false⟩
def gZero : Gst := ⟨⟨0, 0, 0, 0, 0, 0⟩, ⟨0, 0, 0, 0, 0⟩, 0, 0, 0, 0, [], 0, 0, ⟨0, 0, 0, 0, 0, 0⟩, [], false⟩
def mV (m : M6) : Value := .agg #[.int .i64 m.a, .int .i64 m.b, .int .i64 m.c, .int .i64 m.d, .int .i64 m.e, .int .i64 m.f]
def gV (s : Gst) (dv cv : Value) : Value := .agg (encG s dv cv).toArray
def nilV : Value := .slice none 0 0
theorem encG_one (s : Gst) (dv cv : Value) (hd : ∃ A n c, dv = .slice A n c) (hc : ∃ A n c, cv = .slice A n c) : ∀ u ∈ encG s dv cv, u.oneCell' = true := by
  obtain ⟨A, n, c, rfl⟩ := hd
  obtain ⟨A', n', c', rfl⟩ := hc
  intro u hu
  simp only [encG, List.mem_cons, List.not_mem_nil, or_false] at hu
  rcases hu with rfl | rfl | rfl | rfl | rfl | rfl | rfl | rfl | rfl | rfl | rfl | rfl | rfl | rfl | rfl | rfl | rfl | rfl | rfl | rfl | rfl | rfl | rfl | rfl | rfl | rfl <;> rfl
theorem sizeG : (Tryd.prog.info? 79).map (·.size) = some 26 := by kernel_rfl
theorem ident_any (w : World) : Calls Tryd.prog 86 #[] w fun e w' => e = .returned (mV mId) ∧ Fr Nob w w' := by
  have HB := Lib.hid (Blk.new w #[.int .i64 65536, .int .i64 0, .int .i64 0, .int .i64 65536, .int .i64 0, .int .i64 0] 33)
  unfold mV mId
  go_enter Tryd.func86, Tryd.ntmps86
  go_wp2
  exact bodyPost_ret (results_c rfl _ _ _ 33 _ _ rfl HB.out Tryd.underlying33 rfl (by kernel_rfl)) rfl ⟨rfl, (Fr.refl _ _).alloc _⟩
theorem start_any (w : World) : Calls Tryd.prog 41 #[] w fun e w' => e = .returned (gV gStart nilV nilV) ∧ Fr Nob w w' := by
  have HB := Lib.hid (Blk.new w (encG gZero nilV nilV).toArray 79)
  have HF := Lib.hid ((Fr.refl Nob w).alloc (.cells (encG gZero nilV nilV).toArray 79))
  go_enter Tryd.func41, Tryd.ntmps41
  go_wp2_with fail
  refine (ident_any _).mono ?_
  unfold mV mId
  rintro e w1 ⟨rfl, h1⟩
  have HB1 := Lib.hid (HB.out.nob h1)
  have H1 := Lib.hid (HF.out.trans0 h1)
  clear h1 HB HF
  go_wp2_with fail
  refine (ident_any _).mono ?_
  unfold mV mId
  rintro e w2 ⟨rfl, h2⟩
  have HB2 := Lib.hid (HB1.out.nob h2)
  have H2 := Lib.hid (H1.out.trans0 h2)
  clear h2 HB1 H1
  go_wp2_with (refine wpList_putAt rfl 79 (.tmp 0) (.tmp 5) rfl w.heap.size 0 (encG gStart nilV nilV) (by rfl) (by rfl) 79 _ HB2.out (by decide) sizeG (encG_one _ _ _ ⟨_, _, _, rfl⟩ ⟨_, _, _, rfl⟩) ?_)
  intro w3 hb3 hf3
  rw [over_all (encG gZero nilV nilV).toArray (encG gStart nilV nilV) rfl] at hb3
  have HB3 := Lib.hid hb3
  have H3 := Lib.hid (H2.out.trans hf3 fun k hk => .inr (by rw [hk]; exact Nat.le_refl _))
  clear hb3 hf3
  go_wp2_with fail
  exact bodyPost_ret (results_cl rfl _ _ _ 79 _ _ rfl HB3.out Tryd.underlying79 rfl sizeG) rfl ⟨rfl, H3.out⟩
/-- New states. -/
def sNew (most segs : Int) : GS := ⟨⟨gStart, ⟨segs, [], oo, oo⟩⟩, most, segs, []⟩
theorem gnew_any (most segs : Int) (w : World) :
    Calls Tryd.prog 29 #[.int .i64 most, .int .i64 segs] w fun e w' => ∃ g, e = .returned (.pointer (some ⟨g, 0, none⟩)) ∧ Gs w' g (Bt w w') (sNew most segs) ∧ Fr Nob w w' := by
  go_enter Tryd.func29, Tryd.ntmps29
  go_wp2_with fail
  refine (start_any _).mono ?_
  unfold gV
  simp only [encG, gStart, mId, nilV]
  rintro e w1 ⟨rfl, h1⟩
  have H1 := Lib.hid h1
  clear h1
  go_wp2_with fail
  refine (new_any segs w1).mono ?_
  rintro e w2 ⟨rfl, hp, h2⟩
  have HP := Lib.hid hp
  have H2 := Lib.hid (H1.out.trans0 h2)
  have hz := H1.out.size
  have hl := hp.1.lt
  clear hp h2
  go_wp2_with fail
  go_ret
  refine ⟨_, rfl, ⟨fun k => if k = w1.heap.size then 2 else 1, ⟨.slice none 0 0, .slice none 0 0, .slice none 0 0, w1.heap.size⟩, .slice none 0 0, [], rfl, Blk.new w2 _ _, ⟨⟨by omega, by simp⟩, by rw [if_neg (by omega)]⟩, OwnS.nil _ _ _, fun k hk => by simp [Value.ownBlock] at hk, ⟨⟨RowIn.nil _ _ _, Clps.nil _ _⟩, HP.out.nob ((Fr.refl Nob w2).alloc _), ?_⟩, fun i hi => by simp at hi⟩, H2.out.alloc _⟩
  rintro k (rfl | hk)
  · exact ⟨⟨hz, by simp; omega⟩, by rw [if_pos rfl]⟩
  · simp [Value.ownBlock] at hk
end Go.Proofs.YtkkejjfmidgciaaDoor
/- The walks of slices.Clone of numbers, of own. -/
namespace Go.Proofs.YtkkejjfmidgciaaDoor
open Go.RowKit
set_option linter.unusedVariables false
set_option linter.unusedSimpArgs false
theorem infoInt : (Tryd.prog.info? 3).map (fun i => (i.zero, i.size, i.bytes)) = some (some (.int .i64 0), 1, 8) := by kernel_rfl
theorem infoClip : (Tryd.prog.info? 93).map (fun i => (i.zero, i.size, i.bytes)) = some (some (.agg #[.slice none 0 0, .bool false]), 2, 32) := by kernel_rfl
theorem clonei_any (v : Value) (l : List Int) (S : Nat → Prop) (w : World) (h : RowIn w S 1 v l.length (ints l)) (hs : l.length ≤ 1000000) :
    Calls Tryd.prog 117 #[v] w fun e w' => ∃ vo, e = .returned vo ∧ OwnS w' 3 1 vo l.length (ints l) ∧ Fr Nob w w' ∧ NewV w vo := by
  obtain ⟨i0, hi, hz0, hz1, hz2⟩ := info_parts infoInt
  obtain ⟨A, cap, rfl, h1, h2⟩ := h.form
  have HH := Lib.hid h
  cases A with
  | none =>
    have hc : cap = 0 := by obtain ⟨_, A, c, h, _, _, h3, _⟩ := h; cases h; exact h3 rfl
    subst hc
    have hl : l = [] := List.length_eq_zero_iff.1 (by omega)
    subst hl
    clear h HH
    have kn := fun A l c w => run_slice_is_nil Tryd.underlying30 A l c w
    go_enter Tryd.func117, Tryd.ntmps117
    go_wp2
    go_ret
    exact ⟨_, rfl, OwnS.nil _ _ _, Fr.refl _ _, fun b hb => by simp [Value.ownBlock] at hb⟩
  | some a =>
    clear h
    have kn := fun A l c w => run_slice_is_nil Tryd.underlying30 A l c w
    have HR := Lib.hid (HH.out.nob ((Fr.refl Nob w).alloc (.cells #[] 3)))
    clear HH
    go_enter Tryd.func117, Tryd.ntmps117
    go_wp2_with (at_builtin; refine wpList_app _ rfl _ _ 30 rfl 3 i0 _ 1 8 Tryd.underlying30 hi hz0 hz1 hz2 rfl (by decide) _ 0 [] rfl (OwnS.new0 w 3 1) S _ l.length (ints l) rfl HR.out ?c1 ?c2 ?c3 ?_)
    case c1 => exact ints_one l
    case c2 => unfold maxLen at *; omega
    case c3 => omega
    intro v' w1 hown hfr hat _
    go_wp2
    go_ret
    have hN := app_new (w := w) (NewV.at w 0 0) ((Fr.refl _ _).alloc _) hfr (by simpa using hat)
    exact ⟨v', rfl, by simpa using hown, hN.1, hN.2⟩
/-- The bounds under which states are copied. -/
structure SmallG (s : Gst) : Prop where
  d : s.dash.length ≤ 1000
  c : s.clips.length ≤ 1000
  p : ∀ c ∈ s.clips, c.path.length ≤ 1000000
theorem OwnS.made {w : World} {g : Nat} {cs : Array Value} {e : TypeId} {size n : Nat} (h : Blk w g cs e) (hs : cs.size = n * size) (hn : n ≤ maxLen) : OwnS w e size (.slice (some ⟨g, 0, none⟩) 0 n) 0 [] :=
  ⟨by simp, .inr ⟨_, _, _, rfl, h, Nat.zero_le _, hn, Nat.le_of_eq hs.symm, by simp⟩⟩
def mkC (n : Nat) : Array Value := madeCells #[.slice none 0 0, .bool false] (n * 2)
theorem Blk.made' {w : World} {g n : Nat} (h : Blk w g (mkC n) 93) (hn : n ≤ 1000) : OwnS w 93 2 (.slice (some ⟨g, 0, none⟩) 0 n) 0 [] :=
  OwnS.made h (by simp [mkC, madeCells]) (by unfold maxLen; omega)
/-- Clips of a call's own, the first k of l. -/
structure OwnC (w wr : World) (v : Value) (l : List Clp) (k : Nat) (xs : List (Clp × Value)) (S : Nat → Prop) : Prop where
  l : xs.map Prod.fst = l.take k
  o : OwnS wr 93 2 v k (encX xs)
  n : NewV w v
  p : ∀ x ∈ xs, RowIn wr S 7 x.2 x.1.path.length (encSs x.1.path)
  s : ∀ j, S j → Bt w wr j
  d : ∀ j, inB v j → ¬ S j
  f : Fr Nob w wr
theorem OwnC.snoc {w wr wa wb wc wd : World} {v vo v' : Value} {l : List Clp} {k : Nat} {xs : List (Clp × Value)} {S : Nat → Prop} (h : OwnC w wr v l k xs S) (hk : k < l.length)
    (ha : Fr Nob wr wa) (ho : OwnS wb 91 7 vo l[k].path.length (encSs l[k].path)) (hn : NewV wa vo) (hb : Fr Nob wa wb) (hc : Fr Nob wb wc)
    (hd : OwnS wd 93 2 v' (k + 1) (encX xs ++ [vo, .bool l[k].eo])) (hfd : Fr (inB v) wc wd) (hat : v'.ownBlock = v.ownBlock ∨ v'.ownBlock = some wc.heap.size) :
    OwnC w wd v' l (k + 1) (xs ++ [(l[k], vo)]) (fun j => S j ∨ vo.ownBlock = some j) := by
  have hwc := (ha.trans0 hb).trans0 hc
  have hvl : ∀ j, inB v j → j < wr.heap.size := h.o.lt
  have hol : ∀ j, vo.ownBlock = some j → j < wb.heap.size := ho.lt
  have hon : ∀ j, vo.ownBlock = some j → wr.heap.size ≤ j := fun j hj => Nat.le_trans ha.size (hn j hj)
  refine ⟨?_, by rw [encX_append]; exact hd, ?_, ?_, ?_, ?_, ?_⟩
  · rw [List.map_append, h.l, List.take_succ_eq_append_getElem hk]; rfl
  · intro b hb'
    rcases hat with e | e
    · exact h.n b (e ▸ hb')
    · rw [e] at hb'; cases hb'; exact Nat.le_trans h.f.size hwc.size
  · intro x hx
    rcases List.mem_append.1 hx with hx | hx
    · exact ((((h.p x hx).nob hwc).fr hfd fun j hj hv => h.d j hv hj)).mono fun j hj => .inl hj
    · rw [List.mem_singleton] at hx
      subst hx
      exact ((ho.nob hc).row.fr hfd fun j hj hv => by have := hvl j hv; have := hon j hj; omega).mono fun j hj => .inr hj
  · rintro j (hj | hj)
    · exact ⟨(h.s j hj).1, Nat.lt_of_lt_of_le (h.s j hj).2 (Nat.le_trans hwc.size hfd.size)⟩
    · exact ⟨Nat.le_trans h.f.size (hon j hj), Nat.lt_of_lt_of_le (hol j hj) (Nat.le_trans hc.size hfd.size)⟩
  · rintro j hj (hS | hS)
    · rcases hat with e | e
      · exact h.d j (show v.ownBlock = some j from e ▸ hj) hS
      · have hj' : v'.ownBlock = some j := hj
        rw [e] at hj'; cases hj'
        have := (h.s _ hS).2; have := hwc.size; omega
    · rcases hat with e | e
      · have := hvl j (show v.ownBlock = some j from e ▸ hj); have := hon j hS; omega
      · have hj' : v'.ownBlock = some j := hj
        rw [e] at hj'; cases hj'
        have := hol _ hS; have := hc.size; omega
  · exact (h.f.trans0 hwc).trans hfd fun j hj => .inr (h.n j hj)
theorem OwnC.clps {w wr : World} {v : Value} {l : List Clp} {xs : List (Clp × Value)} {S : Nat → Prop} (h : OwnC w wr v l l.length xs S) : Clps wr (Bt w wr) v l := by
  have hl : xs.map Prod.fst = l := by rw [h.l, List.take_length]
  have hn : xs.length = l.length := by rw [← hl, List.length_map]
  refine ⟨xs, hl, ?_, fun x hx => (h.p x hx).mono h.s⟩
  rw [hn]
  exact h.o.bt h.n
/-- Clips of one's own, in a later world. -/
theorem OwnC.re {w w2 wr w9 : World} {v : Value} {l : List Clp} {k : Nat} {xs : List (Clp × Value)} {S T : Nat → Prop} (h : OwnC w2 wr v l k xs S) (hw : w.heap.size ≤ w2.heap.size) (hf : Fr T wr w9) (hT : ∀ j, T j → j < w2.heap.size) (hF : Fr Nob w w9) : OwnC w w9 v l k xs S :=
  ⟨h.l, h.o.fr hf fun j hj e => by have := h.n j hj; have := hT j e; omega, h.n.le hw, fun x hx => (h.p x hx).fr hf fun j hj e => by have := (h.s j hj).1; have := hT j e; omega, fun j hj => ⟨Nat.le_trans hw (h.s j hj).1, Nat.lt_of_lt_of_le (h.s j hj).2 hf.size⟩, h.d, hF⟩
set_option maxRecDepth 8000 in
set_option maxHeartbeats 6400000 in
theorem own_all (s : Gst) (dv cv : Value) (S : Nat → Prop) (w : World) (h : GIn w S dv cv s) (hb : SmallG s) :
    Calls Tryd.prog 83 #[gV s dv cv] w fun e w' => ∃ dv' cv' xs S', e = .returned (gV s dv' cv') ∧ RowIn w' (Bt w w') 1 dv' s.dash.length (ints s.dash) ∧ OwnC w w' cv' s.clips s.clips.length xs S' ∧ Fr Nob w w' := by
  obtain ⟨i0, hi, hz0, hz1, hz2⟩ := info_parts infoClip
  have hmk : ∀ w : World, (Instr.makeSlice 29 (.int .i64 0) (.int .i64 s.clips.length)).run Tryd.prog w = .ok (.slice (some ⟨w.heap.size, 0, none⟩) 0 s.clips.length) (w.alloc (.cells (mkC s.clips.length) 93)) := fun w => by
    have := run_make (P := Tryd.prog) w 29 93 i0 _ Tryd.underlying29 hi hz0 .i64 .i64 0 s.clips.length (by omega) (by omega) (by rw [hz2]; have := hb.c; omega) (by have := hb.c; omega)
    rw [this, hz1]
    simp only [Int.toNat_natCast, Int.toNat_zero]
    rfl
  replace hi := Lib.hid hi
  replace hz0 := Lib.hid hz0
  replace hz1 := Lib.hid hz1
  replace hz2 := Lib.hid hz2
  have hf0 : Fr Nob w ((w.alloc (.cells (encG s dv cv).toArray 79)).alloc (.cells #[.int .i64 0, .int .i64 0, .int .i64 0, .int .i64 0, .int .i64 0, .int .i64 0, .int .i64 0, .int .i64 0, .int .i64 0, .int .i64 0, .int .i64 0, .int .i64 0, .int .i64 0, .int .i64 0, .int .i64 0, .slice none 0 0, .int .i64 0, .int .i64 0, .int .i64 0, .int .i64 0, .int .i64 0, .int .i64 0, .int .i64 0, .int .i64 0, .slice none 0 0, .bool false] 79)) := ((Fr.refl Nob w).alloc _).alloc _
  have HB0 := Lib.hid (show Blk ((w.alloc (.cells (encG s dv cv).toArray 79)).alloc (.cells #[.int .i64 0, .int .i64 0, .int .i64 0, .int .i64 0, .int .i64 0, .int .i64 0, .int .i64 0, .int .i64 0, .int .i64 0, .int .i64 0, .int .i64 0, .int .i64 0, .int .i64 0, .int .i64 0, .int .i64 0, .slice none 0 0, .int .i64 0, .int .i64 0, .int .i64 0, .int .i64 0, .int .i64 0, .int .i64 0, .int .i64 0, .int .i64 0, .slice none 0 0, .bool false] 79)) w.heap.size (encG s dv cv).toArray 79 from (Blk.new w _ _).alloc _)
  have HZ0 := Lib.hid (show Blk ((w.alloc (.cells (encG s dv cv).toArray 79)).alloc (.cells #[.int .i64 0, .int .i64 0, .int .i64 0, .int .i64 0, .int .i64 0, .int .i64 0, .int .i64 0, .int .i64 0, .int .i64 0, .int .i64 0, .int .i64 0, .int .i64 0, .int .i64 0, .int .i64 0, .int .i64 0, .slice none 0 0, .int .i64 0, .int .i64 0, .int .i64 0, .int .i64 0, .int .i64 0, .int .i64 0, .int .i64 0, .int .i64 0, .slice none 0 0, .bool false] 79)) (w.heap.size + 1) (encG gZero nilV nilV).toArray 79 from Blk.new1 w _ _ _)
  have HG := Lib.hid (h.lts.nob hf0)
  have HGN := Lib.hid (show ∀ k, (S k ∧ k < w.heap.size) → k < w.heap.size from fun k hk => hk.2)
  have HF0 := Lib.hid hf0
  have HBD := Lib.hid hb
  obtain ⟨A, cap, rfl, ha1, ha2⟩ := h.c.form
  have hbc := hb.c
  have hne : w.heap.size ≠ w.heap.size + 1 := by omega
  clear h hb hf0
  unfold gV
  go_enter Tryd.func83, Tryd.ntmps83
  go_upto_region 1 with (fail)
  generalize (w.alloc (.cells (encG s dv (.slice A s.clips.length cap)).toArray 79)).alloc (.cells #[.int .i64 0, .int .i64 0, .int .i64 0, .int .i64 0, .int .i64 0, .int .i64 0, .int .i64 0, .int .i64 0, .int .i64 0, .int .i64 0, .int .i64 0, .int .i64 0, .int .i64 0, .int .i64 0, .int .i64 0, .slice none 0 0, .int .i64 0, .int .i64 0, .int .i64 0, .int .i64 0, .int .i64 0, .int .i64 0, .int .i64 0, .int .i64 0, .slice none 0 0, .bool false] 79) = wa at *
  have c15 : wa.cell? ⟨w.heap.size, 15, none⟩ = some dv := HB0.out.cell 15
  go_wp2_with fail
  refine (clonei_any dv s.dash _ wa HG.out.d (by have := HBD.out.d; omega)).mono ?_
  rintro e w1 ⟨dv', rfl, hod, hf1, hn1⟩
  have hB1 := HB0.out.nob hf1
  have k15 : w1.cell? ⟨w.heap.size, 15, none⟩ = some dv := hB1.cell 15
  have f15 := hB1.free 15
  have HB1 := Lib.hid (show Blk (w1.setCell ⟨w.heap.size, 15, none⟩ dv') w.heap.size (encG s dv' (.slice A s.clips.length cap)).toArray 79 from hB1.set 15 dv')
  have HFS := Lib.hid ((Fr.refl (fun k => k = w.heap.size) w1).setCell (p := ⟨w.heap.size, 15, none⟩) (.inl rfl) dv')
  have HZ1 := Lib.hid (HZ0.out.nob hf1)
  have HF1 := Lib.hid (HF0.out.trans0 hf1)
  have HG1 := Lib.hid (HG.out.nob hf1)
  have HOD := Lib.hid hod
  have HN1 := Lib.hid hn1
  have hzz := HF0.out.size
  obtain ⟨Ad, cd, rfl, _, _⟩ := hod.form
  clear c15 hod hf1 hn1 hB1
  go_upto_region 2 with (fail)
  have HG2 := Lib.hid (HG1.out.fr HFS.out fun k hk e => by have := HGN.out k hk; omega)
  generalize w1.setCell ⟨w.heap.size, 15, none⟩ (.slice Ad s.dash.length cd) = w2 at *
  clear k15 f15
  have k24 : w2.cell? ⟨w.heap.size, 24, none⟩ = some (.slice A s.clips.length cap) := HB1.out.cell 24
  have HZ2 := Lib.hid (HZ1.out.fr HFS.out fun e => hne e.symm)
  have HF2 := Lib.hid (HF1.out.trans HFS.out fun k hk => .inr (by rw [hk]; exact Nat.le_refl _))
  have HOD2 := Lib.hid (HOD.out.fr HFS.out fun k hk e => by have := HN1.out k hk; subst e; have := HB0.out.lt; omega)
  have hb3 : Blk (w2.alloc (.cells (mkC s.clips.length) 93)) w2.heap.size _ 93 := Blk.new w2 _ _
  have hf3 : Fr Nob w2 (w2.alloc (.cells (mkC s.clips.length) 93)) := (Fr.refl Nob w2).alloc _
  have k24' : (w2.alloc (.cells (mkC s.clips.length) 93)).cell? ⟨w.heap.size, 24, none⟩ = some (.slice A s.clips.length cap) := (HB1.out.nob hf3).cell 24
  have HO3 := Lib.hid (hb3.made' hbc)
  have HF3 := Lib.hid hf3
  clear hb3 hf3
  go_upto_region 4 with (fail)
  generalize w2.alloc (.cells (mkC s.clips.length) 93) = w3 at *
  clear k24 k24' hmk
  obtain ⟨zs, hzl, hzx⟩ := HG2.out.c
  have hzn : zs.length = s.clips.length := by rw [← hzl, List.length_map]
  have HZL := Lib.hid hzl
  have HZN := Lib.hid hzn
  have HZX := Lib.hid hzx
  have HC0 : Hid (OwnC w2 w3 (.slice (some ⟨w2.heap.size, 0, none⟩) 0 s.clips.length) s.clips 0 [] (fun _ => False)) := by
    exact ⟨rfl, HO3.out, NewV.at w2 _ _, fun x hx => by simp at hx, fun j hj => hj.elim, fun j _ hj => hj, HF3.out⟩
  clear hzl hzn hzx HO3 HF3
  go_loopw [3, 19] (fun v q wr => ∃ (k : Nat) (xs : List (Clp × Value)) (S' : Nat → Prop), k ≤ s.clips.length ∧ q = .int .i64 k ∧ Hid (OwnC w2 wr v s.clips k xs S')) (fun _ q _ => s.clips.length - (intOf q).toNat)
  case atStart => exact ⟨0, [], _, by omega, rfl, HC0.out⟩
  case round =>
    obtain ⟨k, xs, S', hk, rfl, HC⟩ := hrel
    clear HC0
    by_cases hlt : k < s.clips.length
    · have hkz : k < zs.length := by rw [HZN.out]; exact hlt
      have hzk : zs[k].1 = s.clips[k] := by
        have := congrArg (fun l => l[k]?) HZL.out
        simp only [List.getElem?_map, List.getElem?_eq_getElem hkz, List.getElem?_eq_getElem hlt, Option.map_some, Option.some.injEq] at this
        exact this
      obtain ⟨b, off, cap', hv, _, _, _, hc⟩ := HZX.out.at (by omega)
      rw [HZN.out] at hv
      cases hv
      obtain ⟨d0, d1⟩ := hc k hkz
      have hrow := HZX.out.2 zs[k] (List.getElem_mem hkz)
      have hsm := HBD.out.p zs[k].1 (by rw [hzk]; exact List.getElem_mem hlt)
      have SN := Lib.hid (fun (wa wb wc wd : World) (vo v' : Value) => HC.out.snoc (wa := wa) (wb := wb) (wc := wc) (wd := wd) (vo := vo) (v' := v') hlt)
      rw [← hzk] at SN
      generalize zs[k] = z at *
      obtain ⟨⟨zp, ze⟩, zv⟩ := z
      simp only at d0 d1 hrow hsm SN
      obtain ⟨A2, cap2, rfl, _, _⟩ := hrow.form
      have i1 : (k : Int) < s.clips.length := by omega
      have e0 := cell_nob d0 HC.out.f
      have e1 := cell_nob d1 HC.out.f
      obtain ⟨Av, cv', rfl, _, _⟩ := HC.out.o.form
      have hfq : Fr Nob wr (wr.alloc (.cells #[.slice A2 zp.length cap2, .bool ze] 93)) := (Fr.refl Nob wr).alloc _
      have hbq : Blk (wr.alloc (.cells #[.slice A2 zp.length cap2, .bool ze] 93)) wr.heap.size #[.slice A2 zp.length cap2, .bool ze] 93 := Blk.new wr _ _
      have HFQ := Lib.hid hfq
      have HRQ := Lib.hid ((hrow.nob HC.out.f).nob hfq)
      have HLV := Lib.hid (HC.out.o.lt)
      have HSQ : Hid (∀ w', Fr (inB (.slice Av k cv')) (wr.alloc (.cells #[.slice A2 zp.length cap2, .bool ze] 93)) w' → w'.cell? ⟨wr.heap.size, 0, none⟩ = some (.slice A2 zp.length cap2) ∧ w'.cell? ⟨wr.heap.size, 1, none⟩ = some (.bool ze)) :=
        fun w' hw' => by
          have hb := hbq.fr hw' fun hh => by have := HLV.out _ hh; omega
          exact ⟨hb.cell 0, hb.cell 1⟩
      have HOV := Lib.hid (HC.out.o)
      clear hc hrow hzk hfq hbq d0 d1
      go_upto_region 6 with (fail)
      generalize wr.alloc (.cells #[.slice A2 zp.length cap2, .bool ze] 93) = wq at *
      obtain ⟨q0, q1⟩ := HSQ.out wq (Fr.refl _ _)
      go_region_held3 (fun w' => w'.cell? ⟨wr.heap.size, 0, none⟩ = some (.slice A2 zp.length cap2) ∧ w'.cell? ⟨wr.heap.size, 1, none⟩ = some (.bool ze))
        ((refine HSQ.out _ ?_; (repeat (first | exact Fr.refl _ _ | exact K2.out | exact K1g.out | refine Fr.alloc ?_ _ | refine Fr.drew ?_)); done))
        ((first
          | (go_at_call 84
             refine (clone_any _ zp _ _ (HRQ.out.nob (by repeat (first | exact Fr.refl _ _ | refine Fr.alloc ?_ _ | refine Fr.drew ?_))) (by omega)).mono ?_
             rintro e w5 ⟨vo, rfl, ho, hf5, hn5⟩
             have K1 := Lib.hid (show Fr Nob wq w5 from Fr.trans0 (by repeat (first | exact Fr.refl _ _ | refine Fr.alloc ?_ _ | refine Fr.drew ?_)) hf5)
             have K1g := Lib.hid (K1.out.mono (T := inB (.slice Av k cv')) fun _ hh => hh.elim)
             have HOo := Lib.hid ho
             have HNo := Lib.hid (show NewV wr vo from hn5.le (by have := HFQ.out.size; simp; omega))
             obtain ⟨A5, cap5, rfl, _, _⟩ := ho.form
             clear ho hf5 hn5)
          | (refine step_app rfl (.tmp 23) (.tmp 30) 29 rfl 93 i0 _ 2 32 Tryd.underlying29 hi.out hz0.out hz1.out hz2.out rfl (by decide) _ k (encX xs) (by rfl) ((HOV.out.nob HFQ.out).nob (Fr.trans0 K1.out (by repeat (first | exact Fr.refl _ _ | refine Fr.alloc ?_ _ | refine Fr.drew ?_)))) _ _ 1 [.slice A5 zp.length cap5, .bool ze] (by rfl) (Blk.row (n := 1) (cs := #[.slice A5 zp.length cap5, .bool ze]) (by first | exact Blk.new w5 _ _ | exact (Blk.new w5 _ _).drew) rfl (by decide)) (by intro u hu; simp at hu; rcases hu with rfl | rfl <;> rfl) (by unfold maxLen; omega) (by omega) ?_
             intro v6 w6 ho6 hf6 hat6 _
             have K2 := Lib.hid (show Fr (inB (.slice Av k cv')) wq w6 from Fr.trans (show Fr (inB (.slice Av k cv')) wq _ from (by repeat (first | exact K1g.out | refine Fr.alloc ?_ _ | refine Fr.drew ?_))) hf6 fun k hk => .inl hk)
             have HO6 := Lib.hid ho6
             have HF6 := Lib.hid hf6
             have HA6 := Lib.hid hat6
             obtain ⟨A6, cap6, rfl, _, _⟩ := ho6.form
             clear ho6 hf6 hat6)))
      go_wp2_with fail
      go_roundw
      case rel => exact ⟨k + 1, _, _, by omega, by go_num, SN.out wr w5 _ w6 _ _ (Fr.refl _ _) HOo.out HNo.out (HFQ.out.trans0 K1.out) (by repeat (first | exact Fr.refl _ _ | refine Fr.alloc ?_ _ | refine Fr.drew ?_)) HO6.out HF6.out (by simpa using HA6.out)⟩
      case measure => simp [intOf]; omega
    · have hge : s.clips.length ≤ k := by omega
      have HFC := Lib.hid (HC.out.f)
      obtain ⟨Av, cv', rfl, _, _⟩ := HC.out.o.form
      have HCL : Hid (OwnC w2 wr (.slice Av k cv') s.clips s.clips.length xs S') := by
        show OwnC w2 wr (.slice Av k cv') s.clips s.clips.length xs S'
        obtain rfl : k = s.clips.length := by omega
        exact HC.out
      have hBr := HB1.out.nob HC.out.f
      have k24 : wr.cell? ⟨w.heap.size, 24, none⟩ = some (.slice A s.clips.length cap) := hBr.cell 24
      have f24 := hBr.free 24
      have HBE := Lib.hid (show Blk (wr.setCell ⟨w.heap.size, 24, none⟩ (.slice Av k cv')) w.heap.size (encG s (.slice Ad s.dash.length cd) (.slice Av k cv')).toArray 79 from hBr.set 24 _)
      have hFS := (Fr.refl (fun k => k = w.heap.size) wr).setCell (p := ⟨w.heap.size, 24, none⟩) (.inl rfl) (.slice Av k cv')
      have HZE := Lib.hid ((HZ2.out.nob HC.out.f).fr hFS fun e => hne e.symm)
      have HFS2 := Lib.hid hFS
      clear hBr HC hFS
      go_wp2_with (first
        | (refine wpList_getAt rfl 79 (.tmp 1) rfl w.heap.size 0 (by rfl) (encG s (.slice Ad s.dash.length cd) (.slice Av k cv')) _ (HBE.out.range 0 _ (by rfl)) Tryd.underlying79 rfl sizeG ?_)
        | (refine wpList_putAt rfl 79 (.tmp 2) (.tmp 35) rfl (w.heap.size + 1) 0 (encG s (.slice Ad s.dash.length cd) (.slice Av k cv')) (by rfl) (by rfl) 79 _ HZE.out (Nat.le_refl 26) sizeG (encG_one _ _ _ ⟨_, _, _, rfl⟩ ⟨_, _, _, rfl⟩) ?_))
      intro w9 hb9 hf9
      rw [over_all (encG gZero nilV nilV).toArray (encG s (.slice Ad s.dash.length cd) (.slice Av k cv')) rfl] at hb9
      have HB9 := Lib.hid hb9
      have HF9 := Lib.hid hf9
      clear hb9 hf9 k24 f24
      go_wp2_with fail
      have z1 := HF2.out.size
      have z2 := HFC.out.size
      have z3 := HFS2.out.size
      have z4 := HF9.out.size
      have zb := HZ2.out.lt
      have zc := HN1.out
      have hF9 : Fr Nob w w9 := ((HF2.out.trans0 HFC.out).trans HFS2.out fun k hk => .inr (by rw [hk]; exact Nat.le_refl _)).trans HF9.out fun k hk => .inr (by rw [hk]; omega)
      refine bodyPost_ret (results_cl rfl _ _ _ 79 _ _ rfl HB9.out Tryd.underlying79 rfl sizeG) rfl ⟨_, _, xs, S', rfl, ?_, ?_, hF9⟩
      · have h1 := (HOD2.out.nob HFC.out).fr HFS2.out fun k hk e => by have := HN1.out k hk; have := HB0.out.lt; subst e; omega
        have h2 := h1.fr HF9.out fun k hk e => by have := HN1.out k hk; have := HZ0.out.lt; subst e; omega
        refine h2.row.mono fun k hk => ⟨?_, h2.lt k hk⟩
        have := HN1.out k hk; have := HZ0.out.lt; omega
      · refine HCL.out.re z1 ((HFS2.out.mono (T := fun k => k = w.heap.size ∨ k = w.heap.size + 1) fun k hk => .inl hk).trans (HF9.out.mono (T := fun k => k = w.heap.size ∨ k = w.heap.size + 1) fun k hk => .inr hk) fun k hk => .inl hk) (fun j hj => ?_) hF9
        rcases hj with e | e <;> omega
theorem OwnC.gin {w w' : World} {dv cv : Value} {s : Gst} {xs : List (Clp × Value)} {S : Nat → Prop} (hd : RowIn w' (Bt w w') 1 dv s.dash.length (ints s.dash)) (h : OwnC w w' cv s.clips s.clips.length xs S) : GIn w' (Bt w w') dv cv s := ⟨hd, h.clps⟩
theorem own_any (s : Gst) (dv cv : Value) (S : Nat → Prop) (w : World) (h : GIn w S dv cv s) (hb : SmallG s) :
    Calls Tryd.prog 83 #[gV s dv cv] w fun e w' => ∃ dv' cv', e = .returned (gV s dv' cv') ∧ GIn w' (Bt w w') dv' cv' s ∧ Fr Nob w w' := by
  refine (own_all s dv cv S w h hb).mono ?_
  rintro e w' ⟨dv', cv', xs, S', rfl, hd, hc, hf⟩
  exact ⟨dv', cv', rfl, OwnC.gin hd hc, hf⟩
end Go.Proofs.YtkkejjfmidgciaaDoor
/- The walk of the path's Copy. -/
namespace Go.Proofs.YtkkejjfmidgciaaDoor
open Go.RowKit
set_option linter.unusedVariables false
set_option linter.unusedSimpArgs false
set_option maxRecDepth 8000 in
set_option maxHeartbeats 1600000 in
theorem copy_any (g : Nat) (v : Value) (p : PS) (w : World) (h : Pth w g v p) (hb : PB p) :
    Calls Tryd.prog 90 #[.pointer (some ⟨g, 0, none⟩)] w fun e w' => ∃ g' v', e = .returned (.pointer (some ⟨g', 0, none⟩)) ∧ Pth w' g' v' p ∧ Fr Nob w w' ∧ ∀ k, ptB g' v' k → w.heap.size ≤ k := by
  have hS : ∀ w', Fr Nob w w' → w'.cell? ⟨g, 0, none⟩ = some (.int .i64 p.most) ∧ w'.cell? ⟨g, 1, none⟩ = some v ∧ w'.cell? ⟨g, 2, none⟩ = some (.int .i64 p.start.x) ∧ w'.cell? ⟨g, 3, none⟩ = some (.int .i64 p.start.y) ∧ w'.cell? ⟨g, 4, none⟩ = some (.int .i64 p.now.x) ∧ w'.cell? ⟨g, 5, none⟩ = some (.int .i64 p.now.y) := fun w' hw' => by
    have hc := (h.nob hw').cells
    exact ⟨hc.c0, hc.c1, hc.c2, hc.c3, hc.c4, hc.c5⟩
  have HS := Lib.hid hS
  have HH := Lib.hid h
  have hl := hb.len
  obtain ⟨A, cap, rfl, h1, h2⟩ := h.form
  clear h hb hS
  go_enter Tryd.func90, Tryd.ntmps90
  go_wp2_with fail
  obtain ⟨c0, c1, c2, c3, c4, c5⟩ := HS.out w (Fr.refl _ _)
  go_region_held3 (fun w' => w'.cell? ⟨g, 0, none⟩ = some (.int .i64 p.most) ∧ w'.cell? ⟨g, 1, none⟩ = some (.slice A p.list.length cap) ∧ w'.cell? ⟨g, 2, none⟩ = some (.int .i64 p.start.x) ∧ w'.cell? ⟨g, 3, none⟩ = some (.int .i64 p.start.y) ∧ w'.cell? ⟨g, 4, none⟩ = some (.int .i64 p.now.x) ∧ w'.cell? ⟨g, 5, none⟩ = some (.int .i64 p.now.y))
    ((refine HS.out _ ?_; (repeat (first | exact Fr.refl _ _ | exact H1.out | refine Fr.alloc ?_ _ | refine Fr.drew ?_)); done))
    ((go_at_call 84
      refine (clone_any _ p.list _ _ (HH.out.2.row.fr (show Fr Nob w _ by repeat (first | exact Fr.refl _ _ | refine Fr.alloc ?_ _ | refine Fr.drew ?_)) fun _ _ hh => hh) (by omega)).mono ?_
      rintro e w1 ⟨vo, rfl, ho, hf, hn⟩
      have H1 := Lib.hid (show Fr Nob w w1 from Fr.trans0 (by repeat (first | exact Fr.refl _ _ | refine Fr.alloc ?_ _ | refine Fr.drew ?_)) hf)
      have HO := Lib.hid ho
      have HN := Lib.hid (show NewV w vo from hn.le (by simp))
      obtain ⟨A1, cap1, rfl, _, _⟩ := ho.form
      clear ho hf hn))
  go_wp2_with fail
  go_ret
  refine ⟨_, _, rfl, ⟨Blk.new w1 _ _, HO.out.nob ((Fr.refl Nob w1).alloc _)⟩, H1.out.alloc _, ?_⟩
  rintro k (rfl | hk)
  · exact H1.out.size
  · exact HN.out k hk
end Go.Proofs.YtkkejjfmidgciaaDoor
/- The walks of Now, Depth, Path, copied. -/
namespace Go.Proofs.YtkkejjfmidgciaaDoor
open Go.RowKit
set_option linter.unusedVariables false
set_option linter.unusedSimpArgs false
/-- The cells of the states' block. -/
theorem GsX.cells {w : World} {g : Nat} {F : Nat → Prop} {s : GS} {lab : Nat → Nat} {x : LvG} {sv : Value} {xs : List (Lv × LvG)} (h : GsX w g F s lab x sv xs) :
    Blk w g #[.int .i64 s.cur.st.ctm.a, .int .i64 s.cur.st.ctm.b, .int .i64 s.cur.st.ctm.c, .int .i64 s.cur.st.ctm.d, .int .i64 s.cur.st.ctm.e, .int .i64 s.cur.st.ctm.f, .int .i64 s.cur.st.col.sp, .int .i64 s.cur.st.col.p0, .int .i64 s.cur.st.col.p1, .int .i64 s.cur.st.col.p2, .int .i64 s.cur.st.col.p3, .int .i64 s.cur.st.width, .int .i64 s.cur.st.cap, .int .i64 s.cur.st.join, .int .i64 s.cur.st.miter, x.dv, .int .i64 s.cur.st.phase, .int .i64 s.cur.st.font, .int .i64 s.cur.st.fm.a, .int .i64 s.cur.st.fm.b, .int .i64 s.cur.st.fm.c, .int .i64 s.cur.st.fm.d, .int .i64 s.cur.st.fm.e, .int .i64 s.cur.st.fm.f, x.cv, .bool s.cur.st.dark, .pointer (some ⟨x.pg, 0, none⟩), .int .i64 s.most, .int .i64 s.segs, sv] 124 := h.b
/-- The bounds under which states are walked. -/
structure SmallS (s : GS) : Prop where
  c : SmallG s.cur.st
  p : PB s.cur.p
  v : ∀ l ∈ s.saved, SmallG l.st ∧ PB l.p
  n : s.saved.length ≤ 1000
  m : -9223372036854775808 ≤ s.most ∧ s.most ≤ 9223372036854775807
theorem gdepth_any (g : Nat) (F : Nat → Prop) (s : GS) (w : World) (h : Gs w g F s) : Calls Tryd.prog 35 #[.pointer (some ⟨g, 0, none⟩)] w fun e w' => e = .returned (.int .i64 s.saved.length) ∧ w = w' := by
  obtain ⟨lab, x, sv, xs, h⟩ := h
  have c29 : w.cell? ⟨g, 29, none⟩ = some sv := h.cells.cell 29
  obtain ⟨A, cap, rfl, _, _⟩ := h.o.form
  have hn : xs.length = s.saved.length := by rw [← h.l, List.length_map]
  rw [hn] at c29
  clear h hn
  go_enter Tryd.func35, Tryd.ntmps35
  go_wp2
  go_ret
  exact ⟨rfl, rfl⟩
theorem gdepth_none (w : World) : Calls Tryd.prog 35 #[.pointer none] w fun e w' => e = .returned (.int .i64 0) ∧ w = w' := by
  go_enter Tryd.func35, Tryd.ntmps35
  go_wp2
  go_ret
  exact ⟨rfl, rfl⟩
theorem gpath_none (w : World) : Calls Tryd.prog 33 #[.pointer none] w fun e w' => e = .returned (.pointer none) ∧ w = w' := by
  go_enter Tryd.func33, Tryd.ntmps33
  go_wp2
  go_ret
  exact ⟨rfl, rfl⟩
theorem gpath_any (g : Nat) (F : Nat → Prop) (s : GS) (w : World) (lab : Nat → Nat) (x : LvG) (sv : Value) (xs : List (Lv × LvG)) (h : GsX w g F s lab x sv xs) :
    Calls Tryd.prog 33 #[.pointer (some ⟨g, 0, none⟩)] w fun e w' => e = .returned (.pointer (some ⟨x.pg, 0, none⟩)) ∧ w = w' := by
  have c26 : w.cell? ⟨g, 26, none⟩ = some (.pointer (some ⟨x.pg, 0, none⟩)) := h.cells.cell 26
  clear h
  go_enter Tryd.func33, Tryd.ntmps33
  go_wp2
  go_ret
  exact ⟨rfl, rfl⟩
theorem gnow_any (g : Nat) (F : Nat → Prop) (s : GS) (w : World) (h : Gs w g F s) (hb : SmallG s.cur.st) :
    Calls Tryd.prog 32 #[.pointer (some ⟨g, 0, none⟩)] w fun e w' => ∃ dv cv, e = .returned (gV s.cur.st dv cv) ∧ GIn w' (Bt w w') dv cv s.cur.st ∧ Fr Nob w w' := by
  obtain ⟨lab, x, sv, xs, h⟩ := h
  have hf0 : Fr Nob w (w.alloc (.cells #[.int .i64 0, .int .i64 0, .int .i64 0, .int .i64 0, .int .i64 0, .int .i64 0, .int .i64 0, .int .i64 0, .int .i64 0, .int .i64 0, .int .i64 0, .int .i64 0, .int .i64 0, .int .i64 0, .int .i64 0, .slice none 0 0, .int .i64 0, .int .i64 0, .int .i64 0, .int .i64 0, .int .i64 0, .int .i64 0, .int .i64 0, .int .i64 0, .slice none 0 0, .bool false] 79)) := (Fr.refl Nob w).alloc _
  have HZ := Lib.hid (show Blk (w.alloc (.cells #[.int .i64 0, .int .i64 0, .int .i64 0, .int .i64 0, .int .i64 0, .int .i64 0, .int .i64 0, .int .i64 0, .int .i64 0, .int .i64 0, .int .i64 0, .int .i64 0, .int .i64 0, .int .i64 0, .int .i64 0, .slice none 0 0, .int .i64 0, .int .i64 0, .int .i64 0, .int .i64 0, .int .i64 0, .int .i64 0, .int .i64 0, .int .i64 0, .slice none 0 0, .bool false] 79)) w.heap.size (encG gZero nilV nilV).toArray 79 from Blk.new w _ _)
  have HC := Lib.hid (h.cells.nob hf0)
  have HG := Lib.hid (h.c.g.nob hf0)
  have HF := Lib.hid hf0
  have HB := Lib.hid hb
  clear h hf0 hb
  go_enter Tryd.func32, Tryd.ntmps32
  go_wp2_with (refine wpList_getAt rfl 79 (.tmp 9) rfl g 0 (by rfl) (encG s.cur.st x.dv x.cv) _ (HC.out.range 0 _ (by rfl)) Tryd.underlying79 rfl sizeG ?_)
  generalize w.alloc (.cells #[.int .i64 0, .int .i64 0, .int .i64 0, .int .i64 0, .int .i64 0, .int .i64 0, .int .i64 0, .int .i64 0, .int .i64 0, .int .i64 0, .int .i64 0, .int .i64 0, .int .i64 0, .int .i64 0, .int .i64 0, .slice none 0 0, .int .i64 0, .int .i64 0, .int .i64 0, .int .i64 0, .int .i64 0, .int .i64 0, .int .i64 0, .int .i64 0, .slice none 0 0, .bool false] 79) = wa at *
  refine (own_any s.cur.st x.dv x.cv _ wa HG.out HB.out).mono ?_
  rintro e w1 ⟨dv, cv, rfl, hg, hf1⟩
  have HG1 := Lib.hid hg
  have HF1 := Lib.hid hf1
  have HZ1 := Lib.hid (HZ.out.nob hf1)
  obtain ⟨Ad, cd, hdv, _⟩ := hg.d.form
  obtain ⟨Ac, cc, hcv, _⟩ := hg.c.form
  have HONE := Lib.hid (encG_one s.cur.st dv cv ⟨_, _, _, hdv⟩ ⟨_, _, _, hcv⟩)
  clear hg hf1 hdv hcv
  unfold gV
  go_wp2_with (refine wpList_putAt rfl 79 (.tmp 2) (.tmp 11) rfl w.heap.size 0 (encG s.cur.st dv cv) (by rfl) (by rfl) 79 _ HZ1.out (Nat.le_refl 26) sizeG HONE.out ?_)
  intro w3 hb3 hf3
  rw [over_all (encG gZero nilV nilV).toArray (encG s.cur.st dv cv) rfl] at hb3
  have HB3 := Lib.hid hb3
  have H3 := Lib.hid hf3
  clear hb3 hf3
  go_wp2_with fail
  have z1 := HF.out.size
  have z2 := HZ.out.lt
  have z3 := H3.out.size
  refine bodyPost_ret (results_cl rfl _ _ _ 79 _ _ rfl HB3.out Tryd.underlying79 rfl sizeG) rfl ⟨dv, cv, rfl, ?_, ?_⟩
  · refine (HG1.out.fr H3.out fun k hk e => ?_).mono fun k hk => ⟨?_, ?_⟩
    · have := hk.1; subst e; omega
    · exact Nat.le_trans z1 hk.1
    · exact Nat.lt_of_lt_of_le hk.2 z3
  · exact (HF.out.trans0 HF1.out).trans H3.out fun k hk => .inr (by rw [hk]; exact Nat.le_refl _)
end Go.Proofs.YtkkejjfmidgciaaDoor
/- A region that draws its order, whose last operation waits for all others: it comes last; the others go under a condition that the last one need not keep. No program, no conditions. -/
namespace Go.Proofs.YtkkejjfmidgciaaDoor
open Go.RowKit
set_option linter.unusedVariables false
set_option linter.unusedSimpArgs false
theorem wp_post {P : Program} {o : Oper} {a : Act} {w : World} {K : Act → World → Prop} {Q Q' : Exit → Act → World → Prop} (hp : ∀ c a w, Q' (.panic c) a w → Q (.panic c) a w) (ho : ∀ a w, Q' .outgrown a w → Q .outgrown a w)
    (h : o.wp P a w K Q') : o.wp P a w K Q := by
  unfold Oper.wp at *
  generalize (execOp a.eval o).run P w = r at *
  cases r with
  | ok n w' =>
    cases n <;> simp only [Oper.upon] at h ⊢ <;>
      first
        | exact h
        | (refine Calls.mono h fun e w'' he => ?_
           cases e with
           | returned v => exact he
           | panicked c => exact hp _ _ _ he
           | outgrown => exact he.imp fun a ⟨w, h⟩ => ⟨w, ho _ _ h⟩)
  | halt x w' =>
    cases x <;> simp only [Oper.upon] at h ⊢
    case panic v => exact hp _ _ _ h
/-- The last operation waits for all others. -/
def lastB (md : Region.Mode) (l : List Oper) (o : Oper) : Bool :=
  l.all (fun x => x.guard.isNone) && o.guard.isNone && (l.zipIdx.all fun p => p.1.after.all fun e => !Region.binds md e || decide (e.on < p.2)) &&
    (o.after.all fun e => !Region.binds md e || decide (e.on < l.length)) && ((List.range l.length).all fun i => (o.after.any fun e => Region.binds md e && e.on == i) || l.zipIdx.any fun p => decide (i < p.2) && p.1.after.any fun e => Region.binds md e && e.on == i)
theorem lastB_spec {md : Region.Mode} {l : List Oper} {o : Oper} (h : lastB md l o = true) :
    (∀ (i : Nat) (x : Oper), l[i]? = some x → x.guard = none) ∧ o.guard = none ∧ (∀ (i : Nat) (x : Oper), l[i]? = some x → ∀ e ∈ x.after, Region.binds md e = true → e.on < i) ∧
    (∀ e ∈ o.after, Region.binds md e = true → e.on < l.length) ∧ ∀ i : Nat, i < l.length → (∃ e ∈ o.after, Region.binds md e = true ∧ e.on = i) ∨ ∃ k x, i < k ∧ l[k]? = some x ∧ ∃ e ∈ x.after, Region.binds md e = true ∧ e.on = i := by
  simp only [lastB, Bool.and_eq_true] at h
  obtain ⟨⟨⟨⟨h1, h2⟩, h3⟩, h4⟩, h5⟩ := h
  refine ⟨fun i x hx => ?_, by simpa using h2, fun i x hx e he hb => ?_, fun e he hb => ?_, fun i hi => ?_⟩
  · have := List.all_eq_true.1 h1 x (List.mem_of_getElem? hx)
    simpa using this
  · have := List.all_eq_true.1 h3 (x, i) (List.mem_zipIdx_iff_getElem?.2 (by simpa using hx))
    have := (Array.all_eq_true_iff_forall_mem.1 this) e he
    simp only [Bool.or_eq_true, Bool.not_eq_true', decide_eq_true_eq] at this
    rcases this with h | h
    · rw [h] at hb; cases hb
    · exact h
  · have := (Array.all_eq_true_iff_forall_mem.1 h4) e he
    simp only [Bool.or_eq_true, Bool.not_eq_true', decide_eq_true_eq] at this
    rcases this with h | h
    · rw [h] at hb; cases hb
    · exact h
  · have := List.all_eq_true.1 h5 i (List.mem_range.2 hi)
    rcases Bool.or_eq_true_iff.1 this with this | this
    · obtain ⟨k, hk, hb⟩ := Array.any_eq_true.1 this
      have he := Array.getElem_mem hk
      generalize o.after[k] = e at *
      simp only [Bool.and_eq_true, beq_iff_eq] at hb
      exact .inl ⟨e, he, hb.1, hb.2⟩
    · obtain ⟨⟨x, j⟩, hx, hb⟩ := List.any_eq_true.1 this
      simp only [Bool.and_eq_true, decide_eq_true_eq] at hb
      obtain ⟨k, hk, hb2⟩ := Array.any_eq_true.1 hb.2
      have he := Array.getElem_mem hk
      generalize x.after[k] = e at *
      simp only [Bool.and_eq_true, beq_iff_eq] at hb2
      exact .inr ⟨j, x, hb.1, by simpa using List.mem_zipIdx_iff_getElem?.1 hx, e, he, hb2.1, hb2.2⟩
/-- What is listed has all that it waits for listed. -/
def ClosedL (md : Region.Mode) (l : List Oper) (listed : Array Bool) : Prop := ∀ (j : Nat) (x : Oper), l[j]? = some x → listed.getD j true = true → ∀ e ∈ x.after, Region.binds md e = true → listed.getD e.on true = true
theorem push_getD {listed : Array Bool} {j : Nat} {d : Bool} (h : j < listed.size) (b : Bool) : (listed.push b).getD j d = listed.getD j d := by
  simp [Array.getD_eq_getD_getElem?, Array.getElem?_push, Nat.ne_of_lt h]
theorem wpAny_snoc {P : Program} {md : Region.Mode} {l : List Oper} {o : Oper} {Q Q' : Exit → Act → World → Prop} (hB : lastB md l o = true)
    (hn : ∀ a w, Q' .normal a w → o.wp P a w (fun a' w' => Q .normal a' w') Q) (hp : ∀ c a w, Q' (.panic c) a w → Q (.panic c) a w) (ho : ∀ a w, Q' .outgrown a w → Q .outgrown a w) :
    ∀ (fuel : Nat) (listed : Array Bool) (a : Act) (w : World), listed.size = l.length → ClosedL md l listed → wpAny P md l.toArray Q' fuel listed a w → wpAny P md (l ++ [o]).toArray Q (fuel + 1) (listed.push false) a w := by
  obtain ⟨g1, g2, g3, g4, g5⟩ := lastB_spec hB
  have getL : ∀ i, i < l.length → (l ++ [o]).toArray[i]? = l.toArray[i]? := fun i hi => by simp [List.getElem?_append_left hi]
  have getO : (l ++ [o]).toArray[l.length]? = some o := by simp
  -- which may come up
  have small : ∀ (listed : Array Bool) i, listed.size = l.length → i < l.length → (i ∈ Region.ready md (l ++ [o]).toArray (listed.push false) ↔ i ∈ Region.ready md l.toArray listed) := fun listed i hs hi => by
    rw [mem_ready, mem_ready, getL i hi, push_getD (by omega)]
    refine and_congr Iff.rfl ⟨fun ⟨oj, h1, h2⟩ => ⟨oj, h1, fun e he hb => ?_⟩, fun ⟨oj, h1, h2⟩ => ⟨oj, h1, fun e he hb => ?_⟩⟩
    · have hlt := g3 i oj (by simpa using h1) e he hb
      have := h2 e he hb
      rwa [push_getD (by omega)] at this
    · have hlt := g3 i oj (by simpa using h1) e he hb
      rw [push_getD (by omega)]
      exact h2 e he hb
  have big : ∀ (listed : Array Bool) i, listed.size = l.length → ClosedL md l listed → i ∈ Region.ready md (l ++ [o]).toArray (listed.push false) → ¬ i < l.length → i = l.length ∧ ∀ j, j < l.length → listed.getD j true = true := fun listed i hs hc hi hn => by
    obtain ⟨h1, oj, h2, h3⟩ := mem_ready.1 hi
    have hil : i = l.length := by
      have := (Array.getElem?_eq_some_iff.1 h2).1
      simp at this
      omega
    subst hil
    rw [getO] at h2
    cases h2
    have key : ∀ d j, l.length ≤ j + d → j < l.length → listed.getD j true = true := by
      intro d
      induction d with
      | zero => intro j hd hj; omega
      | succ d ih =>
        intro j hd hj
        rcases g5 j hj with ⟨e, he, hb, rfl⟩ | ⟨k, x, hjk, hx, e, he, hb, rfl⟩
        · have := h3 e he hb
          rw [push_getD (by omega)] at this
          simp only [Array.getD_eq_getD_getElem?, Array.getElem?_eq_getElem (show e.on < listed.size by omega), Option.getD_some] at this ⊢
          exact this
        · exact hc k x hx (ih k (by omega) (List.getElem?_eq_some_iff.1 hx).1) e he hb
    exact ⟨rfl, fun j hj => key l.length j (by omega) hj⟩
  have allL : ∀ (listed : Array Bool), listed.size = l.length → Region.ready md l.toArray listed = [] → ∀ j, j < l.length → listed.getD j true = true := fun listed hs hr j => by
    induction j using Nat.strongRecOn with
    | ind j ih =>
      intro hj
      by_cases hl : listed.getD j true = true
      · exact hl
      · exfalso
        have : j ∈ Region.ready md l.toArray listed := mem_ready.2 ⟨by simpa using hl, l[j], by simp [hj], fun e he hb => by
          have hlt := g3 j l[j] (List.getElem?_eq_getElem hj) e he hb
          have := ih e.on hlt (by omega)
          simp only [Array.getD_eq_getD_getElem?, Array.getElem?_eq_getElem (show e.on < listed.size by omega), Option.getD_some] at this ⊢
          exact this⟩
        rw [hr] at this
        cases this
  have none : ∀ (listed : Array Bool), listed.size = l.length → (∀ j, j < l.length → listed.getD j true = true) → Region.ready md l.toArray listed = [] := fun listed hs h => by
    refine List.eq_nil_iff_forall_not_mem.2 fun i hi => ?_
    obtain ⟨h1, oj, h2, _⟩ := mem_ready.1 hi
    have hil : i < l.length := by have := (Array.getElem?_eq_some_iff.1 h2).1; simpa using this
    rw [h i hil] at h1
    cases h1
  have endR : ∀ (listed : Array Bool), listed.size = l.length → (∀ j, j < l.length → listed.getD j true = true) → Region.ready md (l ++ [o]).toArray ((listed.push false).setIfInBounds l.length true) = [] := fun listed hs h => by
    refine List.eq_nil_iff_forall_not_mem.2 fun i hi => ?_
    obtain ⟨h1, oj, h2, _⟩ := mem_ready.1 hi
    have hil : i < l.length + 1 := by have := (Array.getElem?_eq_some_iff.1 h2).1; simpa using this
    by_cases he : i = l.length
    · subst he
      simp [Array.getD_eq_getD_getElem?, ← hs] at h1
    · have := h i (by omega)
      rw [← push_getD (by omega) false] at this
      simp only [Array.getD_eq_getD_getElem?, Array.getElem?_setIfInBounds_ne (show l.length ≠ i by omega)] at h1 this
      rw [this] at h1
      cases h1
  have nonNil : ∀ (listed : Array Bool), listed.size = l.length → (∀ j, j < l.length → listed.getD j true = true) → l.length ∈ Region.ready md (l ++ [o]).toArray (listed.push false) := fun listed hs h => by
    refine mem_ready.2 ⟨by simp [Array.getD_eq_getD_getElem?, ← hs], o, getO, fun e he hb => ?_⟩
    have hlt := g4 e he hb
    have := h e.on hlt
    rw [push_getD (by omega)]
    simp only [Array.getD_eq_getD_getElem?, Array.getElem?_eq_getElem (show e.on < listed.size by omega), Option.getD_some] at this ⊢
    exact this
  have fin : ∀ (fuel : Nat) (listed : Array Bool) (a : Act) (w : World), listed.size = l.length → ClosedL md l listed → (∀ j, j < l.length → listed.getD j true = true) → Q' .normal a w → wpAny P md (l ++ [o]).toArray Q (fuel + 1) (listed.push false) a w := fun fuel listed a w hs hc h hq => by
    refine ⟨fun hr => ?_, fun i hi => ?_⟩
    · have := nonNil listed hs h; rw [hr] at this; cases this
    · by_cases hil : i < l.length
      · have := (small listed i hs hil).1 hi
        rw [none listed hs h] at this
        cases this
      · obtain ⟨rfl, _⟩ := big listed i hs hc hi hil
        unfold wpOp
        rw [getO]
        simp only [Region.wanted, g2, if_true]
        refine .inl (Oper.wp_mono (fun a' w' hq' => ?_) (hn a w hq))
        cases fuel with
        | zero => exact ⟨endR listed hs h, hq'⟩
        | succ fuel => exact ⟨fun _ => hq', fun i hi => by rw [endR listed hs h] at hi; cases hi⟩
  intro fuel
  induction fuel with
  | zero =>
    intro listed a w hs hc h
    exact fin 0 listed a w hs hc (allL listed hs h.1) h.2
  | succ fuel ih =>
    intro listed a w hs hc h
    by_cases hr : Region.ready md l.toArray listed = []
    · exact fin (fuel + 1) listed a w hs hc (allL listed hs hr) (h.1 hr)
    · refine ⟨fun hr' => ?_, fun i hi => ?_⟩
      · exfalso
        obtain ⟨i, hi⟩ := List.exists_mem_of_ne_nil _ hr
        have hil : i < l.length := by
          obtain ⟨_, oj, h2, _⟩ := mem_ready.1 hi
          have := (Array.getElem?_eq_some_iff.1 h2).1; simpa using this
        have := (small listed i hs hil).2 hi
        rw [hr'] at this
        cases this
      · by_cases hil : i < l.length
        · have h1 := h.2 i ((small listed i hs hil).1 hi)
          have hget : l.toArray[i]? = some l[i] := by simp [hil]
          unfold wpOp at h1 ⊢
          rw [getL i hil]
          rw [hget] at h1 ⊢
          have hg := g1 i l[i] (List.getElem?_eq_getElem hil)
          simp only [Region.wanted, hg, if_true] at h1 ⊢
          have he : (listed.push false).setIfInBounds i true = (listed.setIfInBounds i true).push false := by
            apply Array.toList_inj.1
            simp only [Array.toList_setIfInBounds, Array.toList_push]
            exact List.set_append_left _ _ (by simpa [hs] using hil)
          rcases h1 with h1 | ⟨h1, h2⟩
          · refine .inl (Oper.wp_mono (fun a' w' hq => ?_) (wp_post hp ho h1))
            rw [he]
            refine ih _ a' w' (by simpa using hs) (fun j x hx hj e he hb => ?_) hq
            obtain ⟨_, oj, h4, h5⟩ := mem_ready.1 ((small listed i hs hil).1 hi)
            have hjl := (List.getElem?_eq_some_iff.1 hx).1
            have hlt := g3 j x hx e he hb
            have hset : ∀ k, k < l.length → (listed.setIfInBounds i true).getD k true = if k = i then true else listed.getD k true := fun k hk => by
              by_cases hki : k = i
              · subst hki; simp [Array.getD_eq_getD_getElem?, hs, hk]
              · simp only [Array.getD_eq_getD_getElem?, Array.getElem?_setIfInBounds_ne (show i ≠ k from fun e => hki e.symm), hki, if_false]
            rw [hset _ (by omega)]
            rw [hset _ hjl] at hj
            by_cases hei : e.on = i
            · rw [if_pos hei]
            · rw [if_neg hei]
              by_cases hji : j = i
              · subst hji
                have e1 : oj = x := by simpa [hx] using h4.symm
                subst e1
                have := h5 e he hb
                simp only [Array.getD_eq_getD_getElem?, Array.getElem?_eq_getElem (show e.on < listed.size by omega), Option.getD_some] at this ⊢
                exact this
              · rw [if_neg hji] at hj
                exact hc j x hx hj e he hb
          · exact .inr ⟨h1, h2.imp fun a ⟨w, h⟩ => ⟨w, ho _ _ h⟩⟩
        · exfalso
          obtain ⟨rfl, hall⟩ := big listed i hs hc hi hil
          exact hr (none listed hs hall)
/-- What is owed ahead of the last operation. -/
def LastQ (P : Program) (o : Oper) (Q : Exit → Act → World → Prop) : Exit → Act → World → Prop
  | .normal, a, w => o.wp P a w (fun a' w' => Q .normal a' w') Q
  | .panic _, _, _ => False
  | e, a, w => Q e a w
theorem wp_region_last {P : Program} {id : Nat} {l : List Oper} {o : Oper} {Q : Exit → Act → World → Prop} {a : Act} {w : World} (S : World → Prop) (hm : P.follows .mixedOrders = true) (hB : lastB .any l o = true) (hS : S w.drew)
    (h : S w.drew → wpAnyH P .any l.toArray (LastQ P o Q) S l.length (Array.replicate l.length false) a w.drew) : (Code.region id (l ++ [o]).toArray true).wp P Q a w := by
  refine wp_region_any hm ?_
  have := wpAny_snoc (Q := Q) (Q' := LastQ P o Q) hB (fun a w hq => hq) (fun c a w hf => (hf : False).elim) (fun a w hq => hq) l.length (Array.replicate l.length false) a w.drew (by simp) (fun j x hx hj => by have := (List.getElem?_eq_some_iff.1 hx).1; simp [Array.getD_eq_getD_getElem?, this] at hj) (wpAny_of_held _ _ _ _ (h hS))
  have e1 : (l ++ [o]).toArray.size = l.length + 1 := by simp
  have e2 : Array.replicate (l.length + 1) false = (Array.replicate l.length false).push false := by simp [Array.replicate_succ]
  rw [e1, e2]
  exact this
theorem wp_region_last' {P : Program} {id : Nat} {ops l : List Oper} {o : Oper} {Q : Exit → Act → World → Prop} {a : Act} {w : World} (n : Nat) (hn : ops.length = n + 1) (ho : ops[n]? = some o) (hl : ops.take n = l) (S : World → Prop) (hm : P.follows .mixedOrders = true) (hB : lastB .any l o = true) (hS : S w.drew)
    (h : S w.drew → wpAnyH P .any l.toArray (LastQ P o Q) S l.length (Array.replicate l.length false) a w.drew) : (Code.region id ops.toArray true).wp P Q a w := by
  have e : ops = l ++ [o] := by
    rw [← hl]
    have h1 := List.take_succ_eq_append_getElem (l := ops) (i := n) (by omega)
    rw [List.take_of_length_le (by omega)] at h1
    rw [List.getElem?_eq_getElem (by omega)] at ho
    rw [← Option.some.inj ho]
    exact h1
  rw [e]
  exact wp_region_last S hm hB hS h
/-- One operation that comes up alone. -/
theorem held_one {P : Program} {md : Region.Mode} {ops : Array Oper} {Q : Exit → Act → World → Prop} {S : World → Prop} {fuel : Nat} {listed : Array Bool} {a : Act} {w : World} (i : Nat) {o : Oper} (ho : ops[i]? = some o) (hr : Region.ready md ops listed = [i]) (hg : o.guard = none)
    (h : ∀ K : Act → World → Prop, (∀ a w, S w → wpAnyH P md ops Q S fuel (listed.setIfInBounds i true) a w → K a w) → Oper.wp P o a w K Q) : wpAnyH P md ops Q S (fuel + 1) listed a w := by
  refine wpAnyH_all hr (by simp) fun j hj => ?_
  rw [List.mem_singleton] at hj
  subst hj
  unfold wpOp
  rw [ho]
  simp only [Region.wanted, hg, if_true]
  exact .inl (h _ fun a w h1 h2 => ⟨h1, h2⟩)
end Go.Proofs.YtkkejjfmidgciaaDoor
/- The walk of copied. -/
namespace Go.Proofs.YtkkejjfmidgciaaDoor
open Go.RowKit
set_option linter.unusedVariables false
set_option linter.unusedSimpArgs false
theorem run_storeAtRow {P : Program} {w : World} (ty : TypeId) (g o : Nat) (cells : List Value) (t : TypeId) (old : Array Value) (hg : Blk w g old t) (hfit : o + cells.length ≤ old.size) (hi : (P.info? ty).map (·.size) = some cells.length) (h1 : ∀ u ∈ cells, u.oneCell' = true) :
    (Instr.storeAt ty (.pointer (some ⟨g, o, none⟩)) (.agg cells.toArray)).run P w = .ok () (w.setRow g (over old o cells)) := by
  simp only [Instr.storeAt, Instr.sureAddr, Sem.run_bind, Sem.run_pure, Result.andThen_ok, run_putAt ty g o cells t old hg hfit hi h1]
theorem sizeL : (Tryd.prog.info? 121).map (·.size) = some 27 := by kernel_rfl
theorem encL_one (l : Lv) (x : LvG) (hd : ∃ A n c, x.dv = .slice A n c) (hc : ∃ A n c, x.cv = .slice A n c) : ∀ u ∈ encL l x, u.oneCell' = true := by
  intro u hu
  rcases List.mem_append.1 hu with hu | hu
  · exact encG_one _ _ _ hd hc u hu
  · rw [List.mem_singleton] at hu; subst hu; rfl
/-- A copy of a level: where it lies. -/
structure LvNew (w w' : World) (l : Lv) (x : LvG) (m : Nat) : Prop where
  lo : w.heap.size ≤ m
  hi : m ≤ w'.heap.size
  g : GIn w' (fun k => w.heap.size ≤ k ∧ k < m) x.dv x.cv l.st
  p : Pth w' x.pg x.pv l.p
  b : ∀ k, ptB x.pg x.pv k → m ≤ k
  f : Fr Nob w w'
theorem LvNew.nob {w w' w'' : World} {l : Lv} {x : LvG} {m : Nat} (h : LvNew w w' l x m) (hf : Fr Nob w' w'') : LvNew w w'' l x m :=
  ⟨h.lo, Nat.le_trans h.hi hf.size, h.g.nob hf, h.p.nob hf, h.b, h.f.trans0 hf⟩
theorem LvNew.after {w0 w w' : World} {l : Lv} {x : LvG} {m : Nat} (h : LvNew w w' l x m) (hf : Fr Nob w0 w) : LvNew w0 w' l x m :=
  ⟨Nat.le_trans hf.size h.lo, h.hi, h.g.mono fun k hk => ⟨Nat.le_trans hf.size hk.1, hk.2⟩, h.p, h.b, hf.trans0 h.f⟩
theorem LvNew.fr {w w' w'' : World} {l : Lv} {x : LvG} {m : Nat} {T : Nat → Prop} (h : LvNew w w' l x m) (hf : Fr T w' w'') (hg : ∀ k, T k → ¬ (w.heap.size ≤ k ∧ k < m)) (hp : ∀ k, T k → ¬ ptB x.pg x.pv k) (hn : ∀ k, T k → w.heap.size ≤ k) : LvNew w w'' l x m :=
  ⟨h.lo, Nat.le_trans h.hi hf.size, h.g.fr hf fun k hk ht => hg k ht hk, h.p.fr hf fun k hk ht => hp k ht hk, h.b, h.f.trans hf fun k hk => .inr (hn k hk)⟩
set_option maxRecDepth 8000 in
set_option maxHeartbeats 6400000 in
theorem copied_any (l : Lv) (x : LvG) (S Q : Nat → Prop) (w : World) (h : LvIn w S Q l x) (hb : SmallG l.st) (hp : PB l.p) :
    Calls Tryd.prog 85 #[.agg (encL l x).toArray] w fun e w' => ∃ x' m, e = .returned (.agg (encL l x').toArray) ∧ LvNew w w' l x' m := by
  have hf0 : Fr Nob w ((w.alloc (.cells (encL l x).toArray 121)).alloc (.cells #[.int .i64 0, .int .i64 0, .int .i64 0, .int .i64 0, .int .i64 0, .int .i64 0, .int .i64 0, .int .i64 0, .int .i64 0, .int .i64 0, .int .i64 0, .int .i64 0, .int .i64 0, .int .i64 0, .int .i64 0, .slice none 0 0, .int .i64 0, .int .i64 0, .int .i64 0, .int .i64 0, .int .i64 0, .int .i64 0, .int .i64 0, .int .i64 0, .slice none 0 0, .bool false, .pointer none] 121)) := ((Fr.refl Nob w).alloc _).alloc _
  have hB0 : Blk ((w.alloc (.cells (encL l x).toArray 121)).alloc (.cells #[.int .i64 0, .int .i64 0, .int .i64 0, .int .i64 0, .int .i64 0, .int .i64 0, .int .i64 0, .int .i64 0, .int .i64 0, .int .i64 0, .int .i64 0, .int .i64 0, .int .i64 0, .int .i64 0, .int .i64 0, .slice none 0 0, .int .i64 0, .int .i64 0, .int .i64 0, .int .i64 0, .int .i64 0, .int .i64 0, .int .i64 0, .int .i64 0, .slice none 0 0, .bool false, .pointer none] 121)) w.heap.size (encL l x).toArray 121 := (Blk.new w _ _).alloc _
  have HZ0 := Lib.hid (show Blk ((w.alloc (.cells (encL l x).toArray 121)).alloc (.cells #[.int .i64 0, .int .i64 0, .int .i64 0, .int .i64 0, .int .i64 0, .int .i64 0, .int .i64 0, .int .i64 0, .int .i64 0, .int .i64 0, .int .i64 0, .int .i64 0, .int .i64 0, .int .i64 0, .int .i64 0, .slice none 0 0, .int .i64 0, .int .i64 0, .int .i64 0, .int .i64 0, .int .i64 0, .int .i64 0, .int .i64 0, .int .i64 0, .slice none 0 0, .bool false, .pointer none] 121)) (w.heap.size + 1) #[.int .i64 0, .int .i64 0, .int .i64 0, .int .i64 0, .int .i64 0, .int .i64 0, .int .i64 0, .int .i64 0, .int .i64 0, .int .i64 0, .int .i64 0, .int .i64 0, .int .i64 0, .int .i64 0, .int .i64 0, .slice none 0 0, .int .i64 0, .int .i64 0, .int .i64 0, .int .i64 0, .int .i64 0, .int .i64 0, .int .i64 0, .int .i64 0, .slice none 0 0, .bool false, .pointer none] 121 from Blk.new1 w _ _ _)
  have HL := Lib.hid (h.fr (T := Nob) hf0 (fun _ _ hh => hh) fun _ _ hh => hh)
  have HF0 := Lib.hid hf0
  have HSG := Lib.hid hb
  have HPB := Lib.hid hp
  have hS : ∀ w', Fr Nob ((w.alloc (.cells (encL l x).toArray 121)).alloc (.cells #[.int .i64 0, .int .i64 0, .int .i64 0, .int .i64 0, .int .i64 0, .int .i64 0, .int .i64 0, .int .i64 0, .int .i64 0, .int .i64 0, .int .i64 0, .int .i64 0, .int .i64 0, .int .i64 0, .int .i64 0, .slice none 0 0, .int .i64 0, .int .i64 0, .int .i64 0, .int .i64 0, .int .i64 0, .int .i64 0, .int .i64 0, .int .i64 0, .slice none 0 0, .bool false, .pointer none] 121)) w' → (fun w' => w'.rangeAt w.heap.size 0 (encG l.st x.dv x.cv) ∧ w'.cell? ⟨w.heap.size, 26, none⟩ = some (.pointer (some ⟨x.pg, 0, none⟩))) w' := fun w' hw' => by
    have hb := hB0.nob hw'
    exact ⟨hb.range 0 _ rfl, hb.cell 26⟩
  have HS := Lib.hid hS
  clear h hb hp hf0 hB0 hS
  go_enter Tryd.func85, Tryd.ntmps85
  go_wp2_with fail
  generalize (w.alloc (.cells (encL l x).toArray 121)).alloc (.cells #[.int .i64 0, .int .i64 0, .int .i64 0, .int .i64 0, .int .i64 0, .int .i64 0, .int .i64 0, .int .i64 0, .int .i64 0, .int .i64 0, .int .i64 0, .int .i64 0, .int .i64 0, .int .i64 0, .int .i64 0, .slice none 0 0, .int .i64 0, .int .i64 0, .int .i64 0, .int .i64 0, .int .i64 0, .int .i64 0, .int .i64 0, .int .i64 0, .slice none 0 0, .bool false, .pointer none] 121) = wa at *
  refine wp_region_last' (ops := _) (o := _) (l := _) 7 rfl rfl rfl (fun w' => w'.rangeAt w.heap.size 0 (encG l.st x.dv x.cv) ∧ w'.cell? ⟨w.heap.size, 26, none⟩ = some (.pointer (some ⟨x.pg, 0, none⟩))) (by kernel_rfl) (by kernel_rfl) (HS.out _ (Fr.drew (Fr.refl Nob wa))) fun hH => ?_
  simp only [List.take_succ_cons, List.take_zero]
  refine wpAnyH_take (i := 0) (v := ?va1) rfl (by kernel_rfl) (by kernel_rfl) (by kernel_rfl) (fun _ _ _ h => h) (Or.inl ⟨by rfl, ?ha1⟩) hH ?ra1
  case ha1 => (intro w hSw; (try dsimp only at hSw); go_simp; (try with_reducible rfl))
  simp only [Act.put, List.getElem_toArray, List.getElem_cons_succ, List.getElem_cons_zero, List.setIfInBounds_toArray, List.set_cons_zero, List.set_cons_succ]
  refine wpAnyH_take (i := 1) (v := _) rfl (by kernel_rfl) (by kernel_rfl) (by kernel_rfl) (fun _ _ _ h => h) (yieldsIf_load_mid (by rfl) 79 (.tmp 3) rfl w.heap.size 0 rfl (encG l.st x.dv x.cv) _ (fun w hw => hw.1) Tryd.underlying79 rfl sizeG) hH ?_
  simp only [Act.put, List.getElem_toArray, List.getElem_cons_succ, List.getElem_cons_zero, List.setIfInBounds_toArray, List.set_cons_zero, List.set_cons_succ]
  refine wpAnyH_take (i := 3) (v := ?va3) rfl (by kernel_rfl) (by kernel_rfl) (by kernel_rfl) (fun _ _ _ h => h) (Or.inl ⟨by rfl, ?ha3⟩) hH ?ra3
  case ha3 => (intro w hSw; (try dsimp only at hSw); go_simp; (try with_reducible rfl))
  simp only [Act.put, List.getElem_toArray, List.getElem_cons_succ, List.getElem_cons_zero, List.setIfInBounds_toArray, List.set_cons_zero, List.set_cons_succ]
  refine wpAnyH_take (i := 4) (v := ?va4) rfl (by kernel_rfl) (by kernel_rfl) (by kernel_rfl) (fun _ _ _ h => h) (Or.inl ⟨by rfl, ?ha4⟩) hH ?ra4
  case ha4 => (intro w hSw; (try dsimp only at hSw); obtain ⟨_, hSw⟩ := hSw; go_simp; (try with_reducible rfl))
  simp only [Act.put, List.getElem_toArray, List.getElem_cons_succ, List.getElem_cons_zero, List.setIfInBounds_toArray, List.set_cons_zero, List.set_cons_succ]
  refine held_one 2 rfl (by kernel_rfl) rfl fun K hK => ?_
  replace hK := Lib.hid hK
  clear hH
  go_simp
  refine (own_any l.st x.dv x.cv _ _ (HL.out.g.nob (by repeat (first | exact Fr.refl _ _ | refine Fr.alloc ?_ _ | refine Fr.drew ?_))) HSG.out).mono ?_
  unfold gV
  simp only [encG]
  rintro e w1 ⟨dv, cv, rfl, hg, hf1⟩
  have N1 := Lib.hid (show Fr Nob wa w1 from Fr.trans0 (by repeat (first | exact Fr.refl _ _ | refine Fr.alloc ?_ _ | refine Fr.drew ?_)) hf1)
  have HG1 := Lib.hid (show GIn w1 (fun k => wa.heap.size ≤ k ∧ k < w1.heap.size) dv cv l.st from hg.mono fun k hk => ⟨Nat.le_trans (by simp) hk.1, hk.2⟩)
  obtain ⟨Ad, cd, rfl, _⟩ := hg.d.form
  obtain ⟨Ac, cc, rfl, _⟩ := hg.c.form
  clear hg hf1
  dsimp only
  have hH := HS.out w1 N1.out
  refine hK.out _ _ hH ?_
  clear hK K
  refine held_one 5 rfl (by kernel_rfl) rfl fun K hK => ?_
  replace hK := Lib.hid hK
  clear hH
  go_simp
  refine (copy_any x.pg x.pv l.p _ ((HL.out.p.nob N1.out).nob (by repeat (first | exact Fr.refl _ _ | refine Fr.alloc ?_ _ | refine Fr.drew ?_))) HPB.out).mono ?_
  rintro e w2 ⟨pg', pv', rfl, hp, hf2, hn2⟩
  have N2 := Lib.hid (show Fr Nob w1 w2 from Fr.trans0 (by repeat (first | exact Fr.refl _ _ | refine Fr.alloc ?_ _ | refine Fr.drew ?_)) hf2)
  have HP2 := Lib.hid hp
  have HN2 := Lib.hid (show ∀ k, ptB pg' pv' k → w1.heap.size ≤ k from fun k hk => Nat.le_trans (by simp) (hn2 k hk))
  have HZ2 := Lib.hid (HZ0.out.nob (N1.out.trans0 N2.out))
  clear hp hf2 hn2
  dsimp only
  have hH := HS.out w2 (N1.out.trans0 N2.out)
  refine hK.out _ _ hH ?_
  clear hK K
  refine wpAnyH_take (i := 6) (v := ?va7) rfl (by kernel_rfl) (by kernel_rfl) (by kernel_rfl) (fun _ _ _ h => h) (Or.inl ⟨by rfl, ?ha7⟩) hH ?ra7
  case ha7 => (intro w hSw; (try dsimp only at hSw); go_simp; (try with_reducible rfl))
  simp only [Act.put, List.getElem_toArray, List.getElem_cons_succ, List.getElem_cons_zero, List.setIfInBounds_toArray, List.set_cons_zero, List.set_cons_succ]
  refine wpAnyH_done (by kernel_rfl) ?_ _
  clear hH
  simp only [LastQ, List.getElem_cons_succ, List.getElem_cons_zero]
  refine wp_putAt 121 (.tmp 2) (.tmp 9) rfl (w.heap.size + 1) 0 (encL l ⟨.slice Ad l.st.dash.length cd, .slice Ac l.st.clips.length cc, pv', pg'⟩) (by rfl) (by rfl) 121 _ HZ2.out (Nat.le_refl 27) sizeL (encL_one _ _ ⟨_, _, _, rfl⟩ ⟨_, _, _, rfl⟩) ?_
  intro w3 hb3 hf3
  rw [over_all #[.int .i64 0, .int .i64 0, .int .i64 0, .int .i64 0, .int .i64 0, .int .i64 0, .int .i64 0, .int .i64 0, .int .i64 0, .int .i64 0, .int .i64 0, .int .i64 0, .int .i64 0, .int .i64 0, .int .i64 0, .slice none 0 0, .int .i64 0, .int .i64 0, .int .i64 0, .int .i64 0, .int .i64 0, .int .i64 0, .int .i64 0, .int .i64 0, .slice none 0 0, .bool false, .pointer none] (encL l ⟨.slice Ad l.st.dash.length cd, .slice Ac l.st.clips.length cc, pv', pg'⟩) rfl] at hb3
  have HB3 := Lib.hid hb3
  have H3 := Lib.hid hf3
  clear hb3 hf3
  go_wp2_with fail
  have z1 := HF0.out.size
  have z2 := N1.out.size
  have z3 := N2.out.size
  have z4 := H3.out.size
  have z5 := HZ0.out.lt
  refine bodyPost_ret (results_cl rfl _ _ (w.heap.size + 1) 121 _ _ (by rfl) HB3.out Tryd.underlying121 rfl sizeL) rfl ⟨⟨.slice Ad l.st.dash.length cd, .slice Ac l.st.clips.length cc, pv', pg'⟩, w1.heap.size, rfl, by omega, by omega, ?_, ?_, ?_, ?_⟩
  · refine ((HG1.out.nob N2.out).fr H3.out fun k hk e => ?_).mono fun k hk => ⟨by have := hk.1; omega, hk.2⟩
    have := hk.1; subst e; omega
  · exact HP2.out.fr H3.out fun k hk e => by have := HN2.out k hk; subst e; omega
  · exact HN2.out
  · exact ((HF0.out.trans0 N1.out).trans0 N2.out).trans H3.out fun k hk => .inr (by rw [hk]; omega)
end Go.Proofs.YtkkejjfmidgciaaDoor
/- The walks of slices.ContainsFunc over numbers, of check, shape. -/
namespace Go.Proofs.YtkkejjfmidgciaaDoor
open Go.RowKit
set_option linter.unusedVariables false
set_option linter.unusedSimpArgs false
/-- A function of a number that answers one bool. -/
def AsksI (n : Nat) (P : Int → Bool) : Prop := ∀ (p : Int) (w : World), Calls Tryd.prog n #[.int .i64 p] w fun e w' => e = .returned (.bool (P p)) ∧ w = w'
theorem anyI_none {l : List Int} {P : Int → Bool} {k : Nat} (h : ∀ j (hj : j < l.length), j < k → P l[j] = false) (hk : l.length ≤ k) : l.any P = false := by
  rw [List.any_eq_false]
  intro x hx
  obtain ⟨i, hi, rfl⟩ := List.mem_iff_getElem.1 hx
  rw [h i hi (by omega)]; simp
theorem anyI_some {l : List Int} {P : Int → Bool} {k : Nat} (hk : k < l.length) (h : P l[k] = true) : l.any P = true := by
  rw [List.any_eq_true]; exact ⟨_, List.getElem_mem hk, h⟩
theorem RowIn.int {w : World} {S : Nat → Prop} {v : Value} {l : List Int} (h : RowIn w S 1 v l.length (ints l)) (hn : 0 < l.length) :
    ∃ b off cap, v = .slice (some ⟨b, off, none⟩) l.length cap ∧ l.length ≤ cap ∧ cap ≤ 9223372036854775807 ∧ S b ∧ ∀ k (hk : k < l.length), w.cell? ⟨b, off + k, none⟩ = some (.int .i64 l[k]) := by
  obtain ⟨b, off, cap, hv, h1, h2, hS, hc⟩ := h.pos (by rw [ints_len]; omega)
  exact ⟨b, off, cap, hv, h1, h2, hS, fun k hk => hc k _ (ints_at hk)⟩
set_option maxHeartbeats 400000 in
theorem indexi_any (n : Nat) (P : Int → Bool) (hn : n = 130 ∨ n = 116) (hP : AsksI n P) (v : Value) (l : List Int) (S : Nat → Prop) (w : World) (h : RowIn w S 1 v l.length (ints l)) :
    Calls Tryd.prog 140 #[v, .func (.func n) #[] #[]] w fun e w' => ∃ r : Int, e = .returned (.int .i64 r) ∧ -1 ≤ r ∧ r ≤ 9223372036854775807 ∧ decide (0 ≤ r) = l.any P ∧ w = w' := by
  have HP := Lib.hid hP
  clear hP
  by_cases h0 : l.length = 0
  · obtain rfl : l = [] := List.length_eq_zero_iff.1 h0
    obtain ⟨_, A, c, rfl, _⟩ := h
    go_enter Tryd.func140, Tryd.ntmps140
    go_wp2
    go_loopw [8] (fun q wr => q = .int .i64 0 ∧ wr = w) (fun _ _ => 0)
    case atStart => exact ⟨rfl, rfl⟩
    case round =>
      obtain ⟨rfl, rfl⟩ := hrel
      go_wp2
      go_ret
      exact ⟨-1, rfl, by omega, by omega, rfl, rfl⟩
  · obtain ⟨b, off, cap, rfl, h1, h2, _, hA⟩ := h.int (by omega)
    have HA := Lib.hid hA
    clear h hA
    go_enter Tryd.func140, Tryd.ntmps140
    go_wp2
    go_loopw [8] (fun q wr => ∃ k : Nat, k ≤ l.length ∧ q = .int .i64 k ∧ Hid (∀ j (hj : j < l.length), j < k → P l[j] = false) ∧ wr = w) (fun q _ => l.length - (intOf q).toNat)
    case atStart => exact ⟨0, by omega, rfl, fun j _ h => by omega, rfl⟩
    case round =>
      obtain ⟨k, hk, rfl, HT, rfl⟩ := hrel
      by_cases hlt : k < l.length
      · have a0 := HA.out k hlt
        have i1 : (k : Int) < l.length := by omega
        have step : ∀ w, Calls Tryd.prog n #[.int .i64 l[k]] w fun e w' => e = .returned (.bool (P l[k])) ∧ w = w' := fun w => HP.out l[k] w
        have HS := Lib.hid step
        clear step
        by_cases hp : P l[k]
        · have HA := Lib.hid (anyI_some hlt hp)
          rw [hp] at HS
          clear hp
          rcases hn with rfl | rfl
          all_goals
            go_wp2_with fail
            refine (HS.out _).mono ?_
            rintro e w1 ⟨rfl, rfl⟩
            go_wp2_with fail
            go_ret
            exact ⟨k, rfl, by omega, by omega, by rw [HA.out]; simp, rfl⟩
        · have hp' : P l[k] = false := by simpa using hp
          have HT2 := Lib.hid (show ∀ j (hj : j < l.length), j < k + 1 → P l[j] = false by
            intro j hj hjk
            rcases Nat.lt_or_ge j k with h | h
            · exact HT.out j hj h
            · obtain rfl : j = k := by omega
              exact hp')
          rw [hp'] at HS
          clear hp hp'
          rcases hn with rfl | rfl
          all_goals
            go_wp2_with fail
            refine (HS.out _).mono ?_
            rintro e w1 ⟨rfl, rfl⟩
            go_wp2_with fail
            go_roundw
            case rel => exact ⟨k + 1, by omega, by go_num, HT2, trivial⟩
            case measure => simp [intOf]; omega
      · have HA := Lib.hid (anyI_none HT.out (by omega))
        have hge : l.length ≤ k := by omega
        go_wp2
        go_ret
        exact ⟨-1, rfl, by omega, by omega, by rw [HA.out]; simp, rfl⟩
theorem conti_any (n : Nat) (P : Int → Bool) (hn : n = 130 ∨ n = 116) (hP : AsksI n P) (v : Value) (l : List Int) (S : Nat → Prop) (w : World) (h : RowIn w S 1 v l.length (ints l)) :
    Calls Tryd.prog 115 #[v, .func (.func n) #[] #[]] w fun e w' => e = .returned (.bool (l.any P)) ∧ w = w' := by
  have HI := Lib.hid (indexi_any n P hn hP v l S w h)
  obtain ⟨A, cap, rfl, _, _⟩ := h.form
  clear h hP
  go_enter Tryd.func115, Tryd.ntmps115
  go_wp2_with fail
  refine HI.out.mono ?_
  rintro e w1 ⟨r, rfl, hr1, hr2, hr, rfl⟩
  have HR := Lib.hid hr
  clear hr
  go_wp2_with fail
  go_ret
  exact ⟨ret_bool HR.out, rfl⟩
theorem asks_check : AsksI 130 fun n => !fitZ n := fun p w => by
  go_enter Tryd.func130, Tryd.ntmps130
  go_wp2_with fail
  refine (fix_fits p w).mono ?_
  rintro e w1 ⟨rfl, rfl⟩
  go_wp2_with fail
  go_ret
  exact ⟨rfl, rfl⟩
theorem asks_dash : AsksI 116 fun n => decide (n < 0) := fun p w => by
  go_enter Tryd.func116, Tryd.ntmps116
  go_wp2_with fail
  go_ret
  exact ⟨rfl, rfl⟩
theorem allI_any (l : List Int) : l.all fitZ = !l.any (fun n => !fitZ n) := by
  induction l with
  | nil => rfl
  | cons a r ih => rw [List.all_cons, List.any_cons, ih]; cases fitZ a <;> simp
def chkI (l : List Int) : Int := if l.all fitZ then 0 else 11
theorem check_none (A : Option Addr) (n c : Nat) (w : World) : Calls Tryd.prog 103 #[.pointer none, .slice A n c] w fun e w' => e = .returned (.int .i64 21) ∧ w = w' := by
  go_enter Tryd.func103, Tryd.ntmps103
  go_wp2
  go_ret
  exact ⟨rfl, rfl⟩
theorem check_any (g : Addr) (l : List Int) (v : Value) (S : Nat → Prop) (w : World) (h : RowIn w S 1 v l.length (ints l)) :
    Calls Tryd.prog 103 #[.pointer (some g), v] w fun e w' => e = .returned (.int .i64 (chkI l)) ∧ w = w' := by
  have HI := Lib.hid (conti_any 130 _ (.inl rfl) asks_check v l S w h)
  obtain ⟨A, cap, rfl, _, _⟩ := h.form
  clear h
  cases hb : l.all fitZ with
  | true =>
    have e1 : l.any (fun n => !fitZ n) = false := by have := allI_any l; rw [hb] at this; simpa using this.symm
    rw [e1] at HI
    rw [show chkI l = 0 by unfold chkI; rw [hb]; rfl]
    clear hb e1
    go_enter Tryd.func103, Tryd.ntmps103
    go_wp2_with fail
    refine HI.out.mono ?_
    rintro e w1 ⟨rfl, rfl⟩
    go_wp2_with fail
    go_ret
    exact ⟨rfl, rfl⟩
  | false =>
    have e1 : l.any (fun n => !fitZ n) = true := by have := allI_any l; rw [hb] at this; simpa using this.symm
    rw [e1] at HI
    rw [show chkI l = 11 by unfold chkI; rw [hb]; rfl]
    clear hb e1
    go_enter Tryd.func103, Tryd.ntmps103
    go_wp2_with fail
    refine HI.out.mono ?_
    rintro e w1 ⟨rfl, rfl⟩
    go_wp2_with fail
    go_ret
    exact ⟨rfl, rfl⟩
end Go.Proofs.YtkkejjfmidgciaaDoor
/- How states lie behind a change: labels anew, fields anew. No walk. -/
namespace Go.Proofs.YtkkejjfmidgciaaDoor
open Go.RowKit
set_option linter.unusedVariables false
set_option linter.unusedSimpArgs false
theorem LvIn.lab {w : World} {F F' : Nat → Prop} {lab lab' : Nat → Nat} {n : Nat} {l : Lv} {x : LvG} (h : LvIn w (fun k => F k ∧ lab k = 0) (fun k => F k ∧ lab k = n) l x) (hF : ∀ k, F k → k < w.heap.size → F' k) (hL : ∀ k, k < w.heap.size → lab' k = lab k) :
    LvIn w (fun k => F' k ∧ lab' k = 0) (fun k => F' k ∧ lab' k = n) l x :=
  h.lts.mono (fun k hk => ⟨hF k hk.1.1 hk.2, by rw [hL k hk.2]; exact hk.1.2⟩) fun k hk _ => ⟨hF k hk.1.1 hk.2, by rw [hL k hk.2]; exact hk.1.2⟩
/-- Blocks that are not there may be told anew. -/
theorem GsX.lab {w : World} {g : Nat} {F F' : Nat → Prop} {s : GS} {lab : Nat → Nat} {x : LvG} {sv : Value} {xs : List (Lv × LvG)} (h : GsX w g F s lab x sv xs) (lab' : Nat → Nat) (hF : ∀ k, F k → k < w.heap.size → F' k) (hL : ∀ k, k < w.heap.size → lab' k = lab k) :
    GsX w g F' s lab' x sv xs :=
  ⟨h.l, h.b, ⟨hF g h.g1.1 h.b.lt, by rw [hL g h.b.lt]; exact h.g1.2⟩, h.o, fun k hk => ⟨hF k (h.o1 k hk).1 (h.o.lt k hk), by rw [hL k (h.o.lt k hk)]; exact (h.o1 k hk).2⟩, h.c.lab hF hL, fun i hi => (h.s i hi).lab hF hL⟩
/-- The state that is has other fields. -/
theorem GsX.upd {w w' : World} {g : Nat} {F : Nat → Prop} {s : GS} {lab : Nat → Nat} {x : LvG} {sv : Value} {xs : List (Lv × LvG)} (h : GsX w g F s lab x sv xs) (st : Gst) (dv cv : Value)
    (hb : Blk w' g #[.int .i64 st.ctm.a, .int .i64 st.ctm.b, .int .i64 st.ctm.c, .int .i64 st.ctm.d, .int .i64 st.ctm.e, .int .i64 st.ctm.f, .int .i64 st.col.sp, .int .i64 st.col.p0, .int .i64 st.col.p1, .int .i64 st.col.p2, .int .i64 st.col.p3, .int .i64 st.width, .int .i64 st.cap, .int .i64 st.join, .int .i64 st.miter, dv, .int .i64 st.phase, .int .i64 st.font, .int .i64 st.fm.a, .int .i64 st.fm.b, .int .i64 st.fm.c, .int .i64 st.fm.d, .int .i64 st.fm.e, .int .i64 st.fm.f, cv, .bool st.dark, .pointer (some ⟨x.pg, 0, none⟩), .int .i64 s.most, .int .i64 s.segs, sv] 124) (hf : Fr (fun k => k = g) w w') (hG : GIn w' (fun k => F k ∧ lab k = 0) dv cv st) :
    GsX w' g F { s with cur := { s.cur with st := st } } lab { x with dv := dv, cv := cv } sv xs :=
  ⟨h.l, hb, h.g1, h.o.fr hf fun k hk e => h.o.ne h.b (by decide) k hk e, h.o1,
    ⟨hG, h.c.p.fr hf fun k hk e => by have := (h.c.b k hk).2; rw [e, h.g1.2] at this; omega, h.c.b⟩,
    fun i hi => (h.s i hi).fr hf (fun k hk e => by have := hk.2; rw [e, h.g1.2] at this; omega) fun k hk e => by have := hk.2; rw [e, h.g1.2] at this; omega⟩
/-- What is in memory of the state that is, once the states' block is written. -/
theorem GsX.gin {w w' : World} {g : Nat} {F : Nat → Prop} {s : GS} {lab : Nat → Nat} {x : LvG} {sv : Value} {xs : List (Lv × LvG)} (h : GsX w g F s lab x sv xs) (hf : Fr (fun k => k = g) w w') : GIn w' (fun k => F k ∧ lab k = 0) x.dv x.cv s.cur.st :=
  h.c.g.fr hf fun k hk e => by have := hk.2; rw [e, h.g1.2] at this; omega
/-- The path that is has gone a step. -/
theorem GsX.path {w w' : World} {g : Nat} {F : Nat → Prop} {s : GS} {lab : Nat → Nat} {x : LvG} {sv : Value} {xs : List (Lv × LvG)} (h : GsX w g F s lab x sv xs) (p' : PS) (ht : PthTo w x.pg x.pv p' w') : GsTo w g F { s with cur := { s.cur with p := p' } } w' := by
  obtain ⟨v', hp, hf, hv⟩ := ht
  have h2 := h.lab (F' := Ext F w w') (fun k => if k < w.heap.size then lab k else 2) (fun k hk _ => .inl hk) fun k hk => by simp [hk]
  have hfp : ∀ k, ptB x.pg x.pv k → (if k < w.heap.size then lab k else 2) = 2 := fun k hk => by rw [if_pos (h.c.p.lt k hk)]; exact (h.c.b k hk).2
  refine ⟨⟨_, { x with pv := v' }, sv, xs, h.l, h.b.fr hf fun hk => ?_, h2.g1, h.o.fr hf fun k hk hp => ?_, h2.o1, ⟨h2.c.g.fr hf fun k hk hp => ?_, hp, ?_⟩, fun i hi => (h2.s i hi).fr hf (fun k hk hp => ?_) fun k hk hp => ?_⟩, hf.mono fun k hk => (h.c.b k hk).1⟩
  · have := (h.c.b g hk).2; rw [h.g1.2] at this; omega
  · have := (h.c.b k hp).2; rw [(h.o1 k hk).2] at this; omega
  · have := hfp k hp; have h3 := hk.2; omega
  · rintro k (rfl | hk)
    · exact h2.c.b _ (.inl rfl)
    · rcases hv k hk with e | e
      · exact h2.c.b k (.inr e)
      · exact ⟨.inr ⟨e, hp.lt k (.inr hk)⟩, by simp; intro h; omega⟩
  · have := hfp k hp; have h3 := hk.2; omega
  · have := hfp k hp; have h3 := hk.2; omega
end Go.Proofs.YtkkejjfmidgciaaDoor
/- A level more is saved: how states lie then. No walk. -/
namespace Go.Proofs.YtkkejjfmidgciaaDoor
open Go.RowKit
set_option linter.unusedVariables false
set_option linter.unusedSimpArgs false
theorem encLs_append (a b : List (Lv × LvG)) : encLs (a ++ b) = encLs a ++ encLs b := by simp [encLs]
theorem encLs_one (a : Lv × LvG) : encLs [a] = encL a.1 a.2 := by simp [encLs]
theorem encL_len (l : Lv) (x : LvG) : (encL l x).length = 27 := rfl
theorem encLs_len (xs : List (Lv × LvG)) : (encLs xs).length = xs.length * 27 := by
  induction xs with
  | nil => rfl
  | cons a r ih => rw [show encLs (a :: r) = encL a.1 a.2 ++ encLs r from rfl, List.length_append, ih, encL_len, List.length_cons]; omega
theorem encLs_at (xs : List (Lv × LvG)) (k : Nat) (hk : k < xs.length) : ((encLs xs).drop (k * 27)).take 27 = encL xs[k].1 xs[k].2 := by
  induction xs generalizing k with
  | nil => simp at hk
  | cons a r ih =>
    rw [show encLs (a :: r) = encL a.1 a.2 ++ encLs r from rfl]
    cases k with
    | zero => rw [Nat.zero_mul, List.drop_zero, List.take_append_of_le_length (by rw [encL_len]; exact Nat.le_refl _), List.take_of_length_le (by rw [encL_len]; exact Nat.le_refl _)]; rfl
    | succ k =>
      rw [List.drop_append, List.drop_of_length_le (by rw [encL_len]; omega), encL_len, List.nil_append, show (k + 1) * 27 - 27 = k * 27 by omega]
      exact ih k (by simpa using hk)
theorem encLs_take (xs : List (Lv × LvG)) (k : Nat) (hk : k ≤ xs.length) : (encLs xs).take (k * 27) = encLs (xs.take k) := by
  conv => lhs; rw [← List.take_append_drop k xs, encLs_append]
  rw [List.take_append_of_le_length (by rw [encLs_len, List.length_take]; omega), List.take_of_length_le (by rw [encLs_len, List.length_take]; omega)]
theorem GsX.len {w : World} {g : Nat} {F : Nat → Prop} {s : GS} {lab : Nat → Nat} {x : LvG} {sv : Value} {xs : List (Lv × LvG)} (h : GsX w g F s lab x sv xs) : xs.length = s.saved.length := by rw [← h.l, List.length_map]
/-- The list of what is saved does not lie where the states do. -/
theorem GsX.ne {w : World} {g : Nat} {F : Nat → Prop} {s : GS} {lab : Nat → Nat} {x : LvG} {sv : Value} {xs : List (Lv × LvG)} (h : GsX w g F s lab x sv xs) : ¬ inB sv g := fun e => h.o.ne h.b (by decide) g e rfl
/-- One level more. -/
theorem GsX.push {w w1 w4 w5 : World} {g : Nat} {F : Nat → Prop} {s : GS} {lab : Nat → Nat} {x x' : LvG} {sv v' : Value} {xs : List (Lv × LvG)} {l : Lv} {m : Nat} (h : GsX w g F s lab x sv xs) (hN : LvNew w w1 l x' m) (o : Obj)
    (hf4 : Fr (inB sv) (w1.alloc o) w4) (hO : OwnS w4 121 27 v' (xs.length + 1) (encLs xs ++ encL l x')) (hat : v'.ownBlock = sv.ownBlock ∨ v'.ownBlock = some (w1.alloc o).heap.size) (hf5 : Fr (fun k => k = g) w4 w5)
    (hb : Blk w5 g #[.int .i64 s.cur.st.ctm.a, .int .i64 s.cur.st.ctm.b, .int .i64 s.cur.st.ctm.c, .int .i64 s.cur.st.ctm.d, .int .i64 s.cur.st.ctm.e, .int .i64 s.cur.st.ctm.f, .int .i64 s.cur.st.col.sp, .int .i64 s.cur.st.col.p0, .int .i64 s.cur.st.col.p1, .int .i64 s.cur.st.col.p2, .int .i64 s.cur.st.col.p3, .int .i64 s.cur.st.width, .int .i64 s.cur.st.cap, .int .i64 s.cur.st.join, .int .i64 s.cur.st.miter, x.dv, .int .i64 s.cur.st.phase, .int .i64 s.cur.st.font, .int .i64 s.cur.st.fm.a, .int .i64 s.cur.st.fm.b, .int .i64 s.cur.st.fm.c, .int .i64 s.cur.st.fm.d, .int .i64 s.cur.st.fm.e, .int .i64 s.cur.st.fm.f, x.cv, .bool s.cur.st.dark, .pointer (some ⟨x.pg, 0, none⟩), .int .i64 s.most, .int .i64 s.segs, v'] 124) : GsTo w g F { s with saved := s.saved ++ [l] } w5 := by
  have hfa : Fr Nob w (w1.alloc o) := hN.f.alloc _
  have hf5' : Fr (fun k => k = g ∨ inB sv k) w w5 := (hfa.mono (fun _ hh => hh.elim)).trans ((hf4.mono (T := fun k => k = g ∨ inB sv k) fun k hk => .inr hk).trans (hf5.mono (T := fun k => k = g ∨ inB sv k) fun k hk => .inl hk) fun k hk => .inl hk) fun k hk => .inl hk
  have h2 := h.lab (F' := Ext F w w5) (fun k => if k < w.heap.size then lab k else if k < m then 0 else if k < w1.heap.size then xs.length + 3 else 1) (fun k hk _ => .inl hk) fun k hk => by simp [hk]
  have hlt : ∀ k, k = g ∨ inB sv k → k < w.heap.size := fun k hk => hk.elim (fun e => e ▸ h.b.lt) fun e => h.o.lt k e
  have hlab : ∀ k, k = g ∨ inB sv k → (if k < w.heap.size then lab k else if k < m then 0 else if k < w1.heap.size then xs.length + 3 else 1) = 1 := fun k hk => by
    rw [if_pos (hlt k hk)]
    rcases hk with rfl | e
    · exact h.g1.2
    · exact (h.o1 k e).2
  have hz1 := hN.f.size
  have hz2 : (w1.alloc o).heap.size = w1.heap.size + 1 := by simp
  have hz4 := hf4.size
  have hz5 := hf5.size
  have hlo := hN.lo
  have hhi := hN.hi
  refine ⟨⟨fun k => if k < w.heap.size then lab k else if k < m then 0 else if k < w1.heap.size then xs.length + 3 else 1, x, v', xs ++ [(l, x')], by simp [h.l], hb, h2.g1, ?_, ?_, ?_, ?_⟩, hf5'.mono ?_⟩
  · have hgv : ∀ k, v'.ownBlock = some k → ¬ k = g := fun k hk e => by
      rcases hat with e1 | e1
      · rw [e1] at hk; exact h.ne (e ▸ hk)
      · rw [e1] at hk; cases hk; have := h.b.lt; omega
    have := hO.fr hf5 hgv
    rw [encLs_append, encLs_one, List.length_append]
    exact this
  · intro k hk
    rcases hat with e1 | e1
    · rw [e1] at hk; exact ⟨.inl (h.o1 k hk).1, hlab k (.inr hk)⟩
    · have hk0 := hk
      rw [e1] at hk; cases hk
      refine ⟨.inr ⟨by omega, by have := hO.lt _ hk0; omega⟩, ?_⟩
      rw [if_neg (by omega), if_neg (by omega), if_neg (by omega)]
  · refine h2.c.fr hf5' (fun k hk e => ?_) fun k hk e => ?_
    · have := hk.2; rw [hlab k e] at this; omega
    · have := hk.2; rw [hlab k e] at this; omega
  · intro i hi
    rw [List.length_append] at hi
    by_cases hix : i < xs.length
    · rw [List.getElem_append_left hix]
      refine (h2.s i hix).fr hf5' (fun k hk e => ?_) fun k hk e => ?_
      · have := hk.2; rw [hlab k e] at this; omega
      · have := hk.2; rw [hlab k e] at this; omega
    · obtain rfl : i = xs.length := by simp at hi; omega
      rw [List.getElem_append_right (Nat.le_refl _)]
      simp only [Nat.sub_self, List.getElem_cons_zero]
      have hfz : Fr (fun k => k = g ∨ inB sv k) w1 w5 := ((Fr.refl (fun k => k = g ∨ inB sv k) w1).alloc o).trans ((hf4.mono (T := fun k => k = g ∨ inB sv k) fun k hk => .inr hk).trans (hf5.mono (T := fun k => k = g ∨ inB sv k) fun k hk => .inl hk) fun k hk => .inl hk) fun k hk => .inl hk
      have hp := hN.p.lt
      refine ⟨(hN.g.fr hfz fun k hk e => ?_).mono fun k hk => ⟨.inr ⟨hk.1, by omega⟩, ?_⟩, hN.p.fr hfz fun k hk e => ?_, fun k hk => ⟨.inr ⟨?_, ?_⟩, ?_⟩⟩
      · have := hlt k e; omega
      · rw [if_neg (by omega), if_pos hk.2]
      · have := hlt k e; have := hN.b k hk; omega
      · have := hN.b k hk; omega
      · have := hp k hk; omega
      · have h1 := hN.b k hk; have h3 := hp k hk
        rw [if_neg (by omega), if_neg (by omega), if_pos (by omega)]
  · intro k hk
    rcases hk with rfl | e
    · exact h.g1.1
    · exact (h.o1 k e).1
end Go.Proofs.YtkkejjfmidgciaaDoor
