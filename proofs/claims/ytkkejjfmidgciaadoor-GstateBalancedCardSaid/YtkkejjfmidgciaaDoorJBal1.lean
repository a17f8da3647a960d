/-
  Texts joined in build order: Words of my own for all seats: frames over sets of blocks, slices that are read, slices that are owned, append and clone of them. No program, no conditions. Points, segments; the walks of fix.Fits, of path's fits. The walks of slices.ContainsFunc over points, of path's fits. Segments and paths as Lean values; the walks of Clone, last, add. The walks of add, New, Clear, Segments, Current, of the calls of no path. The walks of New, Segments, Current, Clear, draw, Line, Curve, Close. The walks of draw, Line, Curve. The walks of Move, Curve. append as a step of a region that draws its order: for 'go_region_law', 'go_region_held3'. Memory of a call's own: new blocks, rows in them. No program, no conditions.
-/
import Derived.WalkKit
import Derived.KernelRfl
import Derived.Lib.Hide
import Derived.Deep.QuietTactic
import Derived.BigQuiet
import Derived.Lib.SliceRun
import Derived.Test.YtkkejjfmidgciaaDoorProg
import Derived.StillTailTactics
import Derived.WalkSpells
import Derived.Deep.RegionWith
import Derived.BigRegion
import Derived.Deep.RegionLaw
/- Words of my own for all seats: frames over sets of blocks, slices that are read, slices that are owned, append and clone of them. No program, no conditions. -/
namespace Go.Proofs.YtkkejjfmidgciaaDoor
open Go.RowKit
set_option linter.unusedVariables false
set_option linter.unusedSimpArgs false

/-- w' is w but for the blocks of S and new ones. -/
structure Fr (S : Nat → Prop) (w w' : World) : Prop where
  os : w'.os = w.os
  tape : w'.tape = w.tape
  output : w'.output = w.output
  size : w.heap.size ≤ w'.heap.size
  block : ∀ k, k < w.heap.size → ¬ S k → w'.heap[k]? = w.heap[k]?
def Nob : Nat → Prop := fun _ => False
theorem Fr.refl (S : Nat → Prop) (w : World) : Fr S w w := ⟨rfl, rfl, rfl, Nat.le_refl _, fun _ _ _ => rfl⟩
theorem Fr.trans {S S' : Nat → Prop} {a b c : World} (h : Fr S a b) (k : Fr S' b c) (hs : ∀ i, S' i → S i ∨ a.heap.size ≤ i) : Fr S a c :=
  ⟨k.os.trans h.os, k.tape.trans h.tape, k.output.trans h.output, Nat.le_trans h.size k.size, fun i hi hn =>
    (k.block i (Nat.lt_of_lt_of_le hi h.size) (fun hS => (hs i hS).elim hn (fun hge => by omega))).trans (h.block i hi hn)⟩
theorem Fr.trans0 {S : Nat → Prop} {a b c : World} (h : Fr S a b) (k : Fr Nob b c) : Fr S a c := h.trans k fun _ hf => hf.elim
theorem Fr.mono {S T : Nat → Prop} {a b : World} (h : Fr S a b) (hs : ∀ i, S i → T i) : Fr T a b :=
  ⟨h.os, h.tape, h.output, h.size, fun i hi hn => h.block i hi fun hS => hn (hs i hS)⟩
theorem Fr.below {B : Nat} {S : Nat → Prop} {a b : World} (h : Fr S a b) (hs : ∀ i, S i → B ≤ i) (hB : B ≤ a.heap.size) : Below B a b :=
  ⟨h.os, h.tape, h.output, h.size, fun i hi => h.block i (by omega) fun hS => by have := hs i hS; omega⟩
theorem Fr.of_below {a b : World} (S : Nat → Prop) (h : Below a.heap.size a b) : Fr S a b := ⟨h.os, h.tape, h.output, h.size, fun i hi _ => h.block i hi⟩
theorem Fr.to_below {a b : World} (h : Fr Nob a b) : Below a.heap.size a b := ⟨h.os, h.tape, h.output, h.size, fun i hi => h.block i hi fun hf => hf.elim⟩
theorem Fr.alloc {S : Nat → Prop} {a w : World} (h : Fr S a w) (o : Obj) : Fr S a (w.alloc o) :=
  ⟨h.os, h.tape, h.output, by have := h.size; simp; omega, fun i hi hn => (Below.heap_alloc w o i (Nat.lt_of_lt_of_le hi h.size)).trans (h.block i hi hn)⟩
theorem Fr.drew {S : Nat → Prop} {a w : World} (h : Fr S a w) : Fr S a w.drew := ⟨h.os, h.tape, h.output, h.size, h.block⟩
theorem Fr.drewN {S : Nat → Prop} {a w : World} (h : Fr S a w) (n : Nat) : Fr S a (w.drewN n) := ⟨h.os, h.tape, h.output, h.size, h.block⟩
theorem Fr.setCell {S : Nat → Prop} {a w : World} (h : Fr S a w) {p : Addr} (hp : S p.block ∨ a.heap.size ≤ p.block) (u : Value) : Fr S a (w.setCell p u) :=
  ⟨h.os, h.tape, h.output, by have := h.size; simp [World.setCell]; omega, fun i hi hn =>
    (Below.heap_setCell w p u i (fun e => by subst e; exact hp.elim hn (fun hge => by omega))).trans (h.block i hi hn)⟩
theorem Fr.setRow {S : Nat → Prop} {a w : World} (h : Fr S a w) {g : Nat} (hp : S g ∨ a.heap.size ≤ g) (cs : Array Value) : Fr S a (w.setRow g cs) :=
  ⟨h.os, h.tape, h.output, by have := h.size; simp [World.setRow]; omega, fun i hi hn =>
    (setRow_other w g i cs (fun e => by subst e; exact hp.elim hn (fun hge => by omega))).trans (h.block i hi hn)⟩

/-- The blocks that were there. -/
def Lt (w : World) : Nat → Prop := fun k => k < w.heap.size
/-- A block known whole. -/
def Blk (w : World) (g : Nat) (cs : Array Value) (t : TypeId) : Prop := w.heap[g]? = some (.cells cs t (0, 0))
theorem Blk.lt {w : World} {g : Nat} {cs : Array Value} {t : TypeId} (h : Blk w g cs t) : g < w.heap.size := (Array.getElem?_eq_some_iff.1 h).1
theorem Blk.cell {w : World} {g : Nat} {cs : Array Value} {t : TypeId} (h : Blk w g cs t) (i : Nat) : w.cell? ⟨g, i, none⟩ = cs[i]? := cell_of_row w g i cs t (0, 0) h
theorem Blk.free {w : World} {g : Nat} {cs : Array Value} {t : TypeId} (h : Blk w g cs t) (i : Nat) : w.frozen? ⟨g, i, none⟩ = false := by
  have h' : w.heap[g]? = some (.cells cs t (0, 0)) := h
  simp [World.frozen?, h']
theorem Blk.ne {w : World} {g g' : Nat} {cs cs' : Array Value} {t t' : TypeId} (h : Blk w g cs t) (h' : Blk w g' cs' t') (hne : t ≠ t') : g ≠ g' := by
  rintro rfl
  have := h.symm.trans h'
  simp at this
  exact hne this.2
theorem Blk.fr {S : Nat → Prop} {w w' : World} {g : Nat} {cs : Array Value} {t : TypeId} (h : Blk w g cs t) (hf : Fr S w w') (hn : ¬ S g) : Blk w' g cs t := (hf.block g h.lt hn).trans h
theorem Blk.new (w : World) (cs : Array Value) (t : TypeId) : Blk (w.alloc (.cells cs t)) w.heap.size cs t := heap_alloc_new w _
theorem Blk.alloc {w : World} {g : Nat} {cs : Array Value} {t : TypeId} (h : Blk w g cs t) (o : Obj) : Blk (w.alloc o) g cs t := (Below.heap_alloc w o g h.lt).trans h
theorem Blk.drew {w : World} {g : Nat} {cs : Array Value} {t : TypeId} (h : Blk w g cs t) : Blk w.drew g cs t := h
theorem Blk.drewN {w : World} {g : Nat} {cs : Array Value} {t : TypeId} (h : Blk w g cs t) (n : Nat) : Blk (w.drewN n) g cs t := h
theorem Blk.set {w : World} {g : Nat} {cs : Array Value} {t : TypeId} (h : Blk w g cs t) (i : Nat) (u : Value) : Blk (w.setCell ⟨g, i, none⟩ u) g (cs.setIfInBounds i u) t := by
  have h' : w.heap[g]? = some (.cells cs t (0, 0)) := h
  show (w.setCell ⟨g, i, none⟩ u).heap[g]? = _
  simp [World.setCell, Array.getElem?_modify, h']
theorem Blk.far {w : World} {g : Nat} {cs : Array Value} {t : TypeId} (h : Blk w g cs t) {p : Addr} (hp : g ≠ p.block) (u : Value) : Blk (w.setCell p u) g cs t := (Below.heap_setCell w p u g hp).trans h
theorem Blk.setRow {w : World} {g : Nat} {cs : Array Value} {t : TypeId} (h : Blk w g cs t) (cs' : Array Value) : Blk (w.setRow g cs') g cs' t := setRow_heap w g cs cs' t (0, 0) h

theorem add_plain (g o j : Nat) : (⟨g, o, none⟩ : Addr).add j = ⟨g, o + j, none⟩ := by unfold Addr.add; split <;> simp_all
theorem add_add (a : Addr) (i j : Nat) : (a.add i).add j = a.add (i + j) := by
  unfold Addr.add
  by_cases hi : i = 0
  · subst hi; simp
  · by_cases hj : j = 0
    · subst hj; simp [hi]
    · simp [hi, hj]; omega
theorem add_block (a : Addr) (j : Nat) : (a.add j).block = a.block := by unfold Addr.add; split <;> rfl

theorem cell_fr {S : Nat → Prop} {w w' : World} {a : Addr} {v : Value} (h : w.cell? a = some v) (hf : Fr S w w') (hn : ¬ S a.block) : w'.cell? a = some v := by
  rw [World.cell?_of_block (w := w) (hf.block _ (World.block_lt_of_cell? w _ h) hn)]; exact h
theorem cell_nob {w w' : World} {a : Addr} {v : Value} (h : w.cell? a = some v) (hf : Fr Nob w w') : w'.cell? a = some v := cell_fr h hf fun hh => hh
/-- A slice's value, of n elements of that size, whose cells are cs; it lies in the blocks of S. -/
def RowIn (w : World) (S : Nat → Prop) (size : Nat) (v : Value) (n : Nat) (cs : List Value) : Prop :=
  cs.length = n * size ∧ ∃ A cap, v = .slice A n cap ∧ n ≤ cap ∧ cap ≤ maxLen ∧ (A = none → cap = 0) ∧
    ∀ j u, cs[j]? = some u → ∃ b off, A = some ⟨b, off, none⟩ ∧ S b ∧ w.cell? ⟨b, off + j, none⟩ = some u
theorem RowIn.fr {w w' : World} {S T : Nat → Prop} {size n : Nat} {v : Value} {cs : List Value} (h : RowIn w S size v n cs) (hf : Fr T w w') (hd : ∀ k, S k → ¬ T k) : RowIn w' S size v n cs := by
  obtain ⟨hl, A, cap, hv, h1, h2, h3, h4⟩ := h
  refine ⟨hl, A, cap, hv, h1, h2, h3, fun j u hu => ?_⟩
  obtain ⟨b, off, ha, hS, hc⟩ := h4 j u hu
  refine ⟨b, off, ha, hS, ?_⟩
  rw [World.cell?_of_block (w := w) (hf.block _ (World.block_lt_of_cell? w _ hc) (hd _ hS))]
  exact hc
theorem RowIn.mono {w : World} {S T : Nat → Prop} {size n : Nat} {v : Value} {cs : List Value} (h : RowIn w S size v n cs) (hs : ∀ k, S k → T k) : RowIn w T size v n cs := by
  obtain ⟨hl, A, cap, hv, h1, h2, h3, h4⟩ := h
  exact ⟨hl, A, cap, hv, h1, h2, h3, fun j u hu => by obtain ⟨b, off, ha, hS, hc⟩ := h4 j u hu; exact ⟨b, off, ha, hs _ hS, hc⟩⟩
theorem RowIn.nil (w : World) (S : Nat → Prop) (size : Nat) : RowIn w S size (.slice none 0 0) 0 [] :=
  ⟨by simp, none, 0, rfl, Nat.le_refl _, by decide, fun _ => rfl, fun j u hu => by simp at hu⟩
theorem RowIn.lit (w : World) (e : TypeId) (size : Nat) (cs : Array Value) (n : Nat) (hl : cs.size = n * size) (hn : n ≤ maxLen) :
    RowIn (w.alloc (.cells cs e)) (fun k => k = w.heap.size) size (.slice (some ⟨w.heap.size, 0, none⟩) n n) n cs.toList :=
  ⟨by rw [Array.length_toList, hl], some ⟨w.heap.size, 0, none⟩, n, rfl, Nat.le_refl _, hn, (fun h => by cases h), fun j u hu => ⟨_, _, rfl, rfl, by
    rw [Nat.zero_add]
    exact ((Blk.new w cs e).cell j).trans (by simpa using hu)⟩⟩
theorem RowIn.len_le {w : World} {S : Nat → Prop} {size n : Nat} {v : Value} {cs : List Value} (h : RowIn w S size v n cs) : n ≤ 9223372036854775807 := by
  obtain ⟨_, A, cap, _, h1, h2, _⟩ := h
  simp only [maxLen] at h2; omega

theorem RowIn.pos {w : World} {S : Nat → Prop} {size n : Nat} {v : Value} {cs : List Value} (h : RowIn w S size v n cs) (hn : 0 < cs.length) :
    ∃ b off cap, v = .slice (some ⟨b, off, none⟩) n cap ∧ n ≤ cap ∧ cap ≤ 9223372036854775807 ∧ S b ∧ ∀ j u, cs[j]? = some u → w.cell? ⟨b, off + j, none⟩ = some u := by
  obtain ⟨hl, A, cap, hv, h1, h2, h3, h4⟩ := h
  obtain ⟨b, off, ha, hS, _⟩ := h4 0 cs[0] (List.getElem?_eq_getElem hn)
  refine ⟨b, off, cap, ha ▸ hv, h1, (by simp only [maxLen] at h2; omega), hS, fun j u hu => ?_⟩
  obtain ⟨b', off', ha', _, hc⟩ := h4 j u hu
  rw [ha] at ha'
  cases ha'
  exact hc
/-- The block that a slice lies in. -/
def inB (v : Value) : Nat → Prop := fun k => v.ownBlock = some k

/-- A slice of its own: nil, or at the head of a block of the elements' type. -/
def OwnS (w : World) (e : TypeId) (size : Nat) (v : Value) (n : Nat) (cs : List Value) : Prop :=
  cs.length = n * size ∧ ((v = .slice none 0 0 ∧ n = 0) ∨
    ∃ g cap cur, v = .slice (some ⟨g, 0, none⟩) n cap ∧ Blk w g cur e ∧ n ≤ cap ∧ cap ≤ maxLen ∧ cap * size ≤ cur.size ∧ cur.toList.take (n * size) = cs)
theorem OwnS.nil (w : World) (e : TypeId) (size : Nat) : OwnS w e size (.slice none 0 0) 0 [] := ⟨by simp, .inl ⟨rfl, rfl⟩⟩
theorem OwnS.fr {w w' : World} {T : Nat → Prop} {e : TypeId} {size n : Nat} {v : Value} {cs : List Value} (h : OwnS w e size v n cs) (hf : Fr T w w') (hd : ∀ k, v.ownBlock = some k → ¬ T k) : OwnS w' e size v n cs := by
  refine ⟨h.1, ?_⟩
  rcases h.2 with h0 | ⟨g, cap, cur, rfl, hb, r⟩
  · exact .inl h0
  · exact .inr ⟨g, cap, cur, rfl, hb.fr hf (hd g rfl), r⟩
theorem OwnS.lt {w : World} {e : TypeId} {size n : Nat} {v : Value} {cs : List Value} (h : OwnS w e size v n cs) : ∀ k, v.ownBlock = some k → k < w.heap.size := by
  intro k hk
  rcases h.2 with ⟨rfl, _⟩ | ⟨g, cap, cur, rfl, hb, _⟩
  · simp [Value.ownBlock] at hk
  · simp [Value.ownBlock] at hk; subst hk; exact hb.lt
theorem OwnS.ne {w : World} {e t : TypeId} {size n g : Nat} {v : Value} {cs : List Value} {bs : Array Value} (h : OwnS w e size v n cs) (hb : Blk w g bs t) (hne : e ≠ t) : ∀ k, v.ownBlock = some k → k ≠ g := by
  intro k hk
  rcases h.2 with ⟨rfl, _⟩ | ⟨g', cap, cur, rfl, hb', _⟩
  · simp [Value.ownBlock] at hk
  · simp [Value.ownBlock] at hk; subst hk; exact hb'.ne hb hne
theorem OwnS.row {w : World} {e : TypeId} {size n : Nat} {v : Value} {cs : List Value} (h : OwnS w e size v n cs) : RowIn w (inB v) size v n cs := by
  refine ⟨h.1, ?_⟩
  rcases h.2 with ⟨rfl, rfl⟩ | ⟨g, cap, cur, rfl, hb, h1, h2, h3, h4⟩
  · refine ⟨none, 0, rfl, Nat.le_refl _, by decide, fun _ => rfl, fun j u hu => ?_⟩
    have hl := h.1
    have hz : cs = [] := List.length_eq_zero_iff.1 (by rw [hl]; omega)
    subst hz
    simp at hu
  · refine ⟨some ⟨g, 0, none⟩, cap, rfl, h1, h2, (fun hh => by cases hh), fun j u hu => ⟨_, _, rfl, rfl, ?_⟩⟩
    rw [Nat.zero_add, hb.cell]
    have : j < n * size := by rw [← h.1]; exact (List.getElem?_eq_some_iff.1 hu).1
    rw [← h4, List.getElem?_take, if_pos this] at hu
    simpa using hu
theorem OwnS.form {w : World} {e : TypeId} {size n : Nat} {v : Value} {cs : List Value} (h : OwnS w e size v n cs) : ∃ A cap, v = .slice A n cap ∧ n ≤ cap ∧ cap ≤ maxLen := by
  obtain ⟨_, A, cap, hv, h1, h2, _⟩ := h.row
  exact ⟨A, cap, hv, h1, h2⟩

section
variable {P : Program} (w : World)
/-- append onto a slice of its own, from any slice that is read. -/
theorem run_app (t ty e : TypeId) (i : TypeInfo) (z : Value) (size bytes : Nat) (ht : P.underlying t = some (.slice e)) (hi : P.info? e = some i) (hz : i.zero = some z)
    (hsize : i.size = size) (hby : i.bytes = bytes) (hzs : z.cells.size = size) (hsz : 0 < size)
    (v : Value) (n : Nat) (xs : List Value) (hown : OwnS w e size v n xs) (S : Nat → Prop) (x : Value) (m : Nat) (news : List Value) (hx : RowIn w S size x m news)
    (h1 : ∀ u ∈ news, u.oneCell' = true) (h63 : n + m ≤ maxLen) (hbytes : (n + m) * bytes ≤ 140737488355328) :
    ∃ v' w', (Builtin.append_ #[t, t] ty #[v, x]).run P w = .ok v' w' ∧ OwnS w' e size v' (n + m) (xs ++ news) ∧ Fr (inB v) w w' ∧ (v'.ownBlock = v.ownBlock ∨ v'.ownBlock = some w.heap.size) ∧
      (n + m = 0 → v' = v ∧ w' = w) := by
  subst hsize
  subst hby
  obtain ⟨hl, A, c, rfl, hmc, hcm, hA, hcells⟩ := hx
  have hsmall : n + m ≤ 9223372036854775807 := by simp only [maxLen] at h63; omega
  have hlen : (xs ++ news).length = (n + m) * i.size := by rw [List.length_append, hown.1, hl, Nat.add_mul]
  by_cases hm : m = 0
  · subst hm
    have hn : news = [] := List.eq_nil_of_length_eq_zero (by simpa using hl)
    subst hn
    refine ⟨v, w, ?_, by simpa using hown, Fr.refl _ _, .inl rfl, fun _ => ⟨rfl, rfl⟩⟩
    rcases hown.2 with ⟨rfl, rfl⟩ | ⟨g, cap, cur, rfl, hb, hnc, hcm', hcs, htake⟩
    · cases A with
      | none => simp [Builtin.append_, run_underlying ht, sizeOf, typeInfo, hi, Builtin.lenOf, Builtin.firstCells, loadCells, loadCellsFrom]
      | some a => simp [Builtin.append_, run_underlying ht, sizeOf, typeInfo, hi, Builtin.lenOf, Builtin.firstCells, loadCells, loadCellsFrom]
    · cases A with
      | none => simp [Builtin.append_, run_underlying ht, sizeOf, typeInfo, hi, Builtin.lenOf, Builtin.firstCells, loadCells, loadCellsFrom, hnc, storeCells]
      | some a => simp [Builtin.append_, run_underlying ht, sizeOf, typeInfo, hi, Builtin.lenOf, Builtin.firstCells, loadCells, loadCellsFrom, hnc, storeCells]
  · obtain ⟨a, rfl⟩ : ∃ a, A = some a := by
      cases A with
      | none => have := hA rfl; omega
      | some a => exact ⟨a, rfl⟩
    have hnews : ∀ j u, news[j]? = some u → w.cell? (a.add j) = some u := fun j u hu => by
      obtain ⟨b, off, hb, _, hc⟩ := hcells j u hu
      cases hb
      rw [add_plain]
      exact hc
    have grown : ∀ (old : Nat), old < n + m →
        OwnS (w.drew.alloc (.cells (xs.toArray ++ news.toArray ++ Builtin.zeroCells z.cells (grownCap w (n + m) old e - (n + m))) e)) e i.size
          (.slice (some ⟨w.heap.size, 0, none⟩) (n + m) (grownCap w (n + m) old e)) (n + m) (xs ++ news) ∧
        Fr (inB v) w (w.drew.alloc (.cells (xs.toArray ++ news.toArray ++ Builtin.zeroCells z.cells (grownCap w (n + m) old e - (n + m))) e)) := by
      intro old ho
      have hge := grownCap_ge w (n + m) old e
      have hcm : grownCap w (n + m) old e ≤ maxLen := grownCap_le_maxLen w (n + m) old e h63
      refine ⟨⟨hlen, .inr ⟨w.heap.size, _, _, rfl, Blk.new w.drew _ _, hge, hcm, ?_, ?_⟩⟩, ((Fr.refl _ _).drew).alloc _⟩
      · simp only [Array.size_append, List.size_toArray, size_zeroCells, hzs, hown.1, hl, ← Nat.add_mul]
        apply Nat.le_of_eq
        congr 1
        omega
      · simp only [Array.toList_append, List.append_assoc]
        rw [← List.append_assoc, ← hlen]
        exact List.take_left
    rcases hown.2 with ⟨rfl, rfl⟩ | ⟨g, cap, cur, rfl, hg, hnc, hcm', hcs, htake⟩
    · have hx : xs = [] := List.eq_nil_of_length_eq_zero (by simpa using hown.1)
      subst hx
      have hr := run_append_nil (P := P) w t ty e i z ht hi hz a m c news hl hnews (by omega) (by omega) (by have hb := hbytes; simp only [Nat.zero_add] at hb; omega)
      have hgr := grown 0 (by omega)
      simp only [Nat.zero_add, List.nil_append, Array.empty_append] at hgr ⊢
      exact ⟨_, _, hr, hgr.1, hgr.2, .inr rfl, fun h0 => absurd h0 (by omega)⟩
    · by_cases hroom : n + m ≤ cap
      · have hfit : n * i.size + news.length ≤ cur.size := by rw [hl, ← Nat.add_mul]; exact Nat.le_trans (Nat.mul_le_mul_right _ hroom) hcs
        have hr := run_append_room (P := P) w t ty e i ht hi g n cap cur hg a m c news hl hnews h1 hroom hfit
        refine ⟨_, _, hr, ⟨hlen, .inr ⟨g, cap, _, rfl, hg.setRow _, hroom, hcm', ?_, ?_⟩⟩, (Fr.refl (inB (.slice (some ⟨g, 0, none⟩) n cap)) _).setRow (.inl rfl) _, .inl rfl, fun h0 => absurd h0 (by omega)⟩
        · simp only [List.size_toArray, List.length_append, List.length_take, List.length_drop, Array.length_toList]
          omega
        · rw [htake, ← hlen]
          exact List.take_left
      · have holds : ∀ j u, xs[j]? = some u → w.cell? ((⟨g, 0, none⟩ : Addr).add j) = some u := fun j u hu => by
          obtain ⟨_, A', cap', hv, _, _, _, h4⟩ := hown.row
          obtain ⟨b, off, hb, _, hc⟩ := h4 j u hu
          simp at hv
          rw [← hv.1] at hb
          cases hb
          rw [add_plain]
          exact hc
        have hr := run_append_grow (P := P) w t ty e i z ht hi hz ⟨g, 0, none⟩ n cap xs hown.1 holds a m c news hl hnews (by omega) (by omega) (growslice_fits (by omega) hbytes)
        have hgr := grown cap (by omega)
        exact ⟨_, _, hr, hgr.1, hgr.2, .inr rfl, fun h0 => absurd h0 (by omega)⟩

/-- The same at the list of a region's operations. -/
theorem wpList_app {ops : Array Oper} {rest : List Oper} {o : Oper} {a : Act} {Q : Exit → Act → World → Prop} (hgd : o.guard = none) (s x : Operand) (t : TypeId)
    (ho : o.op = .call { callee := .builtin .append, args := #[s, x], argTypes := #[t, t] })
    (e : TypeId) (i : TypeInfo) (z : Value) (size bytes : Nat) (ht : P.underlying t = some (.slice e)) (hi : P.info? e = some i) (hz : i.zero = some z)
    (hsize : i.size = size) (hby : i.bytes = bytes) (hzs : z.cells.size = size) (hsz : 0 < size)
    (v : Value) (n : Nat) (xs : List Value) (hs : a.eval s = v) (hown : OwnS w e size v n xs) (S : Nat → Prop) (xv : Value) (m : Nat) (news : List Value) (hx : a.eval x = xv) (hrow : RowIn w S size xv m news)
    (h1 : ∀ u ∈ news, u.oneCell' = true) (h63 : n + m ≤ maxLen) (hbytes : (n + m) * bytes ≤ 140737488355328)
    (h : ∀ v' w', OwnS w' e size v' (n + m) (xs ++ news) → Fr (inB v) w w' → (v'.ownBlock = v.ownBlock ∨ v'.ownBlock = some w.heap.size) → (n + m = 0 → v' = v ∧ w' = w) → wpList P ops Q rest (a.put o.dst v') w') : wpList P ops Q (o :: rest) a w := by
  obtain ⟨v', w', hr, h2, h3, h4, h5⟩ := run_app (P := P) w t o.type e i z size bytes ht hi hz hsize hby hzs hsz v n xs hown S xv m news hrow h1 h63 hbytes
  unfold wpList
  rw [if_pos (by simp [Region.wanted, hgd])]
  left
  unfold Oper.wp execOp
  simp only [ho, resolve, invoke, builtin, Sem.run_bind, Sem.run_pure, Result.andThen_ok, List.map_toArray, List.map_cons, List.map_nil, hs, hx, hr]
  exact h v' w' h2 h3 h4 h5
/-- The same where the operation is guarded. -/
theorem wpList_appG {ops : Array Oper} {rest : List Oper} {o : Oper} {a : Act} {Q : Exit → Act → World → Prop} (hgd : Region.wanted o (yielded ops a.tmps) = true) (s x : Operand) (t : TypeId)
    (ho : o.op = .call { callee := .builtin .append, args := #[s, x], argTypes := #[t, t] })
    (e : TypeId) (i : TypeInfo) (z : Value) (size bytes : Nat) (ht : P.underlying t = some (.slice e)) (hi : P.info? e = some i) (hz : i.zero = some z)
    (hsize : i.size = size) (hby : i.bytes = bytes) (hzs : z.cells.size = size) (hsz : 0 < size)
    (v : Value) (n : Nat) (xs : List Value) (hs : a.eval s = v) (hown : OwnS w e size v n xs) (S : Nat → Prop) (xv : Value) (m : Nat) (news : List Value) (hx : a.eval x = xv) (hrow : RowIn w S size xv m news)
    (h1 : ∀ u ∈ news, u.oneCell' = true) (h63 : n + m ≤ maxLen) (hbytes : (n + m) * bytes ≤ 140737488355328)
    (h : ∀ v' w', OwnS w' e size v' (n + m) (xs ++ news) → Fr (inB v) w w' → (v'.ownBlock = v.ownBlock ∨ v'.ownBlock = some w.heap.size) → (n + m = 0 → v' = v ∧ w' = w) → wpList P ops Q rest (a.put o.dst v') w') : wpList P ops Q (o :: rest) a w := by
  obtain ⟨v', w', hr, h2, h3, h4, h5⟩ := run_app (P := P) w t o.type e i z size bytes ht hi hz hsize hby hzs hsz v n xs hown S xv m news hrow h1 h63 hbytes
  unfold wpList
  rw [if_pos hgd]
  left
  unfold Oper.wp execOp
  simp only [ho, resolve, invoke, builtin, Sem.run_bind, Sem.run_pure, Result.andThen_ok, List.map_toArray, List.map_cons, List.map_nil, hs, hx, hr]
  exact h v' w' h2 h3 h4 h5
end

/-- copy of whole elements into a block that is known whole. -/
theorem run_copyS {P : Program} {w : World} (dT sT ty e : TypeId) (i : TypeInfo) (hu : P.underlying dT = some (.slice e)) (hi : P.info? e = some i) (g o dLen dCap : Nat) (cur : Array Value) (hg : Blk w g cur e)
    (S : Nat → Prop) (x : Value) (m : Nat) (news : List Value) (hx : RowIn w S i.size x m news) (hm : m ≤ dLen) (hfit : o + news.length ≤ cur.size) (h1 : ∀ u ∈ news, u.oneCell' = true) :
    (Builtin.copy_ #[dT, sT] ty #[.slice (some ⟨g, o, none⟩) dLen dCap, x]).run P w = .ok (goInt m) (w.setRow g (cur.toList.take o ++ news ++ cur.toList.drop (o + news.length)).toArray) := by
  obtain ⟨hl, A, c, rfl, hmc, hcm, hA, hcells⟩ := hx
  have hst := run_storeCells_at P g o e news 0 cur w hg (by simpa using hfit) h1
  simp only [Nat.add_zero] at hst
  have hmin : Nat.min m dLen = m := Nat.min_eq_left hm
  have hf : (Builtin.firstCells i.size m (.slice A m c)).run P w = .ok news.toArray w := by
    cases A with
    | none =>
      have hc := hA rfl
      have hz : news = [] := List.length_eq_zero_iff.1 (by rw [hl, show m = 0 by omega, Nat.zero_mul])
      subst hz
      simp [Builtin.firstCells]
    | some a =>
      refine run_firstCells_some (P := P) w i.size m a m c news hl fun j u hu => ?_
      obtain ⟨b, off, hb, _, hc⟩ := hcells j u hu
      cases hb
      rw [add_plain]
      exact hc
  simp [Builtin.copy_, run_underlying hu, sizeOf, typeInfo, hi, Builtin.lenOf, hmin, hf, hst]
theorem wpList_copyS {P : Program} {w : World} {ops : Array Oper} {rest : List Oper} {o : Oper} {a : Act} {Q : Exit → Act → World → Prop} (hgd : o.guard = none) (d s : Operand) (dT sT : TypeId)
    (ho : o.op = .call { callee := .builtin .copy, args := #[d, s], argTypes := #[dT, sT] }) (e : TypeId) (i : TypeInfo) (hu : P.underlying dT = some (.slice e)) (hi : P.info? e = some i) (size : Nat) (hsz : i.size = size)
    (g off dLen dCap : Nat) (hd : a.eval d = .slice (some ⟨g, off, none⟩) dLen dCap) (cur : Array Value) (hg : Blk w g cur e)
    (S : Nat → Prop) (x : Value) (m : Nat) (news : List Value) (hs : a.eval s = x) (hx : RowIn w S size x m news) (hm : m ≤ dLen) (hfit : off + news.length ≤ cur.size) (h1 : ∀ u ∈ news, u.oneCell' = true)
    (h : wpList P ops Q rest (a.put o.dst (goInt m)) (w.setRow g (cur.toList.take off ++ news ++ cur.toList.drop (off + news.length)).toArray)) :
    wpList P ops Q (o :: rest) a w := by
  subst hsz
  have hr := run_copyS (P := P) dT sT o.type e i hu hi g off dLen dCap cur hg S x m news hx hm hfit h1
  unfold wpList
  rw [if_pos (by simp [Region.wanted, hgd])]
  left
  unfold Oper.wp execOp
  simp only [ho, resolve, invoke, builtin, Sem.run_bind, Sem.run_pure, Result.andThen_ok, List.map_toArray, List.map_cons, List.map_nil, hd, hs, hr]
  exact h
theorem OwnS.new0 (w : World) (e : TypeId) (size : Nat) : OwnS (w.alloc (.cells #[] e)) e size (.slice (some ⟨w.heap.size, 0, none⟩) 0 0) 0 [] :=
  ⟨by simp, .inr ⟨_, _, _, rfl, Blk.new w #[] e, Nat.le_refl _, by decide, by simp, by simp⟩⟩
/-- The slice lies in a block that w has not. -/
def NewV (w : World) (v : Value) : Prop := ∀ b, v.ownBlock = some b → w.heap.size ≤ b
theorem NewV.nil (w : World) : NewV w (.slice none 0 0) := fun b hb => by simp [Value.ownBlock] at hb
theorem NewV.le {w w' : World} {v : Value} (h : NewV w' v) (hs : w.heap.size ≤ w'.heap.size) : NewV w v := fun b hb => Nat.le_trans hs (h b hb)
theorem app_new {w wa w1 : World} {v v' : Value} (hn : NewV w v) (h0 : Fr Nob w wa) (hfr : Fr (inB v) wa w1) (hat : v'.ownBlock = v.ownBlock ∨ v'.ownBlock = some wa.heap.size) : Fr Nob w w1 ∧ NewV w v' :=
  ⟨h0.trans hfr fun i hi => .inr (hn i hi), fun b hb => by
    rcases hat with h | h
    · exact hn b (h ▸ hb)
    · rw [h] at hb; cases hb; exact h0.size⟩
theorem NewV.at (w : World) (n c : Nat) : NewV w (.slice (some ⟨w.heap.size, 0, none⟩) n c) := fun b hb => by simp [Value.ownBlock] at hb; omega
theorem run_slice_is_nil {P : Program} {t e : TypeId} (ht : P.underlying t = some (.slice e)) (A : Option Addr) (l c : Nat) (w : World) : (binOp .eql t (.slice A l c) (.slice none 0 0)).run P w = .ok (.bool A.isNone) w := Lib.run_eql_slice_nil w t e A l c 0 0 ht
/-! Parts of slices: 'xs[k:]', 'xs[:k]', 'xs[:k:k]'. -/
def dropV (size : Nat) (v : Value) (k : Nat) : Value := match v with
  | .slice A n cap => .slice (if cap = k then A else A.map (·.add (k * size))) (n - k) (cap - k)
  | v => v
def takeV (v : Value) (k : Nat) : Value := match v with
  | .slice A n cap => .slice A k cap
  | v => v
def cutV (v : Value) (k : Nat) : Value := match v with
  | .slice A n cap => .slice A k k
  | v => v
theorem sliced0 (a : Option Addr) (h m s : Nat) : sliced a 0 h m s = .slice a h m := by
  simp only [sliced, Nat.zero_mul, Nat.sub_zero]
  congr 1
  split
  · rfl
  · cases a <;> simp [Addr.add]
theorem run_dropV {P : Program} {t e : TypeId} {i : TypeInfo} (ht : P.underlying t = some (.slice e)) (hi : P.info? e = some i) (A : Option Addr) (n cap k : Nat) (hk : k ≤ n) (w : World) :
    (Instr.slice t (.slice A n cap) (some (.int .i64 k)) none none).run P w = .ok (dropV i.size (.slice A n cap) k) w := by
  have he : P.elem t = e := by simp [Program.elem, ht]
  rw [run_slice_l (P := P) w t A n cap (by rw [he]; exact ht) .i64 k (by omega) (by omega), he]
  simp [sizeOf, typeInfo, hi, sliced, dropV]
theorem run_takeV {P : Program} {t e : TypeId} {i : TypeInfo} (ht : P.underlying t = some (.slice e)) (hi : P.info? e = some i) (A : Option Addr) (n cap k : Nat) (hk : k ≤ cap) (w : World) :
    (Instr.slice t (.slice A n cap) none (some (.int .i64 k)) none).run P w = .ok (takeV (.slice A n cap) k) w := by
  have he : P.elem t = e := by simp [Program.elem, ht]
  rw [run_slice_h (P := P) w t A n cap (by rw [he]; exact ht) .i64 k (by omega) (by omega), he]
  simp [sizeOf, typeInfo, hi, sliced0, takeV]
theorem run_cutV {P : Program} {t e : TypeId} {i : TypeInfo} (ht : P.underlying t = some (.slice e)) (hi : P.info? e = some i) (A : Option Addr) (n cap k : Nat) (hk : k ≤ cap) (w : World) :
    (Instr.slice t (.slice A n cap) none (some (.int .i64 k)) (some (.int .i64 k))).run P w = .ok (cutV (.slice A n cap) k) w := by
  have he : P.elem t = e := by simp [Program.elem, ht]
  rw [run_slice_hm (P := P) w t A n cap (by rw [he]; exact ht) .i64 .i64 k k (by omega) (by omega) (by omega), he]
  simp [sizeOf, typeInfo, hi, sliced0, cutV]
theorem RowIn.dropV {w : World} {S : Nat → Prop} {size n : Nat} {v : Value} {cs : List Value} (h : RowIn w S size v n cs) (k : Nat) (hk : k ≤ n) (hs : 0 < size) : RowIn w S size (dropV size v k) (n - k) (cs.drop (k * size)) := by
  obtain ⟨hl, A, cap, rfl, h1, h2, h3, h4⟩ := h
  refine ⟨by rw [List.length_drop, hl, Nat.sub_mul], (if cap = k then A else A.map (·.add (k * size))), cap - k, rfl, by omega, by omega, fun hA => ?_, fun j u hu => ?_⟩
  · split at hA
    · omega
    · have : A = none := by simpa using hA
      have := h3 this; omega
  · rw [List.getElem?_drop] at hu
    obtain ⟨b, off, rfl, hS, hc⟩ := h4 _ _ hu
    have hlt : k * size + j < n * size := by rw [← hl]; exact (List.getElem?_eq_some_iff.1 hu).1
    have hne : cap ≠ k := by
      rintro rfl
      have := Nat.mul_le_mul_right size h1
      omega
    exact ⟨b, off + k * size, by rw [if_neg hne]; simp [add_plain], hS, by rw [Nat.add_assoc]; exact hc⟩
theorem RowIn.takeV {w : World} {S : Nat → Prop} {size n : Nat} {v : Value} {cs : List Value} (h : RowIn w S size v n cs) (k : Nat) (hk : k ≤ n) : RowIn w S size (takeV v k) k (cs.take (k * size)) := by
  obtain ⟨hl, A, cap, rfl, h1, h2, h3, h4⟩ := h
  refine ⟨?_, A, cap, rfl, by omega, h2, h3, fun j u hu => ?_⟩
  · rw [List.length_take, hl, Nat.min_eq_left (Nat.mul_le_mul_right _ hk)]
  · rw [List.getElem?_take] at hu
    split at hu
    · exact h4 j u hu
    · cases hu
theorem OwnS.takeV {w : World} {e : TypeId} {size n : Nat} {v : Value} {cs : List Value} (h : OwnS w e size v n cs) (k : Nat) (hk : k ≤ n) : OwnS w e size (takeV v k) k (cs.take (k * size)) ∧ (takeV v k).ownBlock = v.ownBlock := by
  rcases h with ⟨hl, ⟨rfl, rfl⟩ | ⟨g, cap, cur, rfl, hb, h1, h2, h3, h4⟩⟩
  · obtain rfl : k = 0 := by omega
    exact ⟨⟨by simp, .inl ⟨rfl, rfl⟩⟩, rfl⟩
  · refine ⟨⟨?_, .inr ⟨g, cap, cur, rfl, hb, by omega, h2, h3, ?_⟩⟩, rfl⟩
    · rw [List.length_take, hl, Nat.min_eq_left (Nat.mul_le_mul_right _ hk)]
    · rw [← h4, List.take_take, Nat.min_eq_left (Nat.mul_le_mul_right _ hk)]
theorem OwnS.cutV {w : World} {e : TypeId} {size n : Nat} {v : Value} {cs : List Value} (h : OwnS w e size v n cs) (k : Nat) (hk : k ≤ n) : OwnS w e size (cutV v k) k (cs.take (k * size)) ∧ (cutV v k).ownBlock = v.ownBlock := by
  rcases h with ⟨hl, ⟨rfl, rfl⟩ | ⟨g, cap, cur, rfl, hb, h1, h2, h3, h4⟩⟩
  · obtain rfl : k = 0 := by omega
    exact ⟨⟨by simp, .inl ⟨rfl, rfl⟩⟩, rfl⟩
  · refine ⟨⟨?_, .inr ⟨g, k, cur, rfl, hb, Nat.le_refl _, by omega, Nat.le_trans (Nat.mul_le_mul_right _ (by omega)) h3, ?_⟩⟩, rfl⟩
    · rw [List.length_take, hl, Nat.min_eq_left (Nat.mul_le_mul_right _ hk)]
    · rw [← h4, List.take_take, Nat.min_eq_left (Nat.mul_le_mul_right _ hk)]
/-- Elements of an owned slice are stored over. -/
theorem OwnS.store {w : World} {e : TypeId} {size n : Nat} {v : Value} {cs : List Value} (h : OwnS w e size v n cs) {g : Nat} (hv : v.ownBlock = some g) (i : Nat) (hi : i < n * size) (u : Value) :
    OwnS (w.setCell ⟨g, i, none⟩ u) e size v n (cs.set i u) := by
  rcases h with ⟨hl, ⟨rfl, rfl⟩ | ⟨g', cap, cur, rfl, hb, h1, h2, h3, h4⟩⟩
  · simp [Value.ownBlock] at hv
  · simp [Value.ownBlock] at hv
    subst hv
    refine ⟨by rw [List.length_set, hl], .inr ⟨g', cap, _, rfl, hb.set i u, h1, h2, by simpa using h3, ?_⟩⟩
    rw [Array.toList_setIfInBounds, List.take_set, h4]
theorem splice_take {α : Type} (L news : List α) (o N : Nat) (h : o + news.length ≤ N) (hN : N ≤ L.length) :
    (L.take o ++ news ++ L.drop (o + news.length)).take N = (L.take N).take o ++ news ++ (L.take N).drop (o + news.length) := by
  have e1 : (L.take N).take o = L.take o := by rw [List.take_take, Nat.min_eq_left (by omega)]
  have e2 : (L.take o ++ news).length = o + news.length := by simp; omega
  rw [e1, List.take_append, e2, List.take_of_length_le (by omega), List.drop_take]
/-- The block of an owned slice, and what a copy into it leaves. -/
theorem OwnS.cur {w : World} {e : TypeId} {size n : Nat} {v : Value} {cs : List Value} (h : OwnS w e size v n cs) {g : Nat} (hv : v.ownBlock = some g) :
    ∃ cur, Blk w g cur e ∧ n * size ≤ cur.size ∧ ∀ w' : World, Blk w' g cur e → ∀ (o : Nat) (news : List Value), o + news.length ≤ n * size →
      OwnS (w'.setRow g (cur.toList.take o ++ news ++ cur.toList.drop (o + news.length)).toArray) e size v n (cs.take o ++ news ++ cs.drop (o + news.length)) := by
  rcases h with ⟨hl, ⟨rfl, rfl⟩ | ⟨g', cap, cur, rfl, hb, h1, h2, h3, h4⟩⟩
  · simp [Value.ownBlock] at hv
  · simp [Value.ownBlock] at hv
    subst hv
    have hsz : n * size ≤ cur.size := Nat.le_trans (Nat.mul_le_mul_right _ h1) h3
    refine ⟨cur, hb, hsz, fun w' hw' o news ho => ⟨?_, .inr ⟨g', cap, _, rfl, hw'.setRow _, h1, h2, ?_, ?_⟩⟩⟩
    · simp only [List.length_append, List.length_take, List.length_drop, hl]; omega
    · simp only [List.size_toArray, List.length_append, List.length_take, List.length_drop, Array.length_toList]
      omega
    · rw [← h4]
      exact splice_take _ _ _ _ ho (by simpa using hsz)
/-! Results that lie in memory. -/
theorem results_ct {P : Program} {fn : Func} {p u : Tmp} {ty : TypeId} (h : fn.results = #[.cell p ty, .tmp u]) (tmps : Array Value) (w : World) (g : Nat) (t : TypeId) (cs : Array Value) (d : TypeDesc)
    (hp : tmps.getD p undef = .pointer (some ⟨g, 0, none⟩)) (hg : Blk w g cs t)
    (hu : P.underlying ty = some d) (hd : (match d with | .struct _ | .array _ _ => true | _ => false) = true) (hi : (P.info? ty).map (·.size) = some cs.size) :
    (results fn tmps).run P w = .ok (.tuple #[.agg cs, tmps.getD u undef]) w := by
  have hp' : tmps[p]?.getD undef = .pointer (some ⟨g, 0, none⟩) := by simpa using hp
  simp [results, h, hp', asAddr, run_loadVar_row w g t ty cs (0, 0) d hg hu hd hi]
theorem results_c {P : Program} {fn : Func} {p : Tmp} {ty : TypeId} (h : fn.results = #[.cell p ty]) (tmps : Array Value) (w : World) (g : Nat) (t : TypeId) (cs : Array Value) (d : TypeDesc)
    (hp : tmps.getD p undef = .pointer (some ⟨g, 0, none⟩)) (hg : Blk w g cs t)
    (hu : P.underlying ty = some d) (hd : (match d with | .struct _ | .array _ _ => true | _ => false) = true) (hi : (P.info? ty).map (·.size) = some cs.size) :
    (results fn tmps).run P w = .ok (.agg cs) w := by
  have hp' : tmps[p]?.getD undef = .pointer (some ⟨g, 0, none⟩) := by simpa using hp
  simp [results, h, hp', asAddr, run_loadVar_row w g t ty cs (0, 0) d hg hu hd hi]
/-! '==' of structs, field by field. -/
section
variable {P : Program} {d : Nat} {xs ys : Array Value} {f : Field} {fs : List Field} {a b : Value} {r s : Bool} {w : World}
theorem eqf_nil : (Op.eqFields d xs ys []).run P w = .ok true w := by simp [Op.eqFields]
theorem eqf_cons (hn : (f.name == "_") = false) (ha : (part f.type xs f.offset).run P w = .ok a w) (hb : (part f.type ys f.offset).run P w = .ok b w) (he : (Op.equalIn d f.type a b).run P w = .ok r w)
    (hr : (Op.eqFields d xs ys fs).run P w = .ok s w) : (Op.eqFields d xs ys (f :: fs)).run P w = .ok (r && s) w := by
  have hn' : f.name ≠ "_" := by simpa using hn
  rw [Op.eqFields]
  simp only [if_pos hn', Sem.run_bind, ha, hb, he, Result.andThen_ok]
  cases r
  · simp
  · simpa using hr
theorem eq_struct {t : TypeId} {fl : Array Field} (hu : P.underlying t = some (.struct fl)) (hp : P.stoodInHeld t = false) (h : (Op.eqFields d xs ys fl.toList).run P w = .ok r w) : (Op.equalIn (d + 1) t (.agg xs) (.agg ys)).run P w = .ok r w := by
  have hf : P.fieldsOf t = fl := by simp [Program.fieldsOf, hu]
  rw [run_equalIn_struct (P := P) w d t xs ys (by rw [hf]; exact hu) hp, hf]
  exact h
end
theorem take_more {α : Type} {a b : List α} {k : Nat} (h : a.take k = b.take k) (ha : k < a.length) (hb : k < b.length) (he : a[k] = b[k]) : a.take (k + 1) = b.take (k + 1) := by
  rw [List.take_succ_eq_append_getElem ha, List.take_succ_eq_append_getElem hb, h, he]
theorem take_all {α : Type} {a b : List α} {k : Nat} (h : a.take k = b.take k) (ha : a.length ≤ k) (hb : b.length ≤ k) : a = b := by
  rwa [List.take_of_length_le ha, List.take_of_length_le hb] at h
theorem ret_bool {a b : Bool} (h : a = b) : Ending.returned (.bool a) = .returned (.bool b) := by rw [h]
theorem ret_i64 {a b : Int} (h : a = b) : Ending.returned (.int .i64 a) = .returned (.int .i64 b) := by rw [h]
theorem ret_val {a b : Value} (h : a = b) : Ending.returned a = .returned b := by rw [h]
theorem drewN_two (w : World) (n m : Nat) : (w.drewN n).drewN m = w.drewN (n + m) := by simp [World.drewN, Nat.add_assoc]
theorem str_beq (a b : ByteArray) : (a.toList == b.toList) = decide (a = b) := by
  rw [Bool.eq_iff_iff, Go.ByteArray.toList_eq, Go.ByteArray.toList_eq]
  obtain ⟨⟨x⟩⟩ := a
  obtain ⟨⟨y⟩⟩ := b
  simp
end Go.Proofs.YtkkejjfmidgciaaDoor
/- Points, segments; the walks of fix.Fits, of path's fits. -/
namespace Go.Proofs.YtkkejjfmidgciaaDoor
open Go.RowKit
set_option linter.unusedVariables false
set_option linter.unusedSimpArgs false
structure Pt where
  x : Int
  y : Int
deriving DecidableEq
def encP (p : Pt) : List Value := [.int .i64 p.x, .int .i64 p.y]
def ptV (p : Pt) : Value := .agg #[.int .i64 p.x, .int .i64 p.y]
def encPs (l : List Pt) : List Value := l.flatMap encP
def fitZ (z : Int) : Bool := decide (-2147483648 ≤ z ∧ z ≤ 2147483647)
def fitP (p : Pt) : Bool := fitZ p.x && fitZ p.y
theorem encPs_len (l : List Pt) : (encPs l).length = l.length * 2 := by
  induction l with
  | nil => rfl
  | cons a r ih => simp only [encPs, List.flatMap_cons, List.length_append, List.length_cons] at *; rw [ih]; simp [encP]; omega
theorem encPs_at (l : List Pt) (k j : Nat) (hk : k < l.length) (hj : j < 2) : (encPs l)[k * 2 + j]? = (encP l[k])[j]? := by
  induction l generalizing k with
  | nil => simp at hk
  | cons a r ih =>
    have hc : encPs (a :: r) = encP a ++ encPs r := by simp [encPs]
    rw [hc]
    cases k with
    | zero => rw [List.getElem?_append_left (by simp [encP]; omega)]; simp
    | succ k =>
      rw [List.getElem?_append_right (by simp [encP]; omega), show (k + 1) * 2 + j - (encP a).length = k * 2 + j by simp [encP]; omega]
      exact ih k (by simpa using hk)
theorem RowIn.pt {w : World} {S : Nat → Prop} {v : Value} {l : List Pt} (h : RowIn w S 2 v l.length (encPs l)) (hn : 0 < l.length) :
    ∃ b off cap, v = .slice (some ⟨b, off, none⟩) l.length cap ∧ l.length ≤ cap ∧ cap ≤ 9223372036854775807 ∧ S b ∧ ∀ k (hk : k < l.length), w.cell? ⟨b, off + k * 2, none⟩ = some (.int .i64 l[k].x) ∧ w.cell? ⟨b, off + k * 2 + 1, none⟩ = some (.int .i64 l[k].y) := by
  obtain ⟨b, off, cap, hv, h1, h2, hS, hc⟩ := h.pos (by rw [encPs_len]; omega)
  refine ⟨b, off, cap, hv, h1, h2, hS, fun k hk => ⟨?_, ?_⟩⟩
  · exact hc (k * 2 + 0) _ (by rw [encPs_at l k 0 hk (by omega)]; rfl)
  · rw [Nat.add_assoc]; exact hc (k * 2 + 1) _ (by rw [encPs_at l k 1 hk (by omega)]; rfl)

theorem fix_fits (z : Int) (w : World) : Calls Tryd.prog 109 #[.int .i64 z] w fun e w' => e = .returned (.bool (fitZ z)) ∧ w = w' := by
  by_cases h1 : -2147483648 ≤ z
  · have d1 : decide (-2147483648 ≤ z) = true := by simpa using h1
    rw [show fitZ z = decide (z ≤ 2147483647) by simp [fitZ, h1]]
    go_enter Tryd.func109, Tryd.ntmps109
    go_wp2
    go_ret
    exact ⟨rfl, rfl⟩
  · have d1 : decide (-2147483648 ≤ z) = false := by simpa using h1
    rw [show fitZ z = false by simp [fitZ, h1]]
    go_enter Tryd.func109, Tryd.ntmps109
    go_wp2
    go_ret
    exact ⟨rfl, rfl⟩

theorem fits1_any (p : Pt) (w : World) : Calls Tryd.prog 131 #[ptV p] w fun e w' => e = .returned (.bool (!fitP p)) ∧ Fr Nob w w' := by
  unfold ptV
  by_cases h : fitZ p.x
  · rw [show (!fitP p) = !fitZ p.y by simp [fitP, h]]
    go_enter Tryd.func131, Tryd.ntmps131
    go_wp2_with fail
    refine (fix_fits p.x _).mono ?_
    rintro e w1 ⟨rfl, rfl⟩
    rw [h]
    go_wp2_with fail
    refine (fix_fits p.y _).mono ?_
    rintro e w1 ⟨rfl, rfl⟩
    go_wp2_with fail
    go_ret
    exact ⟨rfl, (Fr.refl _ _).alloc _⟩
  · have hf : fitZ p.x = false := by simpa using h
    rw [show (!fitP p) = true by simp [fitP, hf]]
    clear h
    go_enter Tryd.func131, Tryd.ntmps131
    go_wp2_with fail
    refine (fix_fits p.x _).mono ?_
    rintro e w1 ⟨rfl, rfl⟩
    rw [hf]
    go_wp2_with fail
    go_ret
    exact ⟨rfl, (Fr.refl _ _).alloc _⟩
end Go.Proofs.YtkkejjfmidgciaaDoor
/- The walks of slices.ContainsFunc over points, of path's fits. -/
namespace Go.Proofs.YtkkejjfmidgciaaDoor
open Go.RowKit
set_option linter.unusedVariables false
set_option linter.unusedSimpArgs false
/-- A function of a point that answers one bool. -/
def Asks (n : Nat) (P : Pt → Bool) : Prop := ∀ (p : Pt) (w : World), Calls Tryd.prog n #[.agg #[.int .i64 p.x, .int .i64 p.y]] w fun e w' => e = .returned (.bool (P p)) ∧ Fr Nob w w'
theorem any_none {l : List Pt} {P : Pt → Bool} {k : Nat} (h : ∀ j (hj : j < l.length), j < k → P l[j] = false) (hk : l.length ≤ k) : l.any P = false := by
  rw [List.any_eq_false]
  intro x hx
  obtain ⟨i, hi, rfl⟩ := List.mem_iff_getElem.1 hx
  rw [h i hi (by omega)]; simp
theorem any_some {l : List Pt} {P : Pt → Bool} {k : Nat} (hk : k < l.length) (h : P l[k] = true) : l.any P = true := by
  rw [List.any_eq_true]; exact ⟨_, List.getElem_mem hk, h⟩

set_option maxHeartbeats 400000 in
theorem index_any (n : Nat) (P : Pt → Bool) (hn : n = 131 ∨ n = 129) (hP : Asks n P) (v : Value) (l : List Pt) (S : Nat → Prop) (w : World) (h : RowIn w S 2 v l.length (encPs l)) :
    Calls Tryd.prog 144 #[v, .func (.func n) #[] #[]] w fun e w' => ∃ r : Int, e = .returned (.int .i64 r) ∧ -1 ≤ r ∧ r ≤ 9223372036854775807 ∧ decide (0 ≤ r) = l.any P ∧ Fr Nob w w' := by
  have HP := Lib.hid hP
  clear hP
  by_cases h0 : l.length = 0
  · obtain rfl : l = [] := List.length_eq_zero_iff.1 h0
    obtain ⟨_, A, c, rfl, _⟩ := h
    go_enter Tryd.func144, Tryd.ntmps144
    go_wp2
    go_loopw [8] (fun q wr => q = .int .i64 0 ∧ wr = w) (fun _ _ => 0)
    case atStart => exact ⟨rfl, rfl⟩
    case round =>
      obtain ⟨rfl, rfl⟩ := hrel
      go_wp2
      go_ret
      exact ⟨-1, rfl, by omega, by omega, rfl, Fr.refl _ _⟩
  · obtain ⟨b, off, cap, rfl, h1, h2, _, hA⟩ := h.pt (by omega)
    have HA := Lib.hid hA
    clear h hA
    go_enter Tryd.func144, Tryd.ntmps144
    go_wp2
    go_loopw [8] (fun q wr => ∃ k : Nat, k ≤ l.length ∧ q = .int .i64 k ∧ Hid (∀ j (hj : j < l.length), j < k → P l[j] = false) ∧ Hid (Fr Nob w wr)) (fun q _ => l.length - (intOf q).toNat)
    case atStart => exact ⟨0, by omega, rfl, fun j _ h => by omega, Fr.refl _ _⟩
    case round =>
      obtain ⟨k, hk, rfl, HT, HF⟩ := hrel
      by_cases hlt : k < l.length
      · obtain ⟨a0, a1⟩ := HA.out k hlt
        have b0 := cell_nob a0 HF.out
        have b1 := cell_nob a1 HF.out
        clear a0 a1
        have i1 : (k : Int) < l.length := by omega
        have step : ∀ w, Calls Tryd.prog n #[.agg #[.int .i64 l[k].x, .int .i64 l[k].y]] w fun e w' => e = .returned (.bool (P l[k])) ∧ Fr Nob w w' := fun w => HP.out l[k] w
        have HS := Lib.hid step
        clear step
        by_cases hp : P l[k]
        · have HA := Lib.hid (any_some hlt hp)
          rw [hp] at HS
          clear hp
          rcases hn with rfl | rfl
          all_goals
            go_wp2_with fail
            refine (HS.out _).mono ?_
            rintro e w1 ⟨rfl, hf⟩
            have HF1 := Lib.hid (HF.out.trans0 hf)
            clear hf
            go_wp2_with fail
            go_ret
            exact ⟨k, rfl, by omega, by omega, by rw [HA.out]; simp, HF1.out⟩
        · have hp' : P l[k] = false := by simpa using hp
          have HT2 := Lib.hid (show ∀ j (hj : j < l.length), j < k + 1 → P l[j] = false by
            intro j hj hjk
            rcases Nat.lt_or_ge j k with h | h
            · exact HT.out j hj h
            · obtain rfl : j = k := by omega
              exact hp')
          rw [hp'] at HS
          clear hp hp'
          rcases hn with rfl | rfl
          all_goals
            go_wp2_with fail
            refine (HS.out _).mono ?_
            rintro e w1 ⟨rfl, hf⟩
            have HF1 := Lib.hid (HF.out.trans0 hf)
            clear hf
            go_wp2_with fail
            go_roundw
            case rel => exact ⟨k + 1, by omega, by go_num, HT2, HF1⟩
            case measure => simp [intOf]; omega
      · have HA := Lib.hid (any_none HT.out (by omega))
        have hge : l.length ≤ k := by omega
        go_wp2
        go_ret
        exact ⟨-1, rfl, by omega, by omega, by rw [HA.out]; simp, HF.out⟩
theorem contains_any (n : Nat) (P : Pt → Bool) (hn : n = 131 ∨ n = 129) (hP : Asks n P) (v : Value) (l : List Pt) (S : Nat → Prop) (w : World) (h : RowIn w S 2 v l.length (encPs l)) :
    Calls Tryd.prog 128 #[v, .func (.func n) #[] #[]] w fun e w' => e = .returned (.bool (l.any P)) ∧ Fr Nob w w' := by
  have HI := Lib.hid (index_any n P hn hP v l S w h)
  obtain ⟨A, cap, rfl, _, _⟩ : ∃ A c, v = .slice A l.length c ∧ l.length ≤ c ∧ c ≤ maxLen := by obtain ⟨_, A, c, h, h1, h2, _⟩ := h; exact ⟨A, c, h, h1, h2⟩
  clear h hP
  go_enter Tryd.func128, Tryd.ntmps128
  go_wp2_with fail
  refine HI.out.mono ?_
  rintro e w1 ⟨r, rfl, hr1, hr2, hr, hf⟩
  have HR := Lib.hid hr
  have HF := Lib.hid hf
  clear hr hf
  go_wp2_with fail
  go_ret
  exact ⟨ret_bool HR.out, HF.out⟩
theorem asks_fits : Asks 131 fun p => !fitP p := fun p w => fits1_any p w
theorem all_any (l : List Pt) : l.all fitP = !l.any (fun p => !fitP p) := by
  induction l with
  | nil => rfl
  | cons a r ih => rw [List.all_cons, List.any_cons, ih]; cases fitP a <;> simp
theorem fits_any (v : Value) (l : List Pt) (S : Nat → Prop) (w : World) (h : RowIn w S 2 v l.length (encPs l)) :
    Calls Tryd.prog 105 #[v] w fun e w' => e = .returned (.bool (l.all fitP)) ∧ Fr Nob w w' := by
  have HI := Lib.hid (contains_any 131 _ (.inl rfl) asks_fits v l S w h)
  have he := all_any l
  obtain ⟨A, cap, rfl, _, _⟩ : ∃ A c, v = .slice A l.length c ∧ l.length ≤ c ∧ c ≤ maxLen := by obtain ⟨_, A, c, h, h1, h2, _⟩ := h; exact ⟨A, c, h, h1, h2⟩
  rw [he]
  clear h he
  generalize l.any (fun p => !fitP p) = q at *
  go_enter Tryd.func105, Tryd.ntmps105
  go_wp2_with fail
  refine HI.out.mono ?_
  rintro e w1 ⟨rfl, hf⟩
  have HF := Lib.hid hf
  clear hf
  go_wp2_with fail
  go_ret
  exact ⟨rfl, HF.out⟩
end Go.Proofs.YtkkejjfmidgciaaDoor
/- Segments and paths as Lean values; the walks of Clone, last, add. -/
namespace Go.Proofs.YtkkejjfmidgciaaDoor
open Go.RowKit
set_option linter.unusedVariables false
set_option linter.unusedSimpArgs false
structure Sg where
  kind : Int
  a : Pt
  b : Pt
  c : Pt
deriving DecidableEq
def oo : Pt := ⟨0, 0⟩
def encS (s : Sg) : List Value := [.int .i64 s.kind, .int .i64 s.a.x, .int .i64 s.a.y, .int .i64 s.b.x, .int .i64 s.b.y, .int .i64 s.c.x, .int .i64 s.c.y]
def encSs (l : List Sg) : List Value := l.flatMap encS
theorem encSs_cons (a : Sg) (r : List Sg) : encSs (a :: r) = encS a ++ encSs r := by simp [encSs]
theorem encSs_len (l : List Sg) : (encSs l).length = l.length * 7 := by
  induction l with
  | nil => rfl
  | cons a r ih => rw [encSs_cons, List.length_append, List.length_cons, ih]; simp [encS]; omega
theorem encSs_append (a b : List Sg) : encSs (a ++ b) = encSs a ++ encSs b := by simp [encSs]
theorem encSs_one (l : List Sg) : ∀ u ∈ encSs l, u.oneCell' = true := by
  intro u hu
  simp only [encSs, List.mem_flatMap, encS] at hu
  obtain ⟨x, _, hx⟩ := hu
  simp only [List.mem_cons, List.not_mem_nil, or_false] at hx
  rcases hx with rfl | rfl | rfl | rfl | rfl | rfl | rfl <;> rfl
theorem encSs_at (l : List Sg) (k j : Nat) (hk : k < l.length) (hj : j < 7) : (encSs l)[k * 7 + j]? = (encS l[k])[j]? := by
  induction l generalizing k with
  | nil => simp at hk
  | cons a r ih =>
    rw [encSs_cons]
    cases k with
    | zero => rw [List.getElem?_append_left (by simp [encS]; omega)]; simp
    | succ k =>
      rw [List.getElem?_append_right (by simp [encS]; omega), show (k + 1) * 7 + j - (encS a).length = k * 7 + j by simp [encS]; omega]
      exact ih k (by simpa using hk)
structure SgAt (w : World) (b off : Nat) (o : Sg) : Prop where
  c0 : w.cell? ⟨b, off, none⟩ = some (.int .i64 o.kind)
  c1 : w.cell? ⟨b, off + 1, none⟩ = some (.int .i64 o.a.x)
  c2 : w.cell? ⟨b, off + 2, none⟩ = some (.int .i64 o.a.y)
  c3 : w.cell? ⟨b, off + 3, none⟩ = some (.int .i64 o.b.x)
  c4 : w.cell? ⟨b, off + 4, none⟩ = some (.int .i64 o.b.y)
  c5 : w.cell? ⟨b, off + 5, none⟩ = some (.int .i64 o.c.x)
  c6 : w.cell? ⟨b, off + 6, none⟩ = some (.int .i64 o.c.y)
theorem SgAt.fr {S : Nat → Prop} {w w' : World} {b off : Nat} {o : Sg} (h : SgAt w b off o) (hf : Fr S w w') (hn : ¬ S b) : SgAt w' b off o :=
  ⟨cell_fr h.c0 hf hn, cell_fr h.c1 hf hn, cell_fr h.c2 hf hn, cell_fr h.c3 hf hn, cell_fr h.c4 hf hn, cell_fr h.c5 hf hn, cell_fr h.c6 hf hn⟩
theorem RowIn.sg {w : World} {S : Nat → Prop} {v : Value} {l : List Sg} (h : RowIn w S 7 v l.length (encSs l)) (hn : 0 < l.length) :
    ∃ b off cap, v = .slice (some ⟨b, off, none⟩) l.length cap ∧ l.length ≤ cap ∧ cap ≤ 9223372036854775807 ∧ S b ∧ ∀ k (hk : k < l.length), SgAt w b (off + k * 7) l[k] := by
  obtain ⟨b, off, cap, hv, h1, h2, hS, hc⟩ := h.pos (by rw [encSs_len]; omega)
  refine ⟨b, off, cap, hv, h1, h2, hS, fun k hk => ?_⟩
  have hj : ∀ j v, j < 7 → (encS l[k])[j]? = some v → w.cell? ⟨b, off + k * 7 + j, none⟩ = some v := fun j v hj hv => by
    rw [Nat.add_assoc]
    exact hc _ _ (by rw [encSs_at l k j hk hj]; exact hv)
  exact ⟨hj 0 _ (by omega) rfl, hj 1 _ (by omega) rfl, hj 2 _ (by omega) rfl, hj 3 _ (by omega) rfl, hj 4 _ (by omega) rfl, hj 5 _ (by omega) rfl, hj 6 _ (by omega) rfl⟩
theorem OwnS.sg {w : World} {v : Value} {l : List Sg} {n : Nat} (h : OwnS w 91 7 v n (encSs l)) (hl : l.length = n) (hn : 0 < l.length) :
    ∃ b cap, v = .slice (some ⟨b, 0, none⟩) n cap ∧ n ≤ cap ∧ cap ≤ 9223372036854775807 ∧ ∀ k (hk : k < l.length), SgAt w b (k * 7) l[k] := by
  subst hl
  obtain ⟨b, off, cap, hv, h1, h2, _, hc⟩ := h.row.sg hn
  rcases h.2 with ⟨h0, _⟩ | ⟨g, cap', cur, h0, _⟩
  · rw [hv] at h0; cases h0
  · rw [hv] at h0
    cases h0
    refine ⟨b, cap, hv, h1, h2, fun k hk => ?_⟩
    have := hc k hk
    rwa [Nat.zero_add] at this

theorem info43 : (Tryd.prog.info? 91).map (fun i => (i.zero, i.size, i.bytes)) = some (some (.agg #[.int .i64 0, .int .i64 0, .int .i64 0, .int .i64 0, .int .i64 0, .int .i64 0, .int .i64 0]), 7, 56) := by kernel_rfl

theorem clone_any (v : Value) (l : List Sg) (S : Nat → Prop) (w : World) (h : RowIn w S 7 v l.length (encSs l)) (hs : l.length * 56 ≤ 140737488351232) :
    Calls Tryd.prog 84 #[v] w fun e w' => ∃ vo, e = .returned vo ∧ OwnS w' 91 7 vo l.length (encSs l) ∧ Fr Nob w w' ∧ NewV w vo := by
  obtain ⟨i0, hi, hz0, hz1, hz2⟩ := info_parts info43
  have hlen := h.len_le
  obtain ⟨A, cap, rfl, h1, h2⟩ : ∃ A c, v = .slice A l.length c ∧ l.length ≤ c ∧ c ≤ maxLen := by obtain ⟨_, A, c, h, h1, h2, _⟩ := h; exact ⟨A, c, h, h1, h2⟩
  have HH := Lib.hid h
  cases A with
  | none =>
    have hc : cap = 0 := by obtain ⟨_, A, c, h, _, _, h3, _⟩ := h; cases h; exact h3 rfl
    subst hc
    have hl : l = [] := List.length_eq_zero_iff.1 (by omega)
    subst hl
    clear h HH
    have kn := fun A l c w => run_slice_is_nil Tryd.underlying25 A l c w
    go_enter Tryd.func84, Tryd.ntmps84
    go_wp2
    go_ret
    exact ⟨_, rfl, OwnS.nil _ _ _, Fr.refl _ _, fun b hb => by simp [Value.ownBlock] at hb⟩
  | some a =>
    clear h
    have kn := fun A l c w => run_slice_is_nil Tryd.underlying25 A l c w
    have hrow : RowIn (w.alloc (.cells #[] 91)) S 7 (.slice (some a) l.length cap) l.length (encSs l) := HH.out.fr (T := Nob) ((Fr.refl _ _).alloc _) (fun _ _ hf => hf)
    have HR := Lib.hid hrow
    clear hrow HH
    go_enter Tryd.func84, Tryd.ntmps84
    go_wp2_with (at_builtin; refine wpList_app _ rfl _ _ 25 rfl 91 i0 _ 7 56 Tryd.underlying25 hi hz0 hz1 hz2 rfl (by decide) _ 0 [] rfl (OwnS.new0 w 91 7) S _ l.length (encSs l) rfl HR.out ?c1 ?c2 ?c3 ?_)
    case c1 => exact encSs_one l
    case c2 => unfold maxLen at *; omega
    case c3 => omega
    intro v' w1 hown hfr hat _
    go_wp2
    go_ret
    have hN := app_new (w := w) (NewV.at w 0 0) ((Fr.refl _ _).alloc _) hfr (by simpa using hat)
    exact ⟨v', rfl, by simpa using hown, hN.1, hN.2⟩

/-- A path. -/
structure PS where
  most : Int
  list : List Sg
  start : Pt
  now : Pt
def Pth (w : World) (g : Nat) (v : Value) (p : PS) : Prop :=
  Blk w g #[.int .i64 p.most, v, .int .i64 p.start.x, .int .i64 p.start.y, .int .i64 p.now.x, .int .i64 p.now.y] 131 ∧ OwnS w 91 7 v p.list.length (encSs p.list)
/-- Its blocks. -/
def ptB (g : Nat) (v : Value) : Nat → Prop := fun k => k = g ∨ v.ownBlock = some k
structure PthC (w : World) (g : Nat) (v : Value) (p : PS) : Prop where
  c0 : w.cell? ⟨g, 0, none⟩ = some (.int .i64 p.most)
  c1 : w.cell? ⟨g, 1, none⟩ = some v
  c2 : w.cell? ⟨g, 2, none⟩ = some (.int .i64 p.start.x)
  c3 : w.cell? ⟨g, 3, none⟩ = some (.int .i64 p.start.y)
  c4 : w.cell? ⟨g, 4, none⟩ = some (.int .i64 p.now.x)
  c5 : w.cell? ⟨g, 5, none⟩ = some (.int .i64 p.now.y)
theorem Pth.cells {w : World} {g : Nat} {v : Value} {p : PS} (h : Pth w g v p) : PthC w g v p :=
  ⟨h.1.cell 0, h.1.cell 1, h.1.cell 2, h.1.cell 3, h.1.cell 4, h.1.cell 5⟩
theorem Pth.form {w : World} {g : Nat} {v : Value} {p : PS} (h : Pth w g v p) : ∃ A cap, v = .slice A p.list.length cap ∧ p.list.length ≤ cap ∧ cap ≤ 9223372036854775807 := by
  obtain ⟨A, cap, hv, h1, h2⟩ := h.2.form
  exact ⟨A, cap, hv, h1, by simp only [maxLen] at h2; omega⟩
theorem Pth.fr {w w' : World} {S : Nat → Prop} {g : Nat} {v : Value} {p : PS} (h : Pth w g v p) (hf : Fr S w w') (hd : ∀ k, ptB g v k → ¬ S k) : Pth w' g v p :=
  ⟨h.1.fr hf (hd g (.inl rfl)), h.2.fr hf fun k hk => hd k (.inr hk)⟩
theorem Pth.nob {w w' : World} {g : Nat} {v : Value} {p : PS} (h : Pth w g v p) (hf : Fr Nob w w') : Pth w' g v p := h.fr hf fun _ _ hf => hf
theorem Pth.lt {w : World} {g : Nat} {v : Value} {p : PS} (h : Pth w g v p) : ∀ k, ptB g v k → k < w.heap.size := by
  rintro k (rfl | hk)
  · exact h.1.lt
  · exact h.2.lt k hk
/-- What a step leaves of a path: its new state, the frame, where its list lies. -/
def PthTo (w : World) (g : Nat) (v : Value) (p : PS) (w' : World) : Prop :=
  ∃ v', Pth w' g v' p ∧ Fr (ptB g v) w w' ∧ ∀ b, v'.ownBlock = some b → v.ownBlock = some b ∨ w.heap.size ≤ b
theorem PthTo.same {w : World} {g : Nat} {v : Value} {p : PS} (h : Pth w g v p) {w' : World} (hf : Fr Nob w w') : PthTo w g v p w' :=
  ⟨v, h.nob hf, hf.mono fun _ hf => hf.elim, fun b hb => .inl hb⟩
/-- The kind of the last one. -/
def lastK (l : List Sg) : Int := if h : 0 < l.length then l[l.length - 1].kind else 0

theorem last_any (g : Nat) (v : Value) (p : PS) (w : World) (h : Pth w g v p) :
    Calls Tryd.prog 106 #[.pointer (some ⟨g, 0, none⟩)] w fun e w' => e = .returned (.int .i64 (lastK p.list)) ∧ Fr Nob w w' := by
  have hcc := h.cells.c1
  obtain ⟨A, cap, rfl, h1, h2⟩ := h.form
  by_cases h0 : 0 < p.list.length
  · rw [show lastK p.list = p.list[p.list.length - 1].kind by simp [lastK, h0]]
    obtain ⟨b, cap', hv, _, _, hc⟩ := h.2.sg rfl h0
    cases hv
    have k0 := (hc (p.list.length - 1) (by omega)).c0
    clear hc h
    generalize p.list[p.list.length - 1].kind = s at k0 ⊢
    generalize hn : p.list.length = n at *
    obtain ⟨m, rfl⟩ : ∃ m, n = m + 1 := ⟨n - 1, by omega⟩
    have e1 : m + 1 - 1 = m := rfl
    simp only [e1] at k0
    clear hn
    have e0 : ((m + 1 : Nat) : Int) - 1 = m := by omega
    have e2 : (((m + 1 : Nat) : Int) == 0) = false := by simp; omega
    have i1 : (m : Int) < (m + 1 : Nat) := by omega
    go_enter Tryd.func106, Tryd.ntmps106
    go_wp2
    go_quiet (fail)
    go_wp2
    go_ret
    exact ⟨rfl, (Fr.refl _ _).drewN _⟩
  · rw [show lastK p.list = 0 by simp [lastK, h0]]
    obtain hz : p.list.length = 0 := by omega
    clear h
    rw [hz] at hcc
    clear hz h0 h1
    go_enter Tryd.func106, Tryd.ntmps106
    go_wp2
    go_ret
    exact ⟨rfl, Fr.refl _ _⟩
end Go.Proofs.YtkkejjfmidgciaaDoor
/- The walks of add, New, Clear, Segments, Current, of the calls of no path. -/
namespace Go.Proofs.YtkkejjfmidgciaaDoor
open Go.RowKit
set_option linter.unusedVariables false
set_option linter.unusedSimpArgs false
def addF (p : PS) (to : Pt) (m : List Sg) : Int × PS := if p.most < p.list.length + m.length then (9, p) else (0, { p with list := p.list ++ m, now := to })
theorem Pth.drewN {w : World} {g : Nat} {v : Value} {p : PS} (h : Pth w g v p) (n : Nat) : Pth (w.drewN n) g v p := h
theorem Pth.putNow {w : World} {g : Nat} {v v' : Value} {p : PS} {n : Nat} {cs : List Value} (l : List Sg) (to : Pt) (h1 : Blk w g #[.int .i64 p.most, v, .int .i64 p.start.x, .int .i64 p.start.y, .int .i64 p.now.x, .int .i64 p.now.y] 131) (ho : OwnS w 91 7 v' n cs) (hn : n = l.length) (hc : cs = encSs l) :
    Pth (((w.setCell ⟨g, 1, none⟩ v').setCell ⟨g, 4, none⟩ (.int .i64 to.x)).setCell ⟨g, 5, none⟩ (.int .i64 to.y)) g v' { p with list := l, now := to } := by
  subst hn; subst hc
  refine ⟨((h1.set 1 v').set 4 _).set 5 _, ho.fr ((((Fr.refl (fun k => k = g) w).setCell (p := ⟨g, 1, none⟩) (.inl rfl) v').setCell (p := ⟨g, 4, none⟩) (.inl rfl) _).setCell (p := ⟨g, 5, none⟩) (.inl rfl) _) fun k hk e => ?_⟩
  exact ho.ne h1 (by decide) k hk e
theorem add_over (g : Nat) (v : Value) (p : PS) (to : Pt) (A : Option Addr) (n cap : Nat) (w : World) (h : Pth w g v p) (hm : -9223372036854775808 ≤ p.most ∧ p.most ≤ 9223372036854775807) (hb : p.list.length + n ≤ 1000000000000)
    (ho : p.most < p.list.length + n) :
    Calls Tryd.prog 107 #[.pointer (some ⟨g, 0, none⟩), ptV to, .slice A n cap] w fun e w' => e = .returned (.int .i64 9) ∧ Fr Nob w w' := by
  have hf := (Fr.refl Nob w).alloc (.cells #[.int .i64 to.x, .int .i64 to.y] 56)
  have hcc := (h.nob hf).cells
  have hc0 := hcc.c0
  have hc1 := hcc.c1
  obtain ⟨A', cap', rfl, h1, h2⟩ := h.form
  have hf := Lib.hid hf
  clear h hcc
  unfold ptV
  go_enter Tryd.func107, Tryd.ntmps107
  go_wp2
  go_quiet (fail)
  go_wp2
  go_ret
  exact ⟨rfl, hf.out.drewN _⟩
set_option maxHeartbeats 400000 in
theorem add_in (g : Nat) (v : Value) (p : PS) (to : Pt) (x : Value) (m : List Sg) (S : Nat → Prop) (w : World) (h : Pth w g v p) (hx : RowIn w S 7 x m.length (encSs m)) (hS : ∀ k, S k → ¬ ptB g v k) (hm : -9223372036854775808 ≤ p.most ∧ p.most ≤ 9223372036854775807) (hb : p.list.length + m.length ≤ 1000000000000)
    (ho : ¬ p.most < p.list.length + m.length) :
    Calls Tryd.prog 107 #[.pointer (some ⟨g, 0, none⟩), ptV to, x] w fun e w' => e = .returned (.int .i64 0) ∧ PthTo w g v { p with list := p.list ++ m, now := to } w' := by
  obtain ⟨i0, hi, hz0, hz1, hz2⟩ := info_parts info43
  have hf := (Fr.refl Nob w).alloc (.cells #[.int .i64 to.x, .int .i64 to.y] 56)
  have hbk := Blk.new w #[.int .i64 to.x, .int .i64 to.y] 56
  have hpa := h.nob hf
  have hcc := hpa.cells
  have hc0 := hcc.c0
  have hc1 := hcc.c1
  obtain ⟨A', cap', rfl, h1, h2⟩ := h.form
  obtain ⟨A, cap, rfl, _, _⟩ : ∃ A c, x = .slice A m.length c ∧ m.length ≤ c ∧ c ≤ maxLen := by obtain ⟨_, A, c, h, h1, h2, _⟩ := hx; exact ⟨A, c, h, h1, h2⟩
  have HX := Lib.hid (hx.fr hf fun _ _ hf => hf)
  have HH := Lib.hid hpa
  have hf := Lib.hid hf
  have HBK := Lib.hid hbk
  have HLT := Lib.hid h.lt
  clear h hcc hx hpa hbk
  obtain ⟨p', hp'⟩ : ∃ p' : PS, p' = { p with list := p.list ++ m, now := to } := ⟨_, rfl⟩
  rw [← hp']
  replace hp' := Lib.hid hp'
  have hdec : decide (p.most < ↑p.list.length + ↑m.length) = false := by simpa using ho
  unfold ptV
  go_enter Tryd.func107, Tryd.ntmps107
  go_wp2
  generalize w.alloc (.cells #[.int .i64 to.x, .int .i64 to.y] 56) = wa at *
  go_quiet (fail)
  have HH2 := Lib.hid (HH.out.drewN nq)
  have HX2 := Lib.hid (HX.out.fr ((Fr.refl Nob wa).drewN nq) fun _ _ hf => hf)
  have hf2 := Lib.hid (hf.out.drewN nq)
  have HBK2 := Lib.hid (HBK.out.drewN nq)
  clear HH HX hf HBK hc0 hc1
  generalize wa.drewN nq = wb at *
  have hc1 := HH2.out.cells.c1
  go_wp2_with (at_builtin; refine wpList_app _ rfl _ _ 25 rfl 91 i0 _ 7 56 Tryd.underlying25 hi hz0 hz1 hz2 rfl (by decide) _ p.list.length (encSs p.list) rfl HH2.out.2 S _ m.length (encSs m) rfl HX2.out ?c1 ?c2 ?c3 ?_)
  case c1 => exact encSs_one m
  case c2 => unfold maxLen at *; omega
  case c3 => omega
  intro v' w1 hown hfr hat _
  obtain ⟨A1, cap1, rfl, _, _⟩ := hown.form
  have hg := fun k hk => HH2.out.2.ne HH2.out.1 (by decide) k hk
  have hb1 : Blk w1 g _ 131 := HH2.out.1.fr hfr fun hh => hg g hh rfl
  have hk1 : Blk w1 w.heap.size _ 56 := HBK2.out.fr hfr fun hh => by
    have := HLT.out w.heap.size (.inr hh); omega
  have k3 := hb1.cell 1
  have k4 := hb1.cell 4
  have k5 := hb1.cell 5
  have q3 := hb1.free 1
  have q4 := hb1.free 4
  have q5 := hb1.free 5
  have t0 := hk1.cell 0
  have t1 := hk1.cell 1
  simp only [List.getElem?_toArray, List.getElem?_cons_succ, List.getElem?_cons_zero] at k3 k4 k5 t0 t1
  have hgw : g ≠ w.heap.size := by have := HLT.out g (.inl rfl); omega
  have HB1 := Lib.hid hb1
  have HO1 := Lib.hid hown
  have HF1 := Lib.hid hfr
  have HAT := Lib.hid hat
  clear hg hb1 hown hfr hat hk1
  go_wp2
  go_ret
  refine ⟨rfl, _, hp'.out ▸ Pth.putNow (p := p) (p.list ++ m) to HB1.out HO1.out (by simp) (by simp [encSs_append]), ?_, ?_⟩
  · refine ((((hf2.out.mono (T := ptB g (.slice A' p.list.length cap')) fun _ hf => hf.elim).trans (HF1.out.mono (T := ptB g (.slice A' p.list.length cap')) fun k hk => .inr hk) fun k hk => .inl hk).setCell (.inl (.inl rfl)) _).setCell (.inl (.inl rfl)) _).setCell (.inl (.inl rfl)) _
  · intro b hb
    rcases HAT.out with e | e
    · exact .inl (e ▸ hb)
    · rw [e] at hb; cases hb; exact .inr hf2.out.size
end Go.Proofs.YtkkejjfmidgciaaDoor
/- The walks of New, Segments, Current, Clear, draw, Line, Curve, Close. -/
namespace Go.Proofs.YtkkejjfmidgciaaDoor
open Go.RowKit
set_option linter.unusedVariables false
set_option linter.unusedSimpArgs false
/-- The bounds under which a path's calls are walked. -/
structure PB (p : PS) : Prop where
  lo : -9223372036854775808 ≤ p.most
  hi : p.most ≤ 9223372036854775807
  len : p.list.length ≤ 999999999990
theorem add_any (g : Nat) (v : Value) (p : PS) (to : Pt) (x : Value) (m : List Sg) (S : Nat → Prop) (w : World) (h : Pth w g v p) (hx : RowIn w S 7 x m.length (encSs m)) (hS : ∀ k, S k → ¬ ptB g v k) (hb : PB p) (hm : m.length ≤ 2) :
    Calls Tryd.prog 107 #[.pointer (some ⟨g, 0, none⟩), ptV to, x] w fun e w' => e = .returned (.int .i64 (addF p to m).1) ∧ PthTo w g v (addF p to m).2 w' := by
  have hlen := hb.len
  by_cases ho : p.most < p.list.length + m.length
  · obtain ⟨A, cap, rfl, _, _⟩ : ∃ A c, x = .slice A m.length c ∧ m.length ≤ c ∧ c ≤ maxLen := by obtain ⟨_, A, c, h, h1, h2, _⟩ := hx; exact ⟨A, c, h, h1, h2⟩
    refine (add_over g v p to A m.length cap w h ⟨hb.lo, hb.hi⟩ (by omega) ho).mono ?_
    rintro e w' ⟨rfl, hf⟩
    simp only [addF, if_pos ho]
    exact ⟨trivial, PthTo.same h hf⟩
  · refine (add_in g v p to x m S w h hx hS ⟨hb.lo, hb.hi⟩ (by omega) ho).mono ?_
    rintro e w' ⟨rfl, hf⟩
    simp only [addF, if_neg ho]
    exact ⟨trivial, hf⟩
theorem new_any (most : Int) (w : World) :
    Calls Tryd.prog 70 #[.int .i64 most] w fun e w' => e = .returned (.pointer (some ⟨w.heap.size, 0, none⟩)) ∧ Pth w' w.heap.size (.slice none 0 0) ⟨most, [], oo, oo⟩ ∧ Fr Nob w w' := by
  go_enter Tryd.func70, Tryd.ntmps70
  go_wp2
  go_ret
  exact ⟨rfl, ⟨Blk.new _ _ _, OwnS.nil _ _ _⟩, (Fr.refl _ _).alloc _⟩
theorem seg_any (g : Nat) (v : Value) (p : PS) (w : World) (h : Pth w g v p) (hb : PB p) :
    Calls Tryd.prog 34 #[.pointer (some ⟨g, 0, none⟩)] w fun e w' => ∃ vo, e = .returned vo ∧ OwnS w' 91 7 vo p.list.length (encSs p.list) ∧ Fr Nob w w' ∧ NewV w vo := by
  have c1 := h.cells.c1
  have HH := Lib.hid h
  have hs := hb.len
  obtain ⟨A, cap, rfl, h1, h2⟩ := h.form
  clear h hb
  go_enter Tryd.func34, Tryd.ntmps34
  go_wp2_with fail
  refine (clone_any _ p.list _ _ HH.out.2.row (by omega)).mono ?_
  rintro e w1 ⟨vo, rfl, ho, hf, hn⟩
  go_wp2
  go_ret
  exact ⟨vo, rfl, ho, hf, hn⟩
theorem seg_none (w : World) : Calls Tryd.prog 34 #[.pointer none] w fun e w' => e = .returned (.slice none 0 0) ∧ w = w' := by
  go_enter Tryd.func34, Tryd.ntmps34
  go_wp2
  go_ret
  exact ⟨rfl, rfl⟩
theorem copy_none (w : World) : Calls Tryd.prog 90 #[.pointer none] w fun e w' => e = .returned (.pointer none) ∧ w = w' := by
  go_enter Tryd.func90, Tryd.ntmps90
  go_wp2
  go_ret
  exact ⟨rfl, rfl⟩
theorem clear_none (w : World) : Calls Tryd.prog 81 #[.pointer none] w fun e w' => e = .returned (.tuple #[]) ∧ w = w' := by
  go_enter Tryd.func81, Tryd.ntmps81
  go_wp2
  go_end0
  exact ⟨rfl, rfl⟩
theorem move_none (a : Pt) (w : World) : Calls Tryd.prog 64 #[.pointer none, ptV a] w fun e w' => e = .returned (.int .i64 21) ∧ Fr Nob w w' := by
  unfold ptV
  go_enter Tryd.func64, Tryd.ntmps64
  go_wp2
  go_ret
  exact ⟨rfl, (Fr.refl _ _).alloc _⟩
theorem line_none (a : Pt) (w : World) : Calls Tryd.prog 82 #[.pointer none, ptV a] w fun e w' => e = .returned (.int .i64 21) ∧ Fr Nob w w' := by
  unfold ptV
  go_enter Tryd.func82, Tryd.ntmps82
  go_wp2
  go_ret
  exact ⟨rfl, (Fr.refl _ _).alloc _⟩
theorem cur_none (w : World) : Calls Tryd.prog 120 #[.pointer none] w fun e w' => e = .returned (.tuple #[ptV oo, .int .i64 21]) ∧ Fr Nob w w' := by
  unfold ptV oo
  have hb := Blk.new w #[.int .i64 0, .int .i64 0] 56
  have HB := Lib.hid hb
  clear hb
  go_enter Tryd.func120, Tryd.ntmps120
  go_wp2
  exact bodyPost_ret (results_ct rfl _ _ _ 56 _ _ rfl HB.out Tryd.underlying56 rfl (by kernel_rfl)) rfl ⟨rfl, (Fr.refl _ _).alloc _⟩

theorem clear_any (g : Nat) (v : Value) (p : PS) (w : World) (h : Pth w g v p) :
    Calls Tryd.prog 81 #[.pointer (some ⟨g, 0, none⟩)] w fun e w' => e = .returned (.tuple #[]) ∧ PthTo w g v { p with list := [], start := oo, now := oo } w' := by
  have hc := h.cells
  have c1 := hc.c1
  have c2 := hc.c2
  have c3 := hc.c3
  have c4 := hc.c4
  have c5 := hc.c5
  have f1 := h.1.free 1
  have f2 := h.1.free 2
  have f3 := h.1.free 3
  have f4 := h.1.free 4
  have f5 := h.1.free 5
  have HH := Lib.hid h
  clear h hc
  obtain ⟨p', hp'⟩ : ∃ p' : PS, p' = { p with list := [], start := oo, now := oo } := ⟨_, rfl⟩
  rw [← hp']
  replace hp' := Lib.hid hp'
  go_enter Tryd.func81, Tryd.ntmps81
  go_wp2
  go_end0
  refine ⟨rfl, .slice none 0 0, ?_, ((((((Fr.refl _ w).setCell (.inl (.inl rfl)) _).setCell (.inl (.inl rfl)) _).setCell (.inl (.inl rfl)) _).setCell (.inl (.inl rfl)) _).setCell (.inl (.inl rfl)) _), fun b hb => by simp [Value.ownBlock] at hb⟩
  rw [hp'.out]
  exact ⟨((((HH.out.1.set 1 _).set 2 _).set 3 _).set 4 _).set 5 _, OwnS.nil _ _ _⟩
theorem cur_any (g : Nat) (v : Value) (p : PS) (w : World) (h : Pth w g v p) :
    Calls Tryd.prog 120 #[.pointer (some ⟨g, 0, none⟩)] w fun e w' => e = .returned (.tuple #[ptV (if p.list.length = 0 then oo else p.now), .int .i64 (if p.list.length = 0 then 10 else 0)]) ∧ Fr Nob w w' := by
  have hf := (Fr.refl Nob w).alloc (.cells #[.int .i64 0, .int .i64 0] 56)
  have hc := (h.nob hf).cells
  have hgw : g ≠ w.heap.size := by have := h.1.lt; omega
  have c1 := hc.c1
  have c4 := hc.c4
  have c5 := hc.c5
  obtain ⟨A, cap, rfl, h1, h2⟩ := h.form
  unfold ptV oo
  by_cases h0 : p.list.length = 0
  · have hb := Blk.new w #[.int .i64 0, .int .i64 0] 56
    rw [if_pos h0, if_pos h0]
    rw [h0] at c1
    have HB := Lib.hid hb
    clear hb hf hc h h0 h1
    go_enter Tryd.func120, Tryd.ntmps120
    go_wp2
    exact bodyPost_ret (results_ct rfl _ _ _ 56 _ _ rfl HB.out Tryd.underlying56 rfl (by kernel_rfl)) rfl ⟨rfl, (Fr.refl _ _).alloc _⟩
  · have hb := Blk.new w #[.int .i64 p.now.x, .int .i64 p.now.y] 56
    rw [if_neg h0, if_neg h0]
    have HB := Lib.hid hb
    have i0 : ((p.list.length : Int) == 0) = false := beq_eq_false_iff_ne.2 (by omega)
    clear hb hf hc h
    go_enter Tryd.func120, Tryd.ntmps120
    go_wp2
    exact bodyPost_ret (results_ct rfl _ _ _ 56 _ _ rfl HB.out Tryd.underlying56 rfl (by kernel_rfl)) rfl ⟨rfl, (Fr.refl _ _).alloc _⟩

/-- A segment, and as values. -/
def closeS : Sg := ⟨4, oo, oo, oo⟩
def moveS (a : Pt) : Sg := ⟨1, a, oo, oo⟩
def lineS (a : Pt) : Sg := ⟨2, a, oo, oo⟩
theorem RowIn.sgs (w : World) (l : List Sg) (hl : l.length ≤ 2) : RowIn (w.alloc (.cells (encSs l).toArray 91)) (fun k => k = w.heap.size) 7 (.slice (some ⟨w.heap.size, 0, none⟩) l.length l.length) l.length (encSs l) := by
  have := RowIn.lit w 91 7 (encSs l).toArray l.length (by simp [encSs_len]) (by unfold maxLen; omega)
  simpa using this
def closeF (p : PS) : Int × PS := if lastK p.list = 0 ∨ lastK p.list = 4 then (0, p) else addF p p.start [closeS]
end Go.Proofs.YtkkejjfmidgciaaDoor
/- The walks of draw, Line, Curve. -/
namespace Go.Proofs.YtkkejjfmidgciaaDoor
open Go.RowKit
set_option linter.unusedVariables false
set_option linter.unusedSimpArgs false
theorem PthTo.after {w w2 w3 : World} {g : Nat} {v : Value} {p : PS} (h : PthTo w2 g v p w3) (hf : Fr Nob w w2) : PthTo w g v p w3 := by
  obtain ⟨v', hp, hfr, hv⟩ := h
  exact ⟨v', hp, (hf.mono fun _ hf => hf.elim).trans hfr fun k hk => .inl hk, fun b hb => by
    rcases hv b hb with h | h
    · exact .inl h
    · exact .inr (Nat.le_trans hf.size h)⟩
def sgV (s : Sg) : Value := .agg #[.int .i64 s.kind, .int .i64 s.a.x, .int .i64 s.a.y, .int .i64 s.b.x, .int .i64 s.b.y, .int .i64 s.c.x, .int .i64 s.c.y]
def drawF (p : PS) (s : Sg) (to : Pt) : Int × PS := if lastK p.list = 0 then (10, p) else if lastK p.list = 4 then addF p to [moveS p.now, s] else addF p to [s]
/-- A segment in a block of its own. -/
theorem SgAt.own {w : World} {g : Nat} {s : Sg} (h : Blk w g (encS s).toArray 91) : SgAt w g 0 s := ⟨h.cell 0, h.cell 1, h.cell 2, h.cell 3, h.cell 4, h.cell 5, h.cell 6⟩
set_option maxRecDepth 8000 in
set_option maxHeartbeats 1600000 in
theorem draw_any (g : Nat) (v : Value) (p : PS) (s : Sg) (to : Pt) (w : World) (h : Pth w g v p) (hb : PB p) :
    Calls Tryd.prog 119 #[.pointer (some ⟨g, 0, none⟩), sgV s, ptV to] w fun e w' => e = .returned (.int .i64 (drawF p s to).1) ∧ PthTo w g v (drawF p s to).2 w' := by
  obtain ⟨ws, hws⟩ : ∃ ws, ws = (w.alloc (.cells (encS s).toArray 91)).alloc (.cells (encP to).toArray 56) := ⟨_, rfl⟩
  have b1 : Blk ws w.heap.size (encS s).toArray 91 := by rw [hws]; exact (Blk.new w _ _).alloc _
  have b2 : Blk ws (w.heap.size + 1) (encP to).toArray 56 := by
    have := Blk.new (w.alloc (.cells (encS s).toArray 91)) (encP to).toArray 56
    rw [hws]; simpa using this
  have hf : Fr Nob w ws := by rw [hws]; exact ((Fr.refl Nob w).alloc _).alloc _
  have HH := Lib.hid (h.nob hf)
  have HL := Lib.hid h.lt
  have B1 := Lib.hid b1
  have B2 := Lib.hid b2
  have HF := Lib.hid hf
  have HB := Lib.hid hb
  clear h b1 b2 hf hb
  unfold sgV ptV
  obtain ⟨r, hr⟩ : ∃ r, drawF p s to = r := ⟨_, rfl⟩
  rw [hr]
  have hws' : (w.alloc (.cells #[.int .i64 s.kind, .int .i64 s.a.x, .int .i64 s.a.y, .int .i64 s.b.x, .int .i64 s.b.y, .int .i64 s.c.x, .int .i64 s.c.y] 91)).alloc (.cells #[.int .i64 to.x, .int .i64 to.y] 56) = ws := hws.symm
  replace hws := Lib.hid hws'
  clear hws'
  by_cases h0 : lastK p.list = 0
  · have hr2 : r = (10, p) := by rw [← hr]; simp [drawF, h0]
    subst hr2
    clear hr
    go_enter Tryd.func119, Tryd.ntmps119
    go_wp2_with fail
    rw [hws.out]
    refine (last_any g v p _ HH.out).mono ?_
    rw [h0]
    rintro e w1 ⟨rfl, hf⟩
    have HF1 := Lib.hid hf
    clear hf
    go_wp2_with fail
    go_ret
    exact ⟨rfl, (PthTo.same HH.out HF1.out).after HF.out⟩
  have e0 : (lastK p.list == 0) = false := by simpa using h0
  by_cases h4 : lastK p.list = 4
  · have hr2 : addF p to [moveS p.now, s] = r := by rw [← hr]; simp [drawF, h4]
    have hr' := Lib.hid hr2
    have H4 := Lib.hid h4
    clear hr2 hr h0 h4
    go_enter Tryd.func119, Tryd.ntmps119
    go_wp2_with fail
    rw [hws.out]
    refine (last_any g v p _ HH.out).mono ?_
    rw [H4.out]
    rintro e w1 ⟨rfl, hf⟩
    have hp1 := HH.out.nob hf
    have hc := hp1.cells
    have c4 := hc.c4
    have c5 := hc.c5
    have hs := SgAt.own (B1.out.fr hf fun hh => hh)
    obtain ⟨s0, s1, s2, s3, s4, s5, s6⟩ := hs
    have t0 := (B2.out.fr hf fun hh => hh).cell 0
    have t1 := (B2.out.fr hf fun hh => hh).cell 1
    simp only [List.getElem?_toArray, encP, List.getElem?_cons_succ, List.getElem?_cons_zero] at t0 t1
    have HF1 := Lib.hid hf
    have HP := Lib.hid hp1
    clear hf hc hp1
    go_wp2_with fail
    have ha := (Fr.refl Nob w1).alloc (.cells #[.int .i64 1, .int .i64 p.now.x, .int .i64 p.now.y, .int .i64 0, .int .i64 0, .int .i64 0, .int .i64 0, .int .i64 s.kind, .int .i64 s.a.x, .int .i64 s.a.y, .int .i64 s.b.x, .int .i64 s.b.y, .int .i64 s.c.x, .int .i64 s.c.y] 91)
    have hr : RowIn (w1.alloc (.cells #[.int .i64 1, .int .i64 p.now.x, .int .i64 p.now.y, .int .i64 0, .int .i64 0, .int .i64 0, .int .i64 0, .int .i64 s.kind, .int .i64 s.a.x, .int .i64 s.a.y, .int .i64 s.b.x, .int .i64 s.b.y, .int .i64 s.c.x, .int .i64 s.c.y] 91)).drew (fun k => k = w1.heap.size) 7 (.slice (some ⟨w1.heap.size, 0, none⟩) 2 2) 2 (encSs [moveS p.now, s]) := (RowIn.sgs w1 [moveS p.now, s] (by simp)).fr ((Fr.refl Nob _).drew) fun _ _ hf => hf
    have hA := add_any g v p to _ [moveS p.now, s] _ _ (HP.out.nob ha.drew) hr (fun k hk hb => by
      have := HL.out k hb
      have := HF.out.size
      have := HF1.out.size
      omega) HB.out (by simp)
    rw [hr'.out] at hA
    unfold ptV at hA
    have HA := Lib.hid hA
    have HX := Lib.hid (HF1.out.trans0 ha.drew)
    have u0 := cell_nob t0 ha
    have u1 := cell_nob t1 ha
    clear ha hr hA
    go_region_with (go_at_call 107; refine HA.out.mono ?_; rintro e w3 ⟨rfl, hq⟩)
    all_goals
      have HQ := Lib.hid ((hq.after HX.out).after HF.out)
      clear hq
      go_wp2_with fail
      go_ret
      exact ⟨rfl, HQ.out⟩
  · have e4 : (lastK p.list == 4) = false := by simpa using h4
    have hr2 : addF p to [s] = r := by rw [← hr]; simp [drawF, h0, h4]
    have hr' := Lib.hid hr2
    clear hr hr2 h0 h4
    go_enter Tryd.func119, Tryd.ntmps119
    go_wp2_with fail
    rw [hws.out]
    refine (last_any g v p _ HH.out).mono ?_
    rintro e w1 ⟨rfl, hf⟩
    have hp1 := HH.out.nob hf
    have hs := SgAt.own (B1.out.fr hf fun hh => hh)
    obtain ⟨s0, s1, s2, s3, s4, s5, s6⟩ := hs
    have t0 := (B2.out.fr hf fun hh => hh).cell 0
    have t1 := (B2.out.fr hf fun hh => hh).cell 1
    simp only [List.getElem?_toArray, encP, List.getElem?_cons_succ, List.getElem?_cons_zero] at t0 t1
    have HF1 := Lib.hid hf
    have HP := Lib.hid hp1
    clear hf hp1
    go_wp2_with fail
    have hr := RowIn.sgs w1 [s] (by simp)
    have ha := (Fr.refl Nob w1).alloc (.cells (encSs [s]).toArray 91)
    refine (add_any g v p to _ [s] _ _ (HP.out.nob ha) hr (fun k hk hb => ?_) HB.out (by simp)).mono ?_
    · have := HL.out k hb
      have := HF.out.size
      have := HF1.out.size
      omega
    rw [hr'.out]
    rintro e w3 ⟨rfl, hq⟩
    have HQ := Lib.hid ((hq.after (HF1.out.trans0 ha)).after HF.out)
    clear hq ha hr
    go_wp2_with fail
    go_ret
    exact ⟨rfl, HQ.out⟩
def lineF (p : PS) (a : Pt) : Int × PS := if fitP a then drawF p (lineS a) a else (11, p)
def curveF (p : PS) (a b c : Pt) : Int × PS := if [a, b, c].all fitP then drawF p ⟨3, a, b, c⟩ c else (11, p)
theorem RowIn.pts (w : World) (l : List Pt) (hl : l.length ≤ 3) : RowIn (w.alloc (.cells (encPs l).toArray 56)) (fun k => k = w.heap.size) 2 (.slice (some ⟨w.heap.size, 0, none⟩) l.length l.length) l.length (encPs l) := by
  have := RowIn.lit w 56 2 (encPs l).toArray l.length (by simp [encPs_len]) (by unfold maxLen; omega)
  simpa using this
set_option maxRecDepth 8000 in
set_option maxHeartbeats 1600000 in
theorem line_any (g : Nat) (v : Value) (p : PS) (a : Pt) (w : World) (h : Pth w g v p) (hb : PB p) :
    Calls Tryd.prog 82 #[.pointer (some ⟨g, 0, none⟩), ptV a] w fun e w' => e = .returned (.int .i64 (lineF p a).1) ∧ PthTo w g v (lineF p a).2 w' := by
  obtain ⟨ws, hws⟩ : ∃ ws, w.alloc (.cells #[.int .i64 a.x, .int .i64 a.y] 56) = ws := ⟨_, rfl⟩
  have b1 : Blk ws w.heap.size (encP a).toArray 56 := by rw [← hws]; exact Blk.new w _ _
  have hf : Fr Nob w ws := by rw [← hws]; exact (Fr.refl Nob w).alloc _
  have hsz : ws.heap.size = w.heap.size + 1 := by rw [← hws]; simp
  have HZ := Lib.hid hsz
  clear hsz
  have c0 := b1.cell 0
  have c1 := b1.cell 1
  simp only [List.getElem?_toArray, encP, List.getElem?_cons_succ, List.getElem?_cons_zero] at c0 c1
  have HH := Lib.hid (h.nob hf)
  have B1 := Lib.hid b1
  have HF := Lib.hid hf
  have HW := Lib.hid hws
  clear h b1 hf hws
  obtain ⟨r, hr⟩ : ∃ r, lineF p a = r := ⟨_, rfl⟩
  rw [hr]
  unfold ptV
  have e1 : [a].all fitP = fitP a := by simp
  by_cases h0 : fitP a
  · have hr2 : drawF p (lineS a) a = r := by rw [← hr]; simp [lineF, h0]
    have hr' := Lib.hid hr2
    rw [h0] at e1
    have E1 := Lib.hid e1
    clear hr hr2 h0 e1
    go_enter Tryd.func82, Tryd.ntmps82
    go_wp2_with fail
    rw [HW.out, ← HZ.out]
    refine (fits_any _ [a] _ _ (RowIn.pts ws [a] (by simp))).mono ?_
    rw [E1.out]
    rintro e w1 ⟨rfl, hf⟩
    have hf1 := ((Fr.refl Nob ws).alloc (.cells (encPs [a]).toArray 56)).trans0 hf
    have d0 := cell_nob c0 hf1
    have d1 := cell_nob c1 hf1
    have HF1 := Lib.hid hf1
    clear hf hf1 c0 c1
    go_wp2_with fail
    refine (draw_any g v p (lineS a) a _ (HH.out.nob HF1.out) hb).mono ?_
    rw [hr'.out]
    rintro e w3 ⟨rfl, hq⟩
    have HQ := Lib.hid ((hq.after HF1.out).after HF.out)
    clear hq
    go_wp2_with fail
    go_ret
    exact ⟨rfl, HQ.out⟩
  · have hr2 : r = (11, p) := by rw [← hr]; simp [lineF, h0]
    subst hr2
    rw [show fitP a = false by simpa using h0] at e1
    have E1 := Lib.hid e1
    clear hr h0 e1
    go_enter Tryd.func82, Tryd.ntmps82
    go_wp2_with fail
    rw [HW.out, ← HZ.out]
    refine (fits_any _ [a] _ _ (RowIn.pts ws [a] (by simp))).mono ?_
    rw [E1.out]
    rintro e w1 ⟨rfl, hf⟩
    have HF1 := Lib.hid (((Fr.refl Nob ws).alloc (.cells (encPs [a]).toArray 56)).trans0 hf)
    clear hf
    go_wp2_with fail
    go_ret
    exact ⟨rfl, (PthTo.same HH.out HF1.out).after HF.out⟩
end Go.Proofs.YtkkejjfmidgciaaDoor
/- The walks of Move, Curve. -/
namespace Go.Proofs.YtkkejjfmidgciaaDoor
open Go.RowKit
set_option linter.unusedVariables false
set_option linter.unusedSimpArgs false
/-- A segment is stored into a place of a list. -/
theorem OwnS.setSg {w : World} {v : Value} {n b : Nat} {l : List Sg} (h : OwnS w 91 7 v n (encSs l)) (hv : v.ownBlock = some b) (hl : l.length = n) (k : Nat) (hk : k < l.length) (x : Sg) :
    OwnS (((((((w.setCell ⟨b, k * 7, none⟩ (.int .i64 x.kind)).setCell ⟨b, k * 7 + 1, none⟩ (.int .i64 x.a.x)).setCell ⟨b, k * 7 + 2, none⟩ (.int .i64 x.a.y)).setCell ⟨b, k * 7 + 3, none⟩ (.int .i64 x.b.x)).setCell ⟨b, k * 7 + 4, none⟩ (.int .i64 x.b.y)).setCell ⟨b, k * 7 + 5, none⟩ (.int .i64 x.c.x)).setCell ⟨b, k * 7 + 6, none⟩ (.int .i64 x.c.y)) 91 7 v n (encSs (l.set k x)) := by
  subst hl
  have h8 := (((((((h.store hv (k * 7) (by omega) (.int .i64 x.kind)).store hv (k * 7 + 1) (by omega) (.int .i64 x.a.x)).store hv (k * 7 + 2) (by omega) (.int .i64 x.a.y)).store hv (k * 7 + 3) (by omega) (.int .i64 x.b.x)).store hv (k * 7 + 4) (by omega) (.int .i64 x.b.y)).store hv (k * 7 + 5) (by omega) (.int .i64 x.c.x)).store hv (k * 7 + 6) (by omega) (.int .i64 x.c.y))
  have e : ((((((((encSs l).set (k * 7) (.int .i64 x.kind)).set (k * 7 + 1) (.int .i64 x.a.x)).set (k * 7 + 2) (.int .i64 x.a.y)).set (k * 7 + 3) (.int .i64 x.b.x)).set (k * 7 + 4) (.int .i64 x.b.y)).set (k * 7 + 5) (.int .i64 x.c.x)).set (k * 7 + 6) (.int .i64 x.c.y)) = encSs (l.set k x) := by
    clear h h8 hv
    induction l generalizing k with
    | nil => simp at hk
    | cons a r ih =>
      cases k with
      | zero => simp [encSs, encS]
      | succ k =>
        have hr := ih k (by simpa using hk)
        rw [List.set_cons_succ, encSs_cons, encSs_cons, ← hr]
        have hs : ∀ (i : Nat) (u : Value) (t : List Value), (encS a ++ t).set ((k + 1) * 7 + i) u = encS a ++ t.set (k * 7 + i) u := fun i u t => by
          rw [List.set_append_right _ _ (by simp [encS]; omega)]
          congr 2
          simp [encS]; omega
        have h0 := hs 0
        simp only [Nat.add_zero] at h0
        rw [h0, hs, hs, hs, hs, hs, hs]
  rw [e] at h8
  exact h8
theorem sg_set_fr (w : World) (b o : Nat) (x : Sg) : Fr (fun k => k = b) w (((((((w.setCell ⟨b, o, none⟩ (.int .i64 x.kind)).setCell ⟨b, o + 1, none⟩ (.int .i64 x.a.x)).setCell ⟨b, o + 2, none⟩ (.int .i64 x.a.y)).setCell ⟨b, o + 3, none⟩ (.int .i64 x.b.x)).setCell ⟨b, o + 4, none⟩ (.int .i64 x.b.y)).setCell ⟨b, o + 5, none⟩ (.int .i64 x.c.x)).setCell ⟨b, o + 6, none⟩ (.int .i64 x.c.y)) :=
  ((((((((Fr.refl (fun k => k = b) w).setCell (p := ⟨b, o, none⟩) (.inl rfl) _).setCell (p := ⟨b, o + 1, none⟩) (.inl rfl) _).setCell (p := ⟨b, o + 2, none⟩) (.inl rfl) _).setCell (p := ⟨b, o + 3, none⟩) (.inl rfl) _).setCell (p := ⟨b, o + 4, none⟩) (.inl rfl) _).setCell (p := ⟨b, o + 5, none⟩) (.inl rfl) _).setCell (p := ⟨b, o + 6, none⟩) (.inl rfl) _)
def moveF (p : PS) (a : Pt) : Int × PS :=
  if fitP a then
    if lastK p.list = 1 then (0, { p with list := p.list.set (p.list.length - 1) (moveS a), start := a, now := a })
    else if p.most < p.list.length + 1 then (9, p) else (0, { p with list := p.list ++ [moveS a], start := a, now := a })
  else (11, p)
set_option maxRecDepth 8000 in
set_option maxHeartbeats 1600000 in
theorem move_any (g : Nat) (v : Value) (p : PS) (a : Pt) (w : World) (h : Pth w g v p) (hb : PB p) :
    Calls Tryd.prog 64 #[.pointer (some ⟨g, 0, none⟩), ptV a] w fun e w' => e = .returned (.int .i64 (moveF p a).1) ∧ PthTo w g v (moveF p a).2 w' := by
  obtain ⟨ws, hws⟩ : ∃ ws, w.alloc (.cells #[.int .i64 a.x, .int .i64 a.y] 56) = ws := ⟨_, rfl⟩
  have b1 : Blk ws w.heap.size (encP a).toArray 56 := by rw [← hws]; exact Blk.new w _ _
  have hf : Fr Nob w ws := by rw [← hws]; exact (Fr.refl Nob w).alloc _
  have c0 := b1.cell 0
  have c1 := b1.cell 1
  simp only [List.getElem?_toArray, encP, List.getElem?_cons_succ, List.getElem?_cons_zero] at c0 c1
  have hsz : ws.heap.size = w.heap.size + 1 := by rw [← hws]; simp
  have HZ := Lib.hid hsz
  have HL := Lib.hid h.lt
  have HH := Lib.hid (h.nob hf)
  have B1 := Lib.hid b1
  have HF := Lib.hid hf
  have HW := Lib.hid hws
  have HPB := Lib.hid hb
  clear h b1 hf hws hsz hb
  obtain ⟨r, hr⟩ : ∃ r, moveF p a = r := ⟨_, rfl⟩
  rw [hr]
  unfold ptV
  have e1 : [a].all fitP = fitP a := by simp
  by_cases h0 : fitP a
  · rw [h0] at e1
    have E1 := Lib.hid e1
    clear e1
    by_cases h1 : lastK p.list = 1
    · have hr2 : (0, { p with list := p.list.set (p.list.length - 1) (moveS a), start := a, now := a }) = r := by rw [← hr]; simp [moveF, h0, h1]
      have hr' := Lib.hid hr2
      have H1 := Lib.hid h1
      clear hr hr2 h0 h1
      go_enter Tryd.func64, Tryd.ntmps64
      go_wp2_with fail
      rw [HW.out, ← HZ.out]
      refine (fits_any _ [a] _ _ (RowIn.pts ws [a] (by simp))).mono ?_
      rw [E1.out]
      rintro e w1 ⟨rfl, hf⟩
      have hf1 := ((Fr.refl Nob ws).alloc (.cells (encPs [a]).toArray 56)).trans0 hf
      have d0 := cell_nob c0 hf1
      have d1 := cell_nob c1 hf1
      have HF1 := Lib.hid hf1
      clear hf hf1 c0 c1
      go_wp2_with fail
      obtain ⟨w2, hw2⟩ : ∃ w2, w1.alloc (.cells #[.int .i64 1, .int .i64 a.x, .int .i64 a.y, .int .i64 0, .int .i64 0, .int .i64 0, .int .i64 0] 91) = w2 := ⟨_, rfl⟩
      rw [hw2]
      have hf2 : Fr Nob w1 w2 := by rw [← hw2]; exact (Fr.refl Nob w1).alloc _
      have hb2 : Blk w2 w1.heap.size (encS (moveS a)).toArray 91 := by rw [← hw2]; exact Blk.new w1 _ _
      clear hw2
      refine (last_any g v p _ ((HH.out.nob HF1.out).nob hf2)).mono ?_
      rw [H1.out]
      rintro e w3 ⟨rfl, hf3⟩
      have hf13 := HF1.out.trans0 (hf2.trans0 hf3)
      have hb3 := hb2.fr hf3 fun hh => hh
      have hp3 := HH.out.nob hf13
      have hn0 : 0 < p.list.length := by
        rcases Nat.eq_zero_or_pos p.list.length with h | h
        · have := H1.out
          simp [lastK, h] at this
        · exact h
      obtain ⟨b, cap, hv, k1, k2, hsg⟩ := hp3.2.sg rfl hn0
      subst hv
      obtain ⟨m, hm⟩ : ∃ m, p.list.length = m + 1 := ⟨p.list.length - 1, by omega⟩
      obtain ⟨g0, g1, g2, g3, g4, g5, g6⟩ := hsg m (by omega)
      obtain ⟨s0, s1, s2, s3, s4, s5, s6⟩ := SgAt.own hb3
      have x1 := hp3.cells.c1
      have hgb := hp3.2.ne hp3.1 (by decide) b rfl
      have hfz : ∀ j, w3.frozen? ⟨b, j, none⟩ = false := by
        obtain ⟨_, ⟨h0, _⟩ | ⟨g', cap', cur, hv, hb, _⟩⟩ := hp3.2
        · cases h0
        · cases hv; exact hb.free
      have q0 := hfz (m * 7); have q1 := hfz (m * 7 + 1); have q2 := hfz (m * 7 + 2); have q3 := hfz (m * 7 + 3); have q4 := hfz (m * 7 + 4); have q5 := hfz (m * 7 + 5); have q6 := hfz (m * 7 + 6)
      have e0 : ((p.list.length : Nat) : Int) - 1 = m := by omega
      have i1 : (m : Int) < p.list.length := by omega
      have HM := Lib.hid hm
      have HP3 := Lib.hid hp3
      have HB3 := Lib.hid hb3
      have HF3 := Lib.hid hf13
      clear hp3 hb3 hf13 hf3 hf2 hb2 hsg hfz d0 d1
      generalize p.list[m] = y at *
      clear hm
      unfold moveS oo at *
      have wm : IntKind.i64.wrap (m : Int) = m := IntWalk.i64_in _ (by omega)
      go_wp2_with fail
      go_still_tail 12, (by kernel_rfl)
      change wpList _ _ _ _ _ w3.drew
      go_wp2_with fail
      have hfs : Fr (fun k => k = b) w3 (((((((w3.setCell ⟨b, m * 7, none⟩ (.int .i64 1)).setCell ⟨b, m * 7 + 1, none⟩ (.int .i64 a.x)).setCell ⟨b, m * 7 + 2, none⟩ (.int .i64 a.y)).setCell ⟨b, m * 7 + 3, none⟩ (.int .i64 0)).setCell ⟨b, m * 7 + 4, none⟩ (.int .i64 0)).setCell ⟨b, m * 7 + 5, none⟩ (.int .i64 0)).setCell ⟨b, m * 7 + 6, none⟩ (.int .i64 0)).drew := (sg_set_fr w3 b (m * 7) ⟨1, a, ⟨0, 0⟩, ⟨0, 0⟩⟩).drew
      have hos : OwnS (((((((w3.setCell ⟨b, m * 7, none⟩ (.int .i64 1)).setCell ⟨b, m * 7 + 1, none⟩ (.int .i64 a.x)).setCell ⟨b, m * 7 + 2, none⟩ (.int .i64 a.y)).setCell ⟨b, m * 7 + 3, none⟩ (.int .i64 0)).setCell ⟨b, m * 7 + 4, none⟩ (.int .i64 0)).setCell ⟨b, m * 7 + 5, none⟩ (.int .i64 0)).setCell ⟨b, m * 7 + 6, none⟩ (.int .i64 0)).drew 91 7 (.slice (some ⟨b, 0, none⟩) p.list.length cap) p.list.length (encSs (p.list.set m ⟨1, a, ⟨0, 0⟩, ⟨0, 0⟩⟩)) := (HP3.out.2.setSg rfl rfl m (by have := HM.out; omega) ⟨1, a, ⟨0, 0⟩, ⟨0, 0⟩⟩).fr ((Fr.refl Nob _).drew) fun _ _ hf => hf
      generalize (((((((w3.setCell ⟨b, m * 7, none⟩ (.int .i64 1)).setCell ⟨b, m * 7 + 1, none⟩ (.int .i64 a.x)).setCell ⟨b, m * 7 + 2, none⟩ (.int .i64 a.y)).setCell ⟨b, m * 7 + 3, none⟩ (.int .i64 0)).setCell ⟨b, m * 7 + 4, none⟩ (.int .i64 0)).setCell ⟨b, m * 7 + 5, none⟩ (.int .i64 0)).setCell ⟨b, m * 7 + 6, none⟩ (.int .i64 0)).drew = w4 at *
      have hbl := HL.out b (.inr rfl)
      have hgl := HL.out g (.inl rfl)
      have hb4 : Blk w4 w.heap.size (encP a).toArray 56 := (B1.out.fr HF3.out fun hh => hh).fr hfs fun e => by omega
      have hp4 := HP3.out.1.fr hfs fun e => hgb e.symm
      have y0 := hb4.cell 0
      have y1 := hb4.cell 1
      have z2 := hp4.free 2
      have z3 := hp4.free 3
      have z4 := hp4.free 4
      have z5 := hp4.free 5
      have v2 := hp4.cell 2
      have v3 := hp4.cell 3
      have v4 := hp4.cell 4
      have v5 := hp4.cell 5
      simp only [List.getElem?_toArray, encP, List.getElem?_cons_succ, List.getElem?_cons_zero] at y0 y1 v2 v3 v4 v5
      have hgw : g ≠ w.heap.size := by omega
      have HP4 := Lib.hid hp4
      have HO4 := Lib.hid hos
      have HF4 := Lib.hid ((((HF.out.trans0 HF3.out).mono (T := ptB g (.slice (some ⟨b, 0, none⟩) p.list.length cap)) fun _ hf => hf.elim).trans hfs fun k e => .inl (.inr (by subst e; rfl))))
      clear hp4 hos hfs hb4 g0 g1 g2 g3 g4 g5 g6 q0 q1 q2 q3 q4 q5 q6 s0 s1 s2 s3 s4 s5 s6 x1
      go_region
      go_wp2_with fail
      go_ret
      refine ⟨by rw [← hr'.out]; rfl, .slice (some ⟨b, 0, none⟩) p.list.length cap, ?_, ((((HF4.out.setCell (.inl (.inl rfl)) _).setCell (.inl (.inl rfl)) _).setCell (.inl (.inl rfl)) _).setCell (.inl (.inl rfl)) _).drew, fun b hb => .inl hb⟩
      have hfin : Fr (fun k => k = g) w4 _ := ((((((Fr.refl (fun k => k = g) w4).setCell (p := ⟨g, 2, none⟩) (.inl rfl) (.int .i64 a.x)).setCell (p := ⟨g, 3, none⟩) (.inl rfl) (.int .i64 a.y)).setCell (p := ⟨g, 4, none⟩) (.inl rfl) (.int .i64 a.x)).setCell (p := ⟨g, 5, none⟩) (.inl rfl) (.int .i64 a.y))).drew
      have hlast : p.list.length - 1 = m := by have := HM.out; omega
      rw [← hr'.out]
      refine ⟨((((HP4.out.set 2 _).set 3 _).set 4 _).set 5 _).drew, ?_⟩
      show OwnS _ 91 7 _ (p.list.set (p.list.length - 1) ⟨1, a, oo, oo⟩).length (encSs (p.list.set (p.list.length - 1) ⟨1, a, oo, oo⟩))
      rw [hlast, List.length_set]
      exact HO4.out.fr hfin fun k hk e => by cases hk; exact hgb e
    · have hne : (lastK p.list == 1) = false := by simpa using h1
      have hp' := HPB.out.len
      by_cases h2 : p.most < p.list.length + 1
      · have ha0 : addF p a [moveS a] = (9, p) := by simp [addF, h2]
        have hr2 : (9, p) = r := by rw [← hr]; simp [moveF, h0, h1, h2]
        subst hr2
        have HA0 := Lib.hid ha0
        clear hr h0 h1 h2 ha0
        go_enter Tryd.func64, Tryd.ntmps64
        go_wp2_with fail
        rw [HW.out, ← HZ.out]
        refine (fits_any _ [a] _ _ (RowIn.pts ws [a] (by simp))).mono ?_
        rw [E1.out]
        rintro e w1 ⟨rfl, hf⟩
        have hf1 := ((Fr.refl Nob ws).alloc (.cells (encPs [a]).toArray 56)).trans0 hf
        have d0 := cell_nob c0 hf1
        have d1 := cell_nob c1 hf1
        have HF1 := Lib.hid hf1
        clear hf hf1 c0 c1
        go_wp2_with fail
        obtain ⟨w2, hw2⟩ : ∃ w2, w1.alloc (.cells #[.int .i64 1, .int .i64 a.x, .int .i64 a.y, .int .i64 0, .int .i64 0, .int .i64 0, .int .i64 0] 91) = w2 := ⟨_, rfl⟩
        rw [hw2]
        have hf2 : Fr Nob w1 w2 := by rw [← hw2]; exact (Fr.refl Nob w1).alloc _
        have hb2 : Blk w2 w1.heap.size (encS (moveS a)).toArray 91 := by rw [← hw2]; exact Blk.new w1 _ _
        clear hw2
        refine (last_any g v p _ ((HH.out.nob HF1.out).nob hf2)).mono ?_
        rintro e w3 ⟨rfl, hf3⟩
        have hf13 := HF1.out.trans0 (hf2.trans0 hf3)
        have d2 := cell_nob d0 (hf2.trans0 hf3)
        have d3 := cell_nob d1 (hf2.trans0 hf3)
        obtain ⟨s0, s1, s2, s3, s4, s5, s6⟩ := SgAt.own (hb2.fr hf3 fun hh => hh)
        have HF3 := Lib.hid hf13
        clear hf2 hb2 hf3 hf13 d0 d1
        go_wp2_with fail
        have hr := RowIn.sgs w3 [moveS a] (by simp)
        have ha := (Fr.refl Nob w3).alloc (.cells (encSs [moveS a]).toArray 91)
        refine (add_any g v p a _ [moveS a] _ _ ((HH.out.nob HF3.out).nob ha) hr (fun k hk hb => ?_) HPB.out (by simp)).mono ?_
        · have := HL.out k hb
          have := HF.out.size
          have := HF3.out.size
          omega
        rw [HA0.out]
        rintro e w4 ⟨rfl, hq⟩
        have HQ := Lib.hid ((hq.after (HF3.out.trans0 ha)).after HF.out)
        clear hq ha hr
        go_wp2_with fail
        go_ret
        exact ⟨rfl, HQ.out⟩
      · have ha0 : addF p a [moveS a] = (0, { p with list := p.list ++ [moveS a], now := a }) := by simp [addF, h2]
        have hr2 : (0, { p with list := p.list ++ [moveS a], start := a, now := a }) = r := by rw [← hr]; simp [moveF, h0, h1, h2]
        have HA0 := Lib.hid ha0
        have hr' := Lib.hid hr2
        clear hr hr2 h0 h1 h2 ha0
        go_enter Tryd.func64, Tryd.ntmps64
        go_wp2_with fail
        rw [HW.out, ← HZ.out]
        refine (fits_any _ [a] _ _ (RowIn.pts ws [a] (by simp))).mono ?_
        rw [E1.out]
        rintro e w1 ⟨rfl, hf⟩
        have hf1 := ((Fr.refl Nob ws).alloc (.cells (encPs [a]).toArray 56)).trans0 hf
        have d0 := cell_nob c0 hf1
        have d1 := cell_nob c1 hf1
        have HF1 := Lib.hid hf1
        clear hf hf1 c0 c1
        go_wp2_with fail
        obtain ⟨w2, hw2⟩ : ∃ w2, w1.alloc (.cells #[.int .i64 1, .int .i64 a.x, .int .i64 a.y, .int .i64 0, .int .i64 0, .int .i64 0, .int .i64 0] 91) = w2 := ⟨_, rfl⟩
        rw [hw2]
        have hf2 : Fr Nob w1 w2 := by rw [← hw2]; exact (Fr.refl Nob w1).alloc _
        have hb2 : Blk w2 w1.heap.size (encS (moveS a)).toArray 91 := by rw [← hw2]; exact Blk.new w1 _ _
        clear hw2
        refine (last_any g v p _ ((HH.out.nob HF1.out).nob hf2)).mono ?_
        rintro e w3 ⟨rfl, hf3⟩
        have hf13 := HF1.out.trans0 (hf2.trans0 hf3)
        have d2 := cell_nob d0 (hf2.trans0 hf3)
        have d3 := cell_nob d1 (hf2.trans0 hf3)
        obtain ⟨s0, s1, s2, s3, s4, s5, s6⟩ := SgAt.own (hb2.fr hf3 fun hh => hh)
        have HF3 := Lib.hid hf13
        clear hf2 hb2 hf3 hf13 d0 d1
        go_wp2_with fail
        have hr := RowIn.sgs w3 [moveS a] (by simp)
        have ha := (Fr.refl Nob w3).alloc (.cells (encSs [moveS a]).toArray 91)
        refine (add_any g v p a _ [moveS a] _ _ ((HH.out.nob HF3.out).nob ha) hr (fun k hk hb => ?_) HPB.out (by simp)).mono ?_
        · have := HL.out k hb
          have := HF.out.size
          have := HF3.out.size
          omega
        rw [HA0.out]
        rintro e w4 ⟨rfl, v', hp4, hf4, hv4⟩
        have hwl := HL.out
        have hb4 : Blk w4 w.heap.size (encP a).toArray 56 := ((B1.out.fr (HF3.out.trans0 ha) fun hh => hh)).fr hf4 fun hk => by have := hwl _ hk; omega
        have y0 := hb4.cell 0
        have y1 := hb4.cell 1
        have z2 := hp4.1.free 2
        have z3 := hp4.1.free 3
        have v2 := hp4.1.cell 2
        have v3 := hp4.1.cell 3
        simp only [List.getElem?_toArray, encP, List.getElem?_cons_succ, List.getElem?_cons_zero] at y0 y1 v2 v3
        have hgw : g ≠ w.heap.size := by have := hwl g (.inl rfl); omega
        have HP4 := Lib.hid hp4
        have HQ := Lib.hid (show Fr (ptB g v) w w4 from ((HF.out.trans0 (HF3.out.trans0 ha)).mono fun _ hf => hf.elim).trans hf4 fun k hk => .inl hk)
        have HV := Lib.hid (show ∀ b, v'.ownBlock = some b → v.ownBlock = some b ∨ w.heap.size ≤ b from fun b hb => by
          rcases hv4 b hb with h | h
          · exact .inl h
          · exact .inr (Nat.le_trans (HF.out.trans0 (HF3.out.trans0 ha)).size h))
        clear hp4 hf4 hv4 ha hr hb4 hwl d2 d3 s0 s1 s2 s3 s4 s5 s6
        go_wp2_with fail
        go_ret
        refine ⟨by rw [← hr'.out]; rfl, v', ?_, (HQ.out.setCell (.inl (.inl rfl)) _).setCell (.inl (.inl rfl)) _, HV.out⟩
        rw [← hr'.out]
        have hfin : Fr (fun k => k = g) w4 _ := ((Fr.refl (fun k => k = g) w4).setCell (p := ⟨g, 2, none⟩) (.inl rfl) (.int .i64 a.x)).setCell (p := ⟨g, 3, none⟩) (.inl rfl) (.int .i64 a.y)
        exact ⟨(HP4.out.1.set 2 _).set 3 _, HP4.out.2.fr hfin fun k hk e => HP4.out.2.ne HP4.out.1 (by decide) k hk e⟩
  · have hr2 : r = (11, p) := by rw [← hr]; simp [moveF, h0]
    subst hr2
    rw [show fitP a = false by simpa using h0] at e1
    have E1 := Lib.hid e1
    clear hr h0 e1
    go_enter Tryd.func64, Tryd.ntmps64
    go_wp2_with fail
    rw [HW.out, ← HZ.out]
    refine (fits_any _ [a] _ _ (RowIn.pts ws [a] (by simp))).mono ?_
    rw [E1.out]
    rintro e w1 ⟨rfl, hf⟩
    have HF1 := Lib.hid (((Fr.refl Nob ws).alloc (.cells (encPs [a]).toArray 56)).trans0 hf)
    clear hf
    go_wp2_with fail
    go_ret
    exact ⟨rfl, (PthTo.same HH.out HF1.out).after HF.out⟩
end Go.Proofs.YtkkejjfmidgciaaDoor
/- append as a step of a region that draws its order: for 'go_region_law', 'go_region_held3'. -/
namespace Go.Proofs.YtkkejjfmidgciaaDoor
open Go.RowKit
set_option linter.unusedVariables false
set_option linter.unusedSimpArgs false
theorem wp_app {P : Program} {o : Oper} {a : Act} {w : World} {K : Act → World → Prop} {Q : Exit → Act → World → Prop} (s x : Operand) (t : TypeId)
    (ho : o.op = .call { callee := .builtin .append, args := #[s, x], argTypes := #[t, t] })
    (e : TypeId) (i : TypeInfo) (z : Value) (size bytes : Nat) (ht : P.underlying t = some (.slice e)) (hi : P.info? e = some i) (hz : i.zero = some z)
    (hsize : i.size = size) (hby : i.bytes = bytes) (hzs : z.cells.size = size) (hsz : 0 < size)
    (v : Value) (n : Nat) (xs : List Value) (hs : a.eval s = v) (hown : OwnS w e size v n xs) (S : Nat → Prop) (xv : Value) (m : Nat) (news : List Value) (hx : a.eval x = xv) (hrow : RowIn w S size xv m news)
    (h1 : ∀ u ∈ news, u.oneCell' = true) (h63 : n + m ≤ maxLen) (hbytes : (n + m) * bytes ≤ 140737488355328)
    (h : ∀ v' w', OwnS w' e size v' (n + m) (xs ++ news) → Fr (inB v) w w' → (v'.ownBlock = v.ownBlock ∨ v'.ownBlock = some w.heap.size) → (n + m = 0 → v' = v ∧ w' = w) → K (a.put o.dst v') w') : o.wp P a w K Q := by
  obtain ⟨v', w', hr, h2, h3, h4, h5⟩ := run_app (P := P) w t o.type e i z size bytes ht hi hz hsize hby hzs hsz v n xs hown S xv m news hrow h1 h63 hbytes
  unfold Oper.wp execOp
  simp only [ho, resolve, invoke, builtin, Sem.run_bind, Sem.run_pure, Result.andThen_ok, List.map_toArray, List.map_cons, List.map_nil, hs, hx, hr]
  exact h v' w' h2 h3 h4 h5
theorem step_app {P : Program} {ops : Array Oper} {o : Oper} {a : Act} {w : World} {K : Act → World → Prop} {Q : Exit → Act → World → Prop} {E : Prop} (hgd : o.guard = none) (s x : Operand) (t : TypeId)
    (ho : o.op = .call { callee := .builtin .append, args := #[s, x], argTypes := #[t, t] })
    (e : TypeId) (i : TypeInfo) (z : Value) (size bytes : Nat) (ht : P.underlying t = some (.slice e)) (hi : P.info? e = some i) (hz : i.zero = some z)
    (hsize : i.size = size) (hby : i.bytes = bytes) (hzs : z.cells.size = size) (hsz : 0 < size)
    (v : Value) (n : Nat) (xs : List Value) (hs : a.eval s = v) (hown : OwnS w e size v n xs) (S : Nat → Prop) (xv : Value) (m : Nat) (news : List Value) (hx : a.eval x = xv) (hrow : RowIn w S size xv m news)
    (h1 : ∀ u ∈ news, u.oneCell' = true) (h63 : n + m ≤ maxLen) (hbytes : (n + m) * bytes ≤ 140737488355328)
    (h : ∀ v' w', OwnS w' e size v' (n + m) (xs ++ news) → Fr (inB v) w w' → (v'.ownBlock = v.ownBlock ∨ v'.ownBlock = some w.heap.size) → (n + m = 0 → v' = v ∧ w' = w) → K (a.put o.dst v') w') :
    if Region.wanted o (yielded ops a.tmps) = true then Oper.wp P o a w K Q else E := by
  rw [if_pos (by simp [Region.wanted, hgd])]
  exact wp_app s x t ho e i z size bytes ht hi hz hsize hby hzs hsz v n xs hs hown S xv m news hx hrow h1 h63 hbytes h
end Go.Proofs.YtkkejjfmidgciaaDoor
/- Memory of a call's own: new blocks, rows in them. No program, no conditions. -/
namespace Go.Proofs.YtkkejjfmidgciaaDoor
open Go.RowKit
set_option linter.unusedVariables false
set_option linter.unusedSimpArgs false
/-- Blocks that are there. -/
theorem RowIn.lts {w : World} {S : Nat → Prop} {size n : Nat} {v : Value} {cs : List Value} (h : RowIn w S size v n cs) : RowIn w (fun k => S k ∧ k < w.heap.size) size v n cs := by
  obtain ⟨hl, A, cap, hv, h1, h2, h3, h4⟩ := h
  exact ⟨hl, A, cap, hv, h1, h2, h3, fun j u hu => by obtain ⟨b, off, ha, hS, hc⟩ := h4 j u hu; exact ⟨b, off, ha, ⟨hS, World.block_lt_of_cell? w _ hc⟩, hc⟩⟩
theorem RowIn.form {w : World} {S : Nat → Prop} {size n : Nat} {v : Value} {cs : List Value} (h : RowIn w S size v n cs) : ∃ A cap, v = .slice A n cap ∧ n ≤ cap ∧ cap ≤ maxLen := by
  obtain ⟨_, A, cap, hv, h1, h2, _⟩ := h
  exact ⟨A, cap, hv, h1, h2⟩
theorem RowIn.nob {w w' : World} {S : Nat → Prop} {size n : Nat} {v : Value} {cs : List Value} (h : RowIn w S size v n cs) (hf : Fr Nob w w') : RowIn w' S size v n cs := h.fr hf fun _ _ hh => hh
theorem OwnS.rowIn {w : World} {e : TypeId} {size n : Nat} {v : Value} {cs : List Value} (h : OwnS w e size v n cs) {S : Nat → Prop} (hs : ∀ k, v.ownBlock = some k → S k) : RowIn w S size v n cs := h.row.mono hs
theorem OwnS.nob {w w' : World} {e : TypeId} {size n : Nat} {v : Value} {cs : List Value} (h : OwnS w e size v n cs) (hf : Fr Nob w w') : OwnS w' e size v n cs := h.fr hf fun _ _ hh => hh
theorem Blk.nob {w w' : World} {g : Nat} {cs : Array Value} {t : TypeId} (h : Blk w g cs t) (hf : Fr Nob w w') : Blk w' g cs t := h.fr hf fun hh => hh
/-- New blocks of a call. -/
def Bt (w w' : World) : Nat → Prop := fun k => w.heap.size ≤ k ∧ k < w'.heap.size
theorem OwnS.bt {w0 w : World} {e : TypeId} {size n : Nat} {v : Value} {cs : List Value} (h : OwnS w e size v n cs) (hn : NewV w0 v) : RowIn w (Bt w0 w) size v n cs := h.row.mono fun k hk => ⟨hn k hk, h.lt k hk⟩
/-- An empty slice of its own. -/
theorem OwnS.empty {w : World} {e : TypeId} {size g : Nat} (h : Blk w g #[] e) : OwnS w e size (.slice (some ⟨g, 0, none⟩) 0 0) 0 [] :=
  ⟨by simp, .inr ⟨_, _, _, rfl, h, Nat.le_refl _, by decide, by simp, by simp⟩⟩
theorem fr_of_app {w0 w w' : World} {v : Value} (h : Fr (inB v) w w') (hf : Fr Nob w0 w) (hn : NewV w0 v) : Fr Nob w0 w' := hf.trans h fun k hk => .inr (hn k hk)
theorem new_of_app {w0 w : World} {v v' : Value} (h : v'.ownBlock = v.ownBlock ∨ v'.ownBlock = some w.heap.size) (hf : Fr Nob w0 w) (hn : NewV w0 v) : NewV w0 v' := fun b hb => by
  rcases h with h | h
  · exact hn b (h ▸ hb)
  · rw [h] at hb; cases hb; exact hf.size
theorem Blk.new1 (w : World) (o : Obj) (cs : Array Value) (t : TypeId) : Blk ((w.alloc o).alloc (.cells cs t)) (w.heap.size + 1) cs t := by
  have := Blk.new (w.alloc o) cs t
  simpa using this
theorem Blk.new2 (w : World) (o o' : Obj) (cs : Array Value) (t : TypeId) : Blk (((w.alloc o).alloc o').alloc (.cells cs t)) (w.heap.size + 2) cs t := by
  have := Blk.new ((w.alloc o).alloc o') cs t
  simpa using this
theorem Blk.row {w : World} {g e size n : Nat} {cs : Array Value} (h : Blk w g cs e) (hl : cs.size = n * size) (hn : n ≤ maxLen) : RowIn w (fun k => k = g) size (.slice (some ⟨g, 0, none⟩) n n) n cs.toList :=
  ⟨by rw [Array.length_toList, hl], some ⟨g, 0, none⟩, n, rfl, Nat.le_refl _, hn, (fun h => by cases h), fun j u hu => ⟨_, _, rfl, rfl, by rw [Nat.zero_add]; exact (h.cell j).trans (by simpa using hu)⟩⟩
theorem Blk.sgs {w : World} {g : Nat} {l : List Sg} (h : Blk w g (encSs l).toArray 91) (hl : l.length ≤ 10) : RowIn w (fun k => k = g) 7 (.slice (some ⟨g, 0, none⟩) l.length l.length) l.length (encSs l) := by
  have := h.row (size := 7) (n := l.length) (by simp [encSs_len]) (by unfold maxLen; omega)
  simpa using this
section
variable {P : Program} (w : World)
/-- append onto an empty slice of no room. -/
theorem run_app0 (t ty e : TypeId) (i : TypeInfo) (z : Value) (size bytes : Nat) (ht : P.underlying t = some (.slice e)) (hi : P.info? e = some i) (hz : i.zero = some z)
    (hsize : i.size = size) (hby : i.bytes = bytes) (hzs : z.cells.size = size) (hsz : 0 < size)
    (g : Nat) (hb : Blk w g #[] e) (S : Nat → Prop) (x : Value) (m : Nat) (news : List Value) (hx : RowIn w S size x m news)
    (h1 : ∀ u ∈ news, u.oneCell' = true) (h63 : m ≤ maxLen) (hbytes : m * bytes ≤ 140737488355328) :
    ∃ v' w', (Builtin.append_ #[t, t] ty #[.slice (some ⟨g, 0, none⟩) 0 0, x]).run P w = .ok v' w' ∧ OwnS w' e size v' m news ∧ Fr Nob w w' ∧ (v'.ownBlock = some g ∨ v'.ownBlock = some w.heap.size) := by
  by_cases hm : m = 0
  · obtain ⟨v', w', hr, ho, _, hat, h0⟩ := run_app (P := P) w t ty e i z size bytes ht hi hz hsize hby hzs hsz _ 0 [] (OwnS.empty (size := size) hb) S x m news hx h1 (by omega) (by rw [Nat.zero_add]; exact hbytes)
    obtain ⟨rfl, rfl⟩ := h0 (by omega)
    exact ⟨_, _, hr, by simpa using ho, Fr.refl _ _, .inl rfl⟩
  · subst hsize
    subst hby
    obtain ⟨hl, A, c, rfl, hmc, hcm, hA, hcells⟩ := hx
    obtain ⟨a, rfl⟩ : ∃ a, A = some a := by
      cases A with
      | none => have := hA rfl; omega
      | some a => exact ⟨a, rfl⟩
    have hsmall : m ≤ 9223372036854775807 := by simp only [maxLen] at h63; omega
    have hnews : ∀ j u, news[j]? = some u → w.cell? (a.add j) = some u := fun j u hu => by
      obtain ⟨b, off, hb, _, hc⟩ := hcells j u hu
      cases hb
      rw [add_plain]
      exact hc
    have hr := run_append_grow (P := P) w t ty e i z ht hi hz ⟨g, 0, none⟩ 0 0 [] (by simp) (fun j u hu => by simp at hu) a m c news hl hnews (by omega) (by omega) (growslice_fits (by omega) (by rw [Nat.zero_add]; exact hbytes))
    have hge := grownCap_ge w (0 + m) 0 e
    have hcm : grownCap w (0 + m) 0 e ≤ maxLen := grownCap_le_maxLen w (0 + m) 0 e (by omega)
    refine ⟨_, _, hr, ⟨hl, .inr ⟨w.heap.size, grownCap w (0 + m) 0 e, _, ?_, Blk.new w.drew _ _, ?_, hcm, ?_, ?_⟩⟩, ((Fr.refl _ _).drew).alloc _, .inr rfl⟩
    · rw [Nat.zero_add]
    · rw [Nat.zero_add] at hge ⊢; exact hge
    · simp only [Array.size_append, List.size_toArray, size_zeroCells, hzs, List.length_nil, hl, Nat.zero_add, ← Nat.add_mul]
      rw [Nat.zero_add] at hge
      apply Nat.le_of_eq
      congr 1
      omega
    · simp only [Array.toList_append]
      rw [List.nil_append, ← hl]
      exact List.take_left
theorem step_app0 {ops : Array Oper} {o : Oper} {a : Act} {K : Act → World → Prop} {Q : Exit → Act → World → Prop} {E : Prop} (hgd : o.guard = none) (s x : Operand) (t : TypeId)
    (ho : o.op = .call { callee := .builtin .append, args := #[s, x], argTypes := #[t, t] })
    (e : TypeId) (i : TypeInfo) (z : Value) (size bytes : Nat) (ht : P.underlying t = some (.slice e)) (hi : P.info? e = some i) (hz : i.zero = some z)
    (hsize : i.size = size) (hby : i.bytes = bytes) (hzs : z.cells.size = size) (hsz : 0 < size)
    (g : Nat) (hs : a.eval s = .slice (some ⟨g, 0, none⟩) 0 0) (hb : Blk w g #[] e) (S : Nat → Prop) (xv : Value) (m : Nat) (news : List Value) (hx : a.eval x = xv) (hrow : RowIn w S size xv m news)
    (h1 : ∀ u ∈ news, u.oneCell' = true) (h63 : m ≤ maxLen) (hbytes : m * bytes ≤ 140737488355328)
    (h : ∀ v' w', OwnS w' e size v' m news → Fr Nob w w' → (v'.ownBlock = some g ∨ v'.ownBlock = some w.heap.size) → K (a.put o.dst v') w') :
    if Region.wanted o (yielded ops a.tmps) = true then Oper.wp P o a w K Q else E := by
  obtain ⟨v', w', hr, h2, h3, h4⟩ := run_app0 (P := P) w t o.type e i z size bytes ht hi hz hsize hby hzs hsz g hb S xv m news hrow h1 h63 hbytes
  rw [if_pos (by simp [Region.wanted, hgd])]
  unfold Oper.wp execOp
  simp only [ho, resolve, invoke, builtin, Sem.run_bind, Sem.run_pure, Result.andThen_ok, List.map_toArray, List.map_cons, List.map_nil, hs, hx, hr]
  exact h v' w' h2 h3 h4
theorem wpList_app0 {ops : Array Oper} {rest : List Oper} {o : Oper} {a : Act} {Q : Exit → Act → World → Prop} (hgd : o.guard = none) (s x : Operand) (t : TypeId)
    (ho : o.op = .call { callee := .builtin .append, args := #[s, x], argTypes := #[t, t] })
    (e : TypeId) (i : TypeInfo) (z : Value) (size bytes : Nat) (ht : P.underlying t = some (.slice e)) (hi : P.info? e = some i) (hz : i.zero = some z)
    (hsize : i.size = size) (hby : i.bytes = bytes) (hzs : z.cells.size = size) (hsz : 0 < size)
    (g : Nat) (hs : a.eval s = .slice (some ⟨g, 0, none⟩) 0 0) (hb : Blk w g #[] e) (S : Nat → Prop) (xv : Value) (m : Nat) (news : List Value) (hx : a.eval x = xv) (hrow : RowIn w S size xv m news)
    (h1 : ∀ u ∈ news, u.oneCell' = true) (h63 : m ≤ maxLen) (hbytes : m * bytes ≤ 140737488355328)
    (h : ∀ v' w', OwnS w' e size v' m news → Fr Nob w w' → (v'.ownBlock = some g ∨ v'.ownBlock = some w.heap.size) → wpList P ops Q rest (a.put o.dst v') w') : wpList P ops Q (o :: rest) a w := by
  obtain ⟨v', w', hr, h2, h3, h4⟩ := run_app0 (P := P) w t o.type e i z size bytes ht hi hz hsize hby hzs hsz g hb S xv m news hrow h1 h63 hbytes
  unfold wpList
  rw [if_pos (by simp [Region.wanted, hgd])]
  left
  unfold Oper.wp execOp
  simp only [ho, resolve, invoke, builtin, Sem.run_bind, Sem.run_pure, Result.andThen_ok, List.map_toArray, List.map_cons, List.map_nil, hs, hx, hr]
  exact h v' w' h2 h3 h4
end
end Go.Proofs.YtkkejjfmidgciaaDoor
