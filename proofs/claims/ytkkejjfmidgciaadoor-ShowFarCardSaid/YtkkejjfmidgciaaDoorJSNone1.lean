/-
  Texts joined in build order: Words of my own for all seats: frames over sets of blocks, slices that are read, slices that are owned, append and clone of them. No program, no conditions. Points, segments; the walks of fix.Fits, of path's fits. The walks of slices.ContainsFunc over points, of path's fits. Segments and paths as Lean values; the walks of Clone, last, add.
-/
import Derived.WalkKit
import Derived.KernelRfl
import Derived.Lib.Hide
import Derived.Deep.QuietTactic
import Derived.BigQuiet
import Derived.Lib.SliceRun
import Derived.Test.YtkkejjfmidgciaaDoorProg
import Derived.StillTailTactics
import Derived.WalkSpells
/- Words of my own for all seats: frames over sets of blocks, slices that are read, slices that are owned, append and clone of them. No program, no conditions. -/
namespace Go.Proofs.YtkkejjfmidgciaaDoor
open Go.RowKit
set_option linter.unusedVariables false
set_option linter.unusedSimpArgs false

/-- w' is w but for the blocks of S and new ones. -/
structure Fr (S : Nat → Prop) (w w' : World) : Prop where
  os : w'.os = w.os
  tape : w'.tape = w.tape
  output : w'.output = w.output
  size : w.heap.size ≤ w'.heap.size
  block : ∀ k, k < w.heap.size → ¬ S k → w'.heap[k]? = w.heap[k]?
def Nob : Nat → Prop := fun _ => False
theorem Fr.refl (S : Nat → Prop) (w : World) : Fr S w w := ⟨rfl, rfl, rfl, Nat.le_refl _, fun _ _ _ => rfl⟩
theorem Fr.trans {S S' : Nat → Prop} {a b c : World} (h : Fr S a b) (k : Fr S' b c) (hs : ∀ i, S' i → S i ∨ a.heap.size ≤ i) : Fr S a c :=
  ⟨k.os.trans h.os, k.tape.trans h.tape, k.output.trans h.output, Nat.le_trans h.size k.size, fun i hi hn =>
    (k.block i (Nat.lt_of_lt_of_le hi h.size) (fun hS => (hs i hS).elim hn (fun hge => by omega))).trans (h.block i hi hn)⟩
theorem Fr.trans0 {S : Nat → Prop} {a b c : World} (h : Fr S a b) (k : Fr Nob b c) : Fr S a c := h.trans k fun _ hf => hf.elim
theorem Fr.mono {S T : Nat → Prop} {a b : World} (h : Fr S a b) (hs : ∀ i, S i → T i) : Fr T a b :=
  ⟨h.os, h.tape, h.output, h.size, fun i hi hn => h.block i hi fun hS => hn (hs i hS)⟩
theorem Fr.below {B : Nat} {S : Nat → Prop} {a b : World} (h : Fr S a b) (hs : ∀ i, S i → B ≤ i) (hB : B ≤ a.heap.size) : Below B a b :=
  ⟨h.os, h.tape, h.output, h.size, fun i hi => h.block i (by omega) fun hS => by have := hs i hS; omega⟩
theorem Fr.of_below {a b : World} (S : Nat → Prop) (h : Below a.heap.size a b) : Fr S a b := ⟨h.os, h.tape, h.output, h.size, fun i hi _ => h.block i hi⟩
theorem Fr.to_below {a b : World} (h : Fr Nob a b) : Below a.heap.size a b := ⟨h.os, h.tape, h.output, h.size, fun i hi => h.block i hi fun hf => hf.elim⟩
theorem Fr.alloc {S : Nat → Prop} {a w : World} (h : Fr S a w) (o : Obj) : Fr S a (w.alloc o) :=
  ⟨h.os, h.tape, h.output, by have := h.size; simp; omega, fun i hi hn => (Below.heap_alloc w o i (Nat.lt_of_lt_of_le hi h.size)).trans (h.block i hi hn)⟩
theorem Fr.drew {S : Nat → Prop} {a w : World} (h : Fr S a w) : Fr S a w.drew := ⟨h.os, h.tape, h.output, h.size, h.block⟩
theorem Fr.drewN {S : Nat → Prop} {a w : World} (h : Fr S a w) (n : Nat) : Fr S a (w.drewN n) := ⟨h.os, h.tape, h.output, h.size, h.block⟩
theorem Fr.setCell {S : Nat → Prop} {a w : World} (h : Fr S a w) {p : Addr} (hp : S p.block ∨ a.heap.size ≤ p.block) (u : Value) : Fr S a (w.setCell p u) :=
  ⟨h.os, h.tape, h.output, by have := h.size; simp [World.setCell]; omega, fun i hi hn =>
    (Below.heap_setCell w p u i (fun e => by subst e; exact hp.elim hn (fun hge => by omega))).trans (h.block i hi hn)⟩
theorem Fr.setRow {S : Nat → Prop} {a w : World} (h : Fr S a w) {g : Nat} (hp : S g ∨ a.heap.size ≤ g) (cs : Array Value) : Fr S a (w.setRow g cs) :=
  ⟨h.os, h.tape, h.output, by have := h.size; simp [World.setRow]; omega, fun i hi hn =>
    (setRow_other w g i cs (fun e => by subst e; exact hp.elim hn (fun hge => by omega))).trans (h.block i hi hn)⟩

/-- The blocks that were there. -/
def Lt (w : World) : Nat → Prop := fun k => k < w.heap.size
/-- A block known whole. -/
def Blk (w : World) (g : Nat) (cs : Array Value) (t : TypeId) : Prop := w.heap[g]? = some (.cells cs t (0, 0))
theorem Blk.lt {w : World} {g : Nat} {cs : Array Value} {t : TypeId} (h : Blk w g cs t) : g < w.heap.size := (Array.getElem?_eq_some_iff.1 h).1
theorem Blk.cell {w : World} {g : Nat} {cs : Array Value} {t : TypeId} (h : Blk w g cs t) (i : Nat) : w.cell? ⟨g, i, none⟩ = cs[i]? := cell_of_row w g i cs t (0, 0) h
theorem Blk.free {w : World} {g : Nat} {cs : Array Value} {t : TypeId} (h : Blk w g cs t) (i : Nat) : w.frozen? ⟨g, i, none⟩ = false := by
  have h' : w.heap[g]? = some (.cells cs t (0, 0)) := h
  simp [World.frozen?, h']
theorem Blk.ne {w : World} {g g' : Nat} {cs cs' : Array Value} {t t' : TypeId} (h : Blk w g cs t) (h' : Blk w g' cs' t') (hne : t ≠ t') : g ≠ g' := by
  rintro rfl
  have := h.symm.trans h'
  simp at this
  exact hne this.2
theorem Blk.fr {S : Nat → Prop} {w w' : World} {g : Nat} {cs : Array Value} {t : TypeId} (h : Blk w g cs t) (hf : Fr S w w') (hn : ¬ S g) : Blk w' g cs t := (hf.block g h.lt hn).trans h
theorem Blk.new (w : World) (cs : Array Value) (t : TypeId) : Blk (w.alloc (.cells cs t)) w.heap.size cs t := heap_alloc_new w _
theorem Blk.alloc {w : World} {g : Nat} {cs : Array Value} {t : TypeId} (h : Blk w g cs t) (o : Obj) : Blk (w.alloc o) g cs t := (Below.heap_alloc w o g h.lt).trans h
theorem Blk.drew {w : World} {g : Nat} {cs : Array Value} {t : TypeId} (h : Blk w g cs t) : Blk w.drew g cs t := h
theorem Blk.drewN {w : World} {g : Nat} {cs : Array Value} {t : TypeId} (h : Blk w g cs t) (n : Nat) : Blk (w.drewN n) g cs t := h
theorem Blk.set {w : World} {g : Nat} {cs : Array Value} {t : TypeId} (h : Blk w g cs t) (i : Nat) (u : Value) : Blk (w.setCell ⟨g, i, none⟩ u) g (cs.setIfInBounds i u) t := by
  have h' : w.heap[g]? = some (.cells cs t (0, 0)) := h
  show (w.setCell ⟨g, i, none⟩ u).heap[g]? = _
  simp [World.setCell, Array.getElem?_modify, h']
theorem Blk.far {w : World} {g : Nat} {cs : Array Value} {t : TypeId} (h : Blk w g cs t) {p : Addr} (hp : g ≠ p.block) (u : Value) : Blk (w.setCell p u) g cs t := (Below.heap_setCell w p u g hp).trans h
theorem Blk.setRow {w : World} {g : Nat} {cs : Array Value} {t : TypeId} (h : Blk w g cs t) (cs' : Array Value) : Blk (w.setRow g cs') g cs' t := setRow_heap w g cs cs' t (0, 0) h

theorem add_plain (g o j : Nat) : (⟨g, o, none⟩ : Addr).add j = ⟨g, o + j, none⟩ := by unfold Addr.add; split <;> simp_all
theorem add_add (a : Addr) (i j : Nat) : (a.add i).add j = a.add (i + j) := by
  unfold Addr.add
  by_cases hi : i = 0
  · subst hi; simp
  · by_cases hj : j = 0
    · subst hj; simp [hi]
    · simp [hi, hj]; omega
theorem add_block (a : Addr) (j : Nat) : (a.add j).block = a.block := by unfold Addr.add; split <;> rfl

theorem cell_fr {S : Nat → Prop} {w w' : World} {a : Addr} {v : Value} (h : w.cell? a = some v) (hf : Fr S w w') (hn : ¬ S a.block) : w'.cell? a = some v := by
  rw [World.cell?_of_block (w := w) (hf.block _ (World.block_lt_of_cell? w _ h) hn)]; exact h
theorem cell_nob {w w' : World} {a : Addr} {v : Value} (h : w.cell? a = some v) (hf : Fr Nob w w') : w'.cell? a = some v := cell_fr h hf fun hh => hh
/-- A slice's value, of n elements of that size, whose cells are cs; it lies in the blocks of S. -/
def RowIn (w : World) (S : Nat → Prop) (size : Nat) (v : Value) (n : Nat) (cs : List Value) : Prop :=
  cs.length = n * size ∧ ∃ A cap, v = .slice A n cap ∧ n ≤ cap ∧ cap ≤ maxLen ∧ (A = none → cap = 0) ∧
    ∀ j u, cs[j]? = some u → ∃ b off, A = some ⟨b, off, none⟩ ∧ S b ∧ w.cell? ⟨b, off + j, none⟩ = some u
theorem RowIn.fr {w w' : World} {S T : Nat → Prop} {size n : Nat} {v : Value} {cs : List Value} (h : RowIn w S size v n cs) (hf : Fr T w w') (hd : ∀ k, S k → ¬ T k) : RowIn w' S size v n cs := by
  obtain ⟨hl, A, cap, hv, h1, h2, h3, h4⟩ := h
  refine ⟨hl, A, cap, hv, h1, h2, h3, fun j u hu => ?_⟩
  obtain ⟨b, off, ha, hS, hc⟩ := h4 j u hu
  refine ⟨b, off, ha, hS, ?_⟩
  rw [World.cell?_of_block (w := w) (hf.block _ (World.block_lt_of_cell? w _ hc) (hd _ hS))]
  exact hc
theorem RowIn.mono {w : World} {S T : Nat → Prop} {size n : Nat} {v : Value} {cs : List Value} (h : RowIn w S size v n cs) (hs : ∀ k, S k → T k) : RowIn w T size v n cs := by
  obtain ⟨hl, A, cap, hv, h1, h2, h3, h4⟩ := h
  exact ⟨hl, A, cap, hv, h1, h2, h3, fun j u hu => by obtain ⟨b, off, ha, hS, hc⟩ := h4 j u hu; exact ⟨b, off, ha, hs _ hS, hc⟩⟩
theorem RowIn.nil (w : World) (S : Nat → Prop) (size : Nat) : RowIn w S size (.slice none 0 0) 0 [] :=
  ⟨by simp, none, 0, rfl, Nat.le_refl _, by decide, fun _ => rfl, fun j u hu => by simp at hu⟩
theorem RowIn.lit (w : World) (e : TypeId) (size : Nat) (cs : Array Value) (n : Nat) (hl : cs.size = n * size) (hn : n ≤ maxLen) :
    RowIn (w.alloc (.cells cs e)) (fun k => k = w.heap.size) size (.slice (some ⟨w.heap.size, 0, none⟩) n n) n cs.toList :=
  ⟨by rw [Array.length_toList, hl], some ⟨w.heap.size, 0, none⟩, n, rfl, Nat.le_refl _, hn, (fun h => by cases h), fun j u hu => ⟨_, _, rfl, rfl, by
    rw [Nat.zero_add]
    exact ((Blk.new w cs e).cell j).trans (by simpa using hu)⟩⟩
theorem RowIn.len_le {w : World} {S : Nat → Prop} {size n : Nat} {v : Value} {cs : List Value} (h : RowIn w S size v n cs) : n ≤ 9223372036854775807 := by
  obtain ⟨_, A, cap, _, h1, h2, _⟩ := h
  simp only [maxLen] at h2; omega

theorem RowIn.pos {w : World} {S : Nat → Prop} {size n : Nat} {v : Value} {cs : List Value} (h : RowIn w S size v n cs) (hn : 0 < cs.length) :
    ∃ b off cap, v = .slice (some ⟨b, off, none⟩) n cap ∧ n ≤ cap ∧ cap ≤ 9223372036854775807 ∧ S b ∧ ∀ j u, cs[j]? = some u → w.cell? ⟨b, off + j, none⟩ = some u := by
  obtain ⟨hl, A, cap, hv, h1, h2, h3, h4⟩ := h
  obtain ⟨b, off, ha, hS, _⟩ := h4 0 cs[0] (List.getElem?_eq_getElem hn)
  refine ⟨b, off, cap, ha ▸ hv, h1, (by simp only [maxLen] at h2; omega), hS, fun j u hu => ?_⟩
  obtain ⟨b', off', ha', _, hc⟩ := h4 j u hu
  rw [ha] at ha'
  cases ha'
  exact hc
/-- The block that a slice lies in. -/
def inB (v : Value) : Nat → Prop := fun k => v.ownBlock = some k

/-- A slice of its own: nil, or at the head of a block of the elements' type. -/
def OwnS (w : World) (e : TypeId) (size : Nat) (v : Value) (n : Nat) (cs : List Value) : Prop :=
  cs.length = n * size ∧ ((v = .slice none 0 0 ∧ n = 0) ∨
    ∃ g cap cur, v = .slice (some ⟨g, 0, none⟩) n cap ∧ Blk w g cur e ∧ n ≤ cap ∧ cap ≤ maxLen ∧ cap * size ≤ cur.size ∧ cur.toList.take (n * size) = cs)
theorem OwnS.nil (w : World) (e : TypeId) (size : Nat) : OwnS w e size (.slice none 0 0) 0 [] := ⟨by simp, .inl ⟨rfl, rfl⟩⟩
theorem OwnS.fr {w w' : World} {T : Nat → Prop} {e : TypeId} {size n : Nat} {v : Value} {cs : List Value} (h : OwnS w e size v n cs) (hf : Fr T w w') (hd : ∀ k, v.ownBlock = some k → ¬ T k) : OwnS w' e size v n cs := by
  refine ⟨h.1, ?_⟩
  rcases h.2 with h0 | ⟨g, cap, cur, rfl, hb, r⟩
  · exact .inl h0
  · exact .inr ⟨g, cap, cur, rfl, hb.fr hf (hd g rfl), r⟩
theorem OwnS.lt {w : World} {e : TypeId} {size n : Nat} {v : Value} {cs : List Value} (h : OwnS w e size v n cs) : ∀ k, v.ownBlock = some k → k < w.heap.size := by
  intro k hk
  rcases h.2 with ⟨rfl, _⟩ | ⟨g, cap, cur, rfl, hb, _⟩
  · simp [Value.ownBlock] at hk
  · simp [Value.ownBlock] at hk; subst hk; exact hb.lt
theorem OwnS.ne {w : World} {e t : TypeId} {size n g : Nat} {v : Value} {cs : List Value} {bs : Array Value} (h : OwnS w e size v n cs) (hb : Blk w g bs t) (hne : e ≠ t) : ∀ k, v.ownBlock = some k → k ≠ g := by
  intro k hk
  rcases h.2 with ⟨rfl, _⟩ | ⟨g', cap, cur, rfl, hb', _⟩
  · simp [Value.ownBlock] at hk
  · simp [Value.ownBlock] at hk; subst hk; exact hb'.ne hb hne
theorem OwnS.row {w : World} {e : TypeId} {size n : Nat} {v : Value} {cs : List Value} (h : OwnS w e size v n cs) : RowIn w (inB v) size v n cs := by
  refine ⟨h.1, ?_⟩
  rcases h.2 with ⟨rfl, rfl⟩ | ⟨g, cap, cur, rfl, hb, h1, h2, h3, h4⟩
  · refine ⟨none, 0, rfl, Nat.le_refl _, by decide, fun _ => rfl, fun j u hu => ?_⟩
    have hl := h.1
    have hz : cs = [] := List.length_eq_zero_iff.1 (by rw [hl]; omega)
    subst hz
    simp at hu
  · refine ⟨some ⟨g, 0, none⟩, cap, rfl, h1, h2, (fun hh => by cases hh), fun j u hu => ⟨_, _, rfl, rfl, ?_⟩⟩
    rw [Nat.zero_add, hb.cell]
    have : j < n * size := by rw [← h.1]; exact (List.getElem?_eq_some_iff.1 hu).1
    rw [← h4, List.getElem?_take, if_pos this] at hu
    simpa using hu
theorem OwnS.form {w : World} {e : TypeId} {size n : Nat} {v : Value} {cs : List Value} (h : OwnS w e size v n cs) : ∃ A cap, v = .slice A n cap ∧ n ≤ cap ∧ cap ≤ maxLen := by
  obtain ⟨_, A, cap, hv, h1, h2, _⟩ := h.row
  exact ⟨A, cap, hv, h1, h2⟩

section
variable {P : Program} (w : World)
/-- append onto a slice of its own, from any slice that is read. -/
theorem run_app (t ty e : TypeId) (i : TypeInfo) (z : Value) (size bytes : Nat) (ht : P.underlying t = some (.slice e)) (hi : P.info? e = some i) (hz : i.zero = some z)
    (hsize : i.size = size) (hby : i.bytes = bytes) (hzs : z.cells.size = size) (hsz : 0 < size)
    (v : Value) (n : Nat) (xs : List Value) (hown : OwnS w e size v n xs) (S : Nat → Prop) (x : Value) (m : Nat) (news : List Value) (hx : RowIn w S size x m news)
    (h1 : ∀ u ∈ news, u.oneCell' = true) (h63 : n + m ≤ maxLen) (hbytes : (n + m) * bytes ≤ 140737488355328) :
    ∃ v' w', (Builtin.append_ #[t, t] ty #[v, x]).run P w = .ok v' w' ∧ OwnS w' e size v' (n + m) (xs ++ news) ∧ Fr (inB v) w w' ∧ (v'.ownBlock = v.ownBlock ∨ v'.ownBlock = some w.heap.size) ∧
      (n + m = 0 → v' = v ∧ w' = w) := by
  subst hsize
  subst hby
  obtain ⟨hl, A, c, rfl, hmc, hcm, hA, hcells⟩ := hx
  have hsmall : n + m ≤ 9223372036854775807 := by simp only [maxLen] at h63; omega
  have hlen : (xs ++ news).length = (n + m) * i.size := by rw [List.length_append, hown.1, hl, Nat.add_mul]
  by_cases hm : m = 0
  · subst hm
    have hn : news = [] := List.eq_nil_of_length_eq_zero (by simpa using hl)
    subst hn
    refine ⟨v, w, ?_, by simpa using hown, Fr.refl _ _, .inl rfl, fun _ => ⟨rfl, rfl⟩⟩
    rcases hown.2 with ⟨rfl, rfl⟩ | ⟨g, cap, cur, rfl, hb, hnc, hcm', hcs, htake⟩
    · cases A with
      | none => simp [Builtin.append_, run_underlying ht, sizeOf, typeInfo, hi, Builtin.lenOf, Builtin.firstCells, loadCells, loadCellsFrom]
      | some a => simp [Builtin.append_, run_underlying ht, sizeOf, typeInfo, hi, Builtin.lenOf, Builtin.firstCells, loadCells, loadCellsFrom]
    · cases A with
      | none => simp [Builtin.append_, run_underlying ht, sizeOf, typeInfo, hi, Builtin.lenOf, Builtin.firstCells, loadCells, loadCellsFrom, hnc, storeCells]
      | some a => simp [Builtin.append_, run_underlying ht, sizeOf, typeInfo, hi, Builtin.lenOf, Builtin.firstCells, loadCells, loadCellsFrom, hnc, storeCells]
  · obtain ⟨a, rfl⟩ : ∃ a, A = some a := by
      cases A with
      | none => have := hA rfl; omega
      | some a => exact ⟨a, rfl⟩
    have hnews : ∀ j u, news[j]? = some u → w.cell? (a.add j) = some u := fun j u hu => by
      obtain ⟨b, off, hb, _, hc⟩ := hcells j u hu
      cases hb
      rw [add_plain]
      exact hc
    have grown : ∀ (old : Nat), old < n + m →
        OwnS (w.drew.alloc (.cells (xs.toArray ++ news.toArray ++ Builtin.zeroCells z.cells (grownCap w (n + m) old e - (n + m))) e)) e i.size
          (.slice (some ⟨w.heap.size, 0, none⟩) (n + m) (grownCap w (n + m) old e)) (n + m) (xs ++ news) ∧
        Fr (inB v) w (w.drew.alloc (.cells (xs.toArray ++ news.toArray ++ Builtin.zeroCells z.cells (grownCap w (n + m) old e - (n + m))) e)) := by
      intro old ho
      have hge := grownCap_ge w (n + m) old e
      have hcm : grownCap w (n + m) old e ≤ maxLen := grownCap_le_maxLen w (n + m) old e h63
      refine ⟨⟨hlen, .inr ⟨w.heap.size, _, _, rfl, Blk.new w.drew _ _, hge, hcm, ?_, ?_⟩⟩, ((Fr.refl _ _).drew).alloc _⟩
      · simp only [Array.size_append, List.size_toArray, size_zeroCells, hzs, hown.1, hl, ← Nat.add_mul]
        apply Nat.le_of_eq
        congr 1
        omega
      · simp only [Array.toList_append, List.append_assoc]
        rw [← List.append_assoc, ← hlen]
        exact List.take_left
    rcases hown.2 with ⟨rfl, rfl⟩ | ⟨g, cap, cur, rfl, hg, hnc, hcm', hcs, htake⟩
    · have hx : xs = [] := List.eq_nil_of_length_eq_zero (by simpa using hown.1)
      subst hx
      have hr := run_append_nil (P := P) w t ty e i z ht hi hz a m c news hl hnews (by omega) (by omega) (by have hb := hbytes; simp only [Nat.zero_add] at hb; omega)
      have hgr := grown 0 (by omega)
      simp only [Nat.zero_add, List.nil_append, Array.empty_append] at hgr ⊢
      exact ⟨_, _, hr, hgr.1, hgr.2, .inr rfl, fun h0 => absurd h0 (by omega)⟩
    · by_cases hroom : n + m ≤ cap
      · have hfit : n * i.size + news.length ≤ cur.size := by rw [hl, ← Nat.add_mul]; exact Nat.le_trans (Nat.mul_le_mul_right _ hroom) hcs
        have hr := run_append_room (P := P) w t ty e i ht hi g n cap cur hg a m c news hl hnews h1 hroom hfit
        refine ⟨_, _, hr, ⟨hlen, .inr ⟨g, cap, _, rfl, hg.setRow _, hroom, hcm', ?_, ?_⟩⟩, (Fr.refl (inB (.slice (some ⟨g, 0, none⟩) n cap)) _).setRow (.inl rfl) _, .inl rfl, fun h0 => absurd h0 (by omega)⟩
        · simp only [List.size_toArray, List.length_append, List.length_take, List.length_drop, Array.length_toList]
          omega
        · rw [htake, ← hlen]
          exact List.take_left
      · have holds : ∀ j u, xs[j]? = some u → w.cell? ((⟨g, 0, none⟩ : Addr).add j) = some u := fun j u hu => by
          obtain ⟨_, A', cap', hv, _, _, _, h4⟩ := hown.row
          obtain ⟨b, off, hb, _, hc⟩ := h4 j u hu
          simp at hv
          rw [← hv.1] at hb
          cases hb
          rw [add_plain]
          exact hc
        have hr := run_append_grow (P := P) w t ty e i z ht hi hz ⟨g, 0, none⟩ n cap xs hown.1 holds a m c news hl hnews (by omega) (by omega) (growslice_fits (by omega) hbytes)
        have hgr := grown cap (by omega)
        exact ⟨_, _, hr, hgr.1, hgr.2, .inr rfl, fun h0 => absurd h0 (by omega)⟩

/-- The same at the list of a region's operations. -/
theorem wpList_app {ops : Array Oper} {rest : List Oper} {o : Oper} {a : Act} {Q : Exit → Act → World → Prop} (hgd : o.guard = none) (s x : Operand) (t : TypeId)
    (ho : o.op = .call { callee := .builtin .append, args := #[s, x], argTypes := #[t, t] })
    (e : TypeId) (i : TypeInfo) (z : Value) (size bytes : Nat) (ht : P.underlying t = some (.slice e)) (hi : P.info? e = some i) (hz : i.zero = some z)
    (hsize : i.size = size) (hby : i.bytes = bytes) (hzs : z.cells.size = size) (hsz : 0 < size)
    (v : Value) (n : Nat) (xs : List Value) (hs : a.eval s = v) (hown : OwnS w e size v n xs) (S : Nat → Prop) (xv : Value) (m : Nat) (news : List Value) (hx : a.eval x = xv) (hrow : RowIn w S size xv m news)
    (h1 : ∀ u ∈ news, u.oneCell' = true) (h63 : n + m ≤ maxLen) (hbytes : (n + m) * bytes ≤ 140737488355328)
    (h : ∀ v' w', OwnS w' e size v' (n + m) (xs ++ news) → Fr (inB v) w w' → (v'.ownBlock = v.ownBlock ∨ v'.ownBlock = some w.heap.size) → (n + m = 0 → v' = v ∧ w' = w) → wpList P ops Q rest (a.put o.dst v') w') : wpList P ops Q (o :: rest) a w := by
  obtain ⟨v', w', hr, h2, h3, h4, h5⟩ := run_app (P := P) w t o.type e i z size bytes ht hi hz hsize hby hzs hsz v n xs hown S xv m news hrow h1 h63 hbytes
  unfold wpList
  rw [if_pos (by simp [Region.wanted, hgd])]
  left
  unfold Oper.wp execOp
  simp only [ho, resolve, invoke, builtin, Sem.run_bind, Sem.run_pure, Result.andThen_ok, List.map_toArray, List.map_cons, List.map_nil, hs, hx, hr]
  exact h v' w' h2 h3 h4 h5
/-- The same where the operation is guarded. -/
theorem wpList_appG {ops : Array Oper} {rest : List Oper} {o : Oper} {a : Act} {Q : Exit → Act → World → Prop} (hgd : Region.wanted o (yielded ops a.tmps) = true) (s x : Operand) (t : TypeId)
    (ho : o.op = .call { callee := .builtin .append, args := #[s, x], argTypes := #[t, t] })
    (e : TypeId) (i : TypeInfo) (z : Value) (size bytes : Nat) (ht : P.underlying t = some (.slice e)) (hi : P.info? e = some i) (hz : i.zero = some z)
    (hsize : i.size = size) (hby : i.bytes = bytes) (hzs : z.cells.size = size) (hsz : 0 < size)
    (v : Value) (n : Nat) (xs : List Value) (hs : a.eval s = v) (hown : OwnS w e size v n xs) (S : Nat → Prop) (xv : Value) (m : Nat) (news : List Value) (hx : a.eval x = xv) (hrow : RowIn w S size xv m news)
    (h1 : ∀ u ∈ news, u.oneCell' = true) (h63 : n + m ≤ maxLen) (hbytes : (n + m) * bytes ≤ 140737488355328)
    (h : ∀ v' w', OwnS w' e size v' (n + m) (xs ++ news) → Fr (inB v) w w' → (v'.ownBlock = v.ownBlock ∨ v'.ownBlock = some w.heap.size) → (n + m = 0 → v' = v ∧ w' = w) → wpList P ops Q rest (a.put o.dst v') w') : wpList P ops Q (o :: rest) a w := by
  obtain ⟨v', w', hr, h2, h3, h4, h5⟩ := run_app (P := P) w t o.type e i z size bytes ht hi hz hsize hby hzs hsz v n xs hown S xv m news hrow h1 h63 hbytes
  unfold wpList
  rw [if_pos hgd]
  left
  unfold Oper.wp execOp
  simp only [ho, resolve, invoke, builtin, Sem.run_bind, Sem.run_pure, Result.andThen_ok, List.map_toArray, List.map_cons, List.map_nil, hs, hx, hr]
  exact h v' w' h2 h3 h4 h5
end

/-- copy of whole elements into a block that is known whole. -/
theorem run_copyS {P : Program} {w : World} (dT sT ty e : TypeId) (i : TypeInfo) (hu : P.underlying dT = some (.slice e)) (hi : P.info? e = some i) (g o dLen dCap : Nat) (cur : Array Value) (hg : Blk w g cur e)
    (S : Nat → Prop) (x : Value) (m : Nat) (news : List Value) (hx : RowIn w S i.size x m news) (hm : m ≤ dLen) (hfit : o + news.length ≤ cur.size) (h1 : ∀ u ∈ news, u.oneCell' = true) :
    (Builtin.copy_ #[dT, sT] ty #[.slice (some ⟨g, o, none⟩) dLen dCap, x]).run P w = .ok (goInt m) (w.setRow g (cur.toList.take o ++ news ++ cur.toList.drop (o + news.length)).toArray) := by
  obtain ⟨hl, A, c, rfl, hmc, hcm, hA, hcells⟩ := hx
  have hst := run_storeCells_at P g o e news 0 cur w hg (by simpa using hfit) h1
  simp only [Nat.add_zero] at hst
  have hmin : Nat.min m dLen = m := Nat.min_eq_left hm
  have hf : (Builtin.firstCells i.size m (.slice A m c)).run P w = .ok news.toArray w := by
    cases A with
    | none =>
      have hc := hA rfl
      have hz : news = [] := List.length_eq_zero_iff.1 (by rw [hl, show m = 0 by omega, Nat.zero_mul])
      subst hz
      simp [Builtin.firstCells]
    | some a =>
      refine run_firstCells_some (P := P) w i.size m a m c news hl fun j u hu => ?_
      obtain ⟨b, off, hb, _, hc⟩ := hcells j u hu
      cases hb
      rw [add_plain]
      exact hc
  simp [Builtin.copy_, run_underlying hu, sizeOf, typeInfo, hi, Builtin.lenOf, hmin, hf, hst]
theorem wpList_copyS {P : Program} {w : World} {ops : Array Oper} {rest : List Oper} {o : Oper} {a : Act} {Q : Exit → Act → World → Prop} (hgd : o.guard = none) (d s : Operand) (dT sT : TypeId)
    (ho : o.op = .call { callee := .builtin .copy, args := #[d, s], argTypes := #[dT, sT] }) (e : TypeId) (i : TypeInfo) (hu : P.underlying dT = some (.slice e)) (hi : P.info? e = some i) (size : Nat) (hsz : i.size = size)
    (g off dLen dCap : Nat) (hd : a.eval d = .slice (some ⟨g, off, none⟩) dLen dCap) (cur : Array Value) (hg : Blk w g cur e)
    (S : Nat → Prop) (x : Value) (m : Nat) (news : List Value) (hs : a.eval s = x) (hx : RowIn w S size x m news) (hm : m ≤ dLen) (hfit : off + news.length ≤ cur.size) (h1 : ∀ u ∈ news, u.oneCell' = true)
    (h : wpList P ops Q rest (a.put o.dst (goInt m)) (w.setRow g (cur.toList.take off ++ news ++ cur.toList.drop (off + news.length)).toArray)) :
    wpList P ops Q (o :: rest) a w := by
  subst hsz
  have hr := run_copyS (P := P) dT sT o.type e i hu hi g off dLen dCap cur hg S x m news hx hm hfit h1
  unfold wpList
  rw [if_pos (by simp [Region.wanted, hgd])]
  left
  unfold Oper.wp execOp
  simp only [ho, resolve, invoke, builtin, Sem.run_bind, Sem.run_pure, Result.andThen_ok, List.map_toArray, List.map_cons, List.map_nil, hd, hs, hr]
  exact h
theorem OwnS.new0 (w : World) (e : TypeId) (size : Nat) : OwnS (w.alloc (.cells #[] e)) e size (.slice (some ⟨w.heap.size, 0, none⟩) 0 0) 0 [] :=
  ⟨by simp, .inr ⟨_, _, _, rfl, Blk.new w #[] e, Nat.le_refl _, by decide, by simp, by simp⟩⟩
/-- The slice lies in a block that w has not. -/
def NewV (w : World) (v : Value) : Prop := ∀ b, v.ownBlock = some b → w.heap.size ≤ b
theorem NewV.nil (w : World) : NewV w (.slice none 0 0) := fun b hb => by simp [Value.ownBlock] at hb
theorem NewV.le {w w' : World} {v : Value} (h : NewV w' v) (hs : w.heap.size ≤ w'.heap.size) : NewV w v := fun b hb => Nat.le_trans hs (h b hb)
theorem app_new {w wa w1 : World} {v v' : Value} (hn : NewV w v) (h0 : Fr Nob w wa) (hfr : Fr (inB v) wa w1) (hat : v'.ownBlock = v.ownBlock ∨ v'.ownBlock = some wa.heap.size) : Fr Nob w w1 ∧ NewV w v' :=
  ⟨h0.trans hfr fun i hi => .inr (hn i hi), fun b hb => by
    rcases hat with h | h
    · exact hn b (h ▸ hb)
    · rw [h] at hb; cases hb; exact h0.size⟩
theorem NewV.at (w : World) (n c : Nat) : NewV w (.slice (some ⟨w.heap.size, 0, none⟩) n c) := fun b hb => by simp [Value.ownBlock] at hb; omega
theorem run_slice_is_nil {P : Program} {t e : TypeId} (ht : P.underlying t = some (.slice e)) (A : Option Addr) (l c : Nat) (w : World) : (binOp .eql t (.slice A l c) (.slice none 0 0)).run P w = .ok (.bool A.isNone) w := Lib.run_eql_slice_nil w t e A l c 0 0 ht
/-! Parts of slices: 'xs[k:]', 'xs[:k]', 'xs[:k:k]'. -/
def dropV (size : Nat) (v : Value) (k : Nat) : Value := match v with
  | .slice A n cap => .slice (if cap = k then A else A.map (·.add (k * size))) (n - k) (cap - k)
  | v => v
def takeV (v : Value) (k : Nat) : Value := match v with
  | .slice A n cap => .slice A k cap
  | v => v
def cutV (v : Value) (k : Nat) : Value := match v with
  | .slice A n cap => .slice A k k
  | v => v
theorem sliced0 (a : Option Addr) (h m s : Nat) : sliced a 0 h m s = .slice a h m := by
  simp only [sliced, Nat.zero_mul, Nat.sub_zero]
  congr 1
  split
  · rfl
  · cases a <;> simp [Addr.add]
theorem run_dropV {P : Program} {t e : TypeId} {i : TypeInfo} (ht : P.underlying t = some (.slice e)) (hi : P.info? e = some i) (A : Option Addr) (n cap k : Nat) (hk : k ≤ n) (w : World) :
    (Instr.slice t (.slice A n cap) (some (.int .i64 k)) none none).run P w = .ok (dropV i.size (.slice A n cap) k) w := by
  have he : P.elem t = e := by simp [Program.elem, ht]
  rw [run_slice_l (P := P) w t A n cap (by rw [he]; exact ht) .i64 k (by omega) (by omega), he]
  simp [sizeOf, typeInfo, hi, sliced, dropV]
theorem run_takeV {P : Program} {t e : TypeId} {i : TypeInfo} (ht : P.underlying t = some (.slice e)) (hi : P.info? e = some i) (A : Option Addr) (n cap k : Nat) (hk : k ≤ cap) (w : World) :
    (Instr.slice t (.slice A n cap) none (some (.int .i64 k)) none).run P w = .ok (takeV (.slice A n cap) k) w := by
  have he : P.elem t = e := by simp [Program.elem, ht]
  rw [run_slice_h (P := P) w t A n cap (by rw [he]; exact ht) .i64 k (by omega) (by omega), he]
  simp [sizeOf, typeInfo, hi, sliced0, takeV]
theorem run_cutV {P : Program} {t e : TypeId} {i : TypeInfo} (ht : P.underlying t = some (.slice e)) (hi : P.info? e = some i) (A : Option Addr) (n cap k : Nat) (hk : k ≤ cap) (w : World) :
    (Instr.slice t (.slice A n cap) none (some (.int .i64 k)) (some (.int .i64 k))).run P w = .ok (cutV (.slice A n cap) k) w := by
  have he : P.elem t = e := by simp [Program.elem, ht]
  rw [run_slice_hm (P := P) w t A n cap (by rw [he]; exact ht) .i64 .i64 k k (by omega) (by omega) (by omega), he]
  simp [sizeOf, typeInfo, hi, sliced0, cutV]
theorem RowIn.dropV {w : World} {S : Nat → Prop} {size n : Nat} {v : Value} {cs : List Value} (h : RowIn w S size v n cs) (k : Nat) (hk : k ≤ n) (hs : 0 < size) : RowIn w S size (dropV size v k) (n - k) (cs.drop (k * size)) := by
  obtain ⟨hl, A, cap, rfl, h1, h2, h3, h4⟩ := h
  refine ⟨by rw [List.length_drop, hl, Nat.sub_mul], (if cap = k then A else A.map (·.add (k * size))), cap - k, rfl, by omega, by omega, fun hA => ?_, fun j u hu => ?_⟩
  · split at hA
    · omega
    · have : A = none := by simpa using hA
      have := h3 this; omega
  · rw [List.getElem?_drop] at hu
    obtain ⟨b, off, rfl, hS, hc⟩ := h4 _ _ hu
    have hlt : k * size + j < n * size := by rw [← hl]; exact (List.getElem?_eq_some_iff.1 hu).1
    have hne : cap ≠ k := by
      rintro rfl
      have := Nat.mul_le_mul_right size h1
      omega
    exact ⟨b, off + k * size, by rw [if_neg hne]; simp [add_plain], hS, by rw [Nat.add_assoc]; exact hc⟩
theorem RowIn.takeV {w : World} {S : Nat → Prop} {size n : Nat} {v : Value} {cs : List Value} (h : RowIn w S size v n cs) (k : Nat) (hk : k ≤ n) : RowIn w S size (takeV v k) k (cs.take (k * size)) := by
  obtain ⟨hl, A, cap, rfl, h1, h2, h3, h4⟩ := h
  refine ⟨?_, A, cap, rfl, by omega, h2, h3, fun j u hu => ?_⟩
  · rw [List.length_take, hl, Nat.min_eq_left (Nat.mul_le_mul_right _ hk)]
  · rw [List.getElem?_take] at hu
    split at hu
    · exact h4 j u hu
    · cases hu
theorem OwnS.takeV {w : World} {e : TypeId} {size n : Nat} {v : Value} {cs : List Value} (h : OwnS w e size v n cs) (k : Nat) (hk : k ≤ n) : OwnS w e size (takeV v k) k (cs.take (k * size)) ∧ (takeV v k).ownBlock = v.ownBlock := by
  rcases h with ⟨hl, ⟨rfl, rfl⟩ | ⟨g, cap, cur, rfl, hb, h1, h2, h3, h4⟩⟩
  · obtain rfl : k = 0 := by omega
    exact ⟨⟨by simp, .inl ⟨rfl, rfl⟩⟩, rfl⟩
  · refine ⟨⟨?_, .inr ⟨g, cap, cur, rfl, hb, by omega, h2, h3, ?_⟩⟩, rfl⟩
    · rw [List.length_take, hl, Nat.min_eq_left (Nat.mul_le_mul_right _ hk)]
    · rw [← h4, List.take_take, Nat.min_eq_left (Nat.mul_le_mul_right _ hk)]
theorem OwnS.cutV {w : World} {e : TypeId} {size n : Nat} {v : Value} {cs : List Value} (h : OwnS w e size v n cs) (k : Nat) (hk : k ≤ n) : OwnS w e size (cutV v k) k (cs.take (k * size)) ∧ (cutV v k).ownBlock = v.ownBlock := by
  rcases h with ⟨hl, ⟨rfl, rfl⟩ | ⟨g, cap, cur, rfl, hb, h1, h2, h3, h4⟩⟩
  · obtain rfl : k = 0 := by omega
    exact ⟨⟨by simp, .inl ⟨rfl, rfl⟩⟩, rfl⟩
  · refine ⟨⟨?_, .inr ⟨g, k, cur, rfl, hb, Nat.le_refl _, by omega, Nat.le_trans (Nat.mul_le_mul_right _ (by omega)) h3, ?_⟩⟩, rfl⟩
    · rw [List.length_take, hl, Nat.min_eq_left (Nat.mul_le_mul_right _ hk)]
    · rw [← h4, List.take_take, Nat.min_eq_left (Nat.mul_le_mul_right _ hk)]
/-- Elements of an owned slice are stored over. -/
theorem OwnS.store {w : World} {e : TypeId} {size n : Nat} {v : Value} {cs : List Value} (h : OwnS w e size v n cs) {g : Nat} (hv : v.ownBlock = some g) (i : Nat) (hi : i < n * size) (u : Value) :
    OwnS (w.setCell ⟨g, i, none⟩ u) e size v n (cs.set i u) := by
  rcases h with ⟨hl, ⟨rfl, rfl⟩ | ⟨g', cap, cur, rfl, hb, h1, h2, h3, h4⟩⟩
  · simp [Value.ownBlock] at hv
  · simp [Value.ownBlock] at hv
    subst hv
    refine ⟨by rw [List.length_set, hl], .inr ⟨g', cap, _, rfl, hb.set i u, h1, h2, by simpa using h3, ?_⟩⟩
    rw [Array.toList_setIfInBounds, List.take_set, h4]
theorem splice_take {α : Type} (L news : List α) (o N : Nat) (h : o + news.length ≤ N) (hN : N ≤ L.length) :
    (L.take o ++ news ++ L.drop (o + news.length)).take N = (L.take N).take o ++ news ++ (L.take N).drop (o + news.length) := by
  have e1 : (L.take N).take o = L.take o := by rw [List.take_take, Nat.min_eq_left (by omega)]
  have e2 : (L.take o ++ news).length = o + news.length := by simp; omega
  rw [e1, List.take_append, e2, List.take_of_length_le (by omega), List.drop_take]
/-- The block of an owned slice, and what a copy into it leaves. -/
theorem OwnS.cur {w : World} {e : TypeId} {size n : Nat} {v : Value} {cs : List Value} (h : OwnS w e size v n cs) {g : Nat} (hv : v.ownBlock = some g) :
    ∃ cur, Blk w g cur e ∧ n * size ≤ cur.size ∧ ∀ w' : World, Blk w' g cur e → ∀ (o : Nat) (news : List Value), o + news.length ≤ n * size →
      OwnS (w'.setRow g (cur.toList.take o ++ news ++ cur.toList.drop (o + news.length)).toArray) e size v n (cs.take o ++ news ++ cs.drop (o + news.length)) := by
  rcases h with ⟨hl, ⟨rfl, rfl⟩ | ⟨g', cap, cur, rfl, hb, h1, h2, h3, h4⟩⟩
  · simp [Value.ownBlock] at hv
  · simp [Value.ownBlock] at hv
    subst hv
    have hsz : n * size ≤ cur.size := Nat.le_trans (Nat.mul_le_mul_right _ h1) h3
    refine ⟨cur, hb, hsz, fun w' hw' o news ho => ⟨?_, .inr ⟨g', cap, _, rfl, hw'.setRow _, h1, h2, ?_, ?_⟩⟩⟩
    · simp only [List.length_append, List.length_take, List.length_drop, hl]; omega
    · simp only [List.size_toArray, List.length_append, List.length_take, List.length_drop, Array.length_toList]
      omega
    · rw [← h4]
      exact splice_take _ _ _ _ ho (by simpa using hsz)
/-! Results that lie in memory. -/
theorem results_ct {P : Program} {fn : Func} {p u : Tmp} {ty : TypeId} (h : fn.results = #[.cell p ty, .tmp u]) (tmps : Array Value) (w : World) (g : Nat) (t : TypeId) (cs : Array Value) (d : TypeDesc)
    (hp : tmps.getD p undef = .pointer (some ⟨g, 0, none⟩)) (hg : Blk w g cs t)
    (hu : P.underlying ty = some d) (hd : (match d with | .struct _ | .array _ _ => true | _ => false) = true) (hi : (P.info? ty).map (·.size) = some cs.size) :
    (results fn tmps).run P w = .ok (.tuple #[.agg cs, tmps.getD u undef]) w := by
  have hp' : tmps[p]?.getD undef = .pointer (some ⟨g, 0, none⟩) := by simpa using hp
  simp [results, h, hp', asAddr, run_loadVar_row w g t ty cs (0, 0) d hg hu hd hi]
theorem results_c {P : Program} {fn : Func} {p : Tmp} {ty : TypeId} (h : fn.results = #[.cell p ty]) (tmps : Array Value) (w : World) (g : Nat) (t : TypeId) (cs : Array Value) (d : TypeDesc)
    (hp : tmps.getD p undef = .pointer (some ⟨g, 0, none⟩)) (hg : Blk w g cs t)
    (hu : P.underlying ty = some d) (hd : (match d with | .struct _ | .array _ _ => true | _ => false) = true) (hi : (P.info? ty).map (·.size) = some cs.size) :
    (results fn tmps).run P w = .ok (.agg cs) w := by
  have hp' : tmps[p]?.getD undef = .pointer (some ⟨g, 0, none⟩) := by simpa using hp
  simp [results, h, hp', asAddr, run_loadVar_row w g t ty cs (0, 0) d hg hu hd hi]
/-! '==' of structs, field by field. -/
section
variable {P : Program} {d : Nat} {xs ys : Array Value} {f : Field} {fs : List Field} {a b : Value} {r s : Bool} {w : World}
theorem eqf_nil : (Op.eqFields d xs ys []).run P w = .ok true w := by simp [Op.eqFields]
theorem eqf_cons (hn : (f.name == "_") = false) (ha : (part f.type xs f.offset).run P w = .ok a w) (hb : (part f.type ys f.offset).run P w = .ok b w) (he : (Op.equalIn d f.type a b).run P w = .ok r w)
    (hr : (Op.eqFields d xs ys fs).run P w = .ok s w) : (Op.eqFields d xs ys (f :: fs)).run P w = .ok (r && s) w := by
  have hn' : f.name ≠ "_" := by simpa using hn
  rw [Op.eqFields]
  simp only [if_pos hn', Sem.run_bind, ha, hb, he, Result.andThen_ok]
  cases r
  · simp
  · simpa using hr
theorem eq_struct {t : TypeId} {fl : Array Field} (hu : P.underlying t = some (.struct fl)) (hp : P.stoodInHeld t = false) (h : (Op.eqFields d xs ys fl.toList).run P w = .ok r w) : (Op.equalIn (d + 1) t (.agg xs) (.agg ys)).run P w = .ok r w := by
  have hf : P.fieldsOf t = fl := by simp [Program.fieldsOf, hu]
  rw [run_equalIn_struct (P := P) w d t xs ys (by rw [hf]; exact hu) hp, hf]
  exact h
end
theorem take_more {α : Type} {a b : List α} {k : Nat} (h : a.take k = b.take k) (ha : k < a.length) (hb : k < b.length) (he : a[k] = b[k]) : a.take (k + 1) = b.take (k + 1) := by
  rw [List.take_succ_eq_append_getElem ha, List.take_succ_eq_append_getElem hb, h, he]
theorem take_all {α : Type} {a b : List α} {k : Nat} (h : a.take k = b.take k) (ha : a.length ≤ k) (hb : b.length ≤ k) : a = b := by
  rwa [List.take_of_length_le ha, List.take_of_length_le hb] at h
theorem ret_bool {a b : Bool} (h : a = b) : Ending.returned (.bool a) = .returned (.bool b) := by rw [h]
theorem ret_i64 {a b : Int} (h : a = b) : Ending.returned (.int .i64 a) = .returned (.int .i64 b) := by rw [h]
theorem ret_val {a b : Value} (h : a = b) : Ending.returned a = .returned b := by rw [h]
theorem drewN_two (w : World) (n m : Nat) : (w.drewN n).drewN m = w.drewN (n + m) := by simp [World.drewN, Nat.add_assoc]
theorem str_beq (a b : ByteArray) : (a.toList == b.toList) = decide (a = b) := by
  rw [Bool.eq_iff_iff, Go.ByteArray.toList_eq, Go.ByteArray.toList_eq]
  obtain ⟨⟨x⟩⟩ := a
  obtain ⟨⟨y⟩⟩ := b
  simp
end Go.Proofs.YtkkejjfmidgciaaDoor
/- Points, segments; the walks of fix.Fits, of path's fits. -/
namespace Go.Proofs.YtkkejjfmidgciaaDoor
open Go.RowKit
set_option linter.unusedVariables false
set_option linter.unusedSimpArgs false
structure Pt where
  x : Int
  y : Int
deriving DecidableEq
def encP (p : Pt) : List Value := [.int .i64 p.x, .int .i64 p.y]
def ptV (p : Pt) : Value := .agg #[.int .i64 p.x, .int .i64 p.y]
def encPs (l : List Pt) : List Value := l.flatMap encP
def fitZ (z : Int) : Bool := decide (-2147483648 ≤ z ∧ z ≤ 2147483647)
def fitP (p : Pt) : Bool := fitZ p.x && fitZ p.y
theorem encPs_len (l : List Pt) : (encPs l).length = l.length * 2 := by
  induction l with
  | nil => rfl
  | cons a r ih => simp only [encPs, List.flatMap_cons, List.length_append, List.length_cons] at *; rw [ih]; simp [encP]; omega
theorem encPs_at (l : List Pt) (k j : Nat) (hk : k < l.length) (hj : j < 2) : (encPs l)[k * 2 + j]? = (encP l[k])[j]? := by
  induction l generalizing k with
  | nil => simp at hk
  | cons a r ih =>
    have hc : encPs (a :: r) = encP a ++ encPs r := by simp [encPs]
    rw [hc]
    cases k with
    | zero => rw [List.getElem?_append_left (by simp [encP]; omega)]; simp
    | succ k =>
      rw [List.getElem?_append_right (by simp [encP]; omega), show (k + 1) * 2 + j - (encP a).length = k * 2 + j by simp [encP]; omega]
      exact ih k (by simpa using hk)
theorem RowIn.pt {w : World} {S : Nat → Prop} {v : Value} {l : List Pt} (h : RowIn w S 2 v l.length (encPs l)) (hn : 0 < l.length) :
    ∃ b off cap, v = .slice (some ⟨b, off, none⟩) l.length cap ∧ l.length ≤ cap ∧ cap ≤ 9223372036854775807 ∧ S b ∧ ∀ k (hk : k < l.length), w.cell? ⟨b, off + k * 2, none⟩ = some (.int .i64 l[k].x) ∧ w.cell? ⟨b, off + k * 2 + 1, none⟩ = some (.int .i64 l[k].y) := by
  obtain ⟨b, off, cap, hv, h1, h2, hS, hc⟩ := h.pos (by rw [encPs_len]; omega)
  refine ⟨b, off, cap, hv, h1, h2, hS, fun k hk => ⟨?_, ?_⟩⟩
  · exact hc (k * 2 + 0) _ (by rw [encPs_at l k 0 hk (by omega)]; rfl)
  · rw [Nat.add_assoc]; exact hc (k * 2 + 1) _ (by rw [encPs_at l k 1 hk (by omega)]; rfl)

theorem fix_fits (z : Int) (w : World) : Calls Tryd.prog 109 #[.int .i64 z] w fun e w' => e = .returned (.bool (fitZ z)) ∧ w = w' := by
  by_cases h1 : -2147483648 ≤ z
  · have d1 : decide (-2147483648 ≤ z) = true := by simpa using h1
    rw [show fitZ z = decide (z ≤ 2147483647) by simp [fitZ, h1]]
    go_enter Tryd.func109, Tryd.ntmps109
    go_wp2
    go_ret
    exact ⟨rfl, rfl⟩
  · have d1 : decide (-2147483648 ≤ z) = false := by simpa using h1
    rw [show fitZ z = false by simp [fitZ, h1]]
    go_enter Tryd.func109, Tryd.ntmps109
    go_wp2
    go_ret
    exact ⟨rfl, rfl⟩

theorem fits1_any (p : Pt) (w : World) : Calls Tryd.prog 131 #[ptV p] w fun e w' => e = .returned (.bool (!fitP p)) ∧ Fr Nob w w' := by
  unfold ptV
  by_cases h : fitZ p.x
  · rw [show (!fitP p) = !fitZ p.y by simp [fitP, h]]
    go_enter Tryd.func131, Tryd.ntmps131
    go_wp2_with fail
    refine (fix_fits p.x _).mono ?_
    rintro e w1 ⟨rfl, rfl⟩
    rw [h]
    go_wp2_with fail
    refine (fix_fits p.y _).mono ?_
    rintro e w1 ⟨rfl, rfl⟩
    go_wp2_with fail
    go_ret
    exact ⟨rfl, (Fr.refl _ _).alloc _⟩
  · have hf : fitZ p.x = false := by simpa using h
    rw [show (!fitP p) = true by simp [fitP, hf]]
    clear h
    go_enter Tryd.func131, Tryd.ntmps131
    go_wp2_with fail
    refine (fix_fits p.x _).mono ?_
    rintro e w1 ⟨rfl, rfl⟩
    rw [hf]
    go_wp2_with fail
    go_ret
    exact ⟨rfl, (Fr.refl _ _).alloc _⟩
end Go.Proofs.YtkkejjfmidgciaaDoor
/- The walks of slices.ContainsFunc over points, of path's fits. -/
namespace Go.Proofs.YtkkejjfmidgciaaDoor
open Go.RowKit
set_option linter.unusedVariables false
set_option linter.unusedSimpArgs false
/-- A function of a point that answers one bool. -/
def Asks (n : Nat) (P : Pt → Bool) : Prop := ∀ (p : Pt) (w : World), Calls Tryd.prog n #[.agg #[.int .i64 p.x, .int .i64 p.y]] w fun e w' => e = .returned (.bool (P p)) ∧ Fr Nob w w'
theorem any_none {l : List Pt} {P : Pt → Bool} {k : Nat} (h : ∀ j (hj : j < l.length), j < k → P l[j] = false) (hk : l.length ≤ k) : l.any P = false := by
  rw [List.any_eq_false]
  intro x hx
  obtain ⟨i, hi, rfl⟩ := List.mem_iff_getElem.1 hx
  rw [h i hi (by omega)]; simp
theorem any_some {l : List Pt} {P : Pt → Bool} {k : Nat} (hk : k < l.length) (h : P l[k] = true) : l.any P = true := by
  rw [List.any_eq_true]; exact ⟨_, List.getElem_mem hk, h⟩

set_option maxHeartbeats 400000 in
theorem index_any (n : Nat) (P : Pt → Bool) (hn : n = 131 ∨ n = 129) (hP : Asks n P) (v : Value) (l : List Pt) (S : Nat → Prop) (w : World) (h : RowIn w S 2 v l.length (encPs l)) :
    Calls Tryd.prog 144 #[v, .func (.func n) #[] #[]] w fun e w' => ∃ r : Int, e = .returned (.int .i64 r) ∧ -1 ≤ r ∧ r ≤ 9223372036854775807 ∧ decide (0 ≤ r) = l.any P ∧ Fr Nob w w' := by
  have HP := Lib.hid hP
  clear hP
  by_cases h0 : l.length = 0
  · obtain rfl : l = [] := List.length_eq_zero_iff.1 h0
    obtain ⟨_, A, c, rfl, _⟩ := h
    go_enter Tryd.func144, Tryd.ntmps144
    go_wp2
    go_loopw [8] (fun q wr => q = .int .i64 0 ∧ wr = w) (fun _ _ => 0)
    case atStart => exact ⟨rfl, rfl⟩
    case round =>
      obtain ⟨rfl, rfl⟩ := hrel
      go_wp2
      go_ret
      exact ⟨-1, rfl, by omega, by omega, rfl, Fr.refl _ _⟩
  · obtain ⟨b, off, cap, rfl, h1, h2, _, hA⟩ := h.pt (by omega)
    have HA := Lib.hid hA
    clear h hA
    go_enter Tryd.func144, Tryd.ntmps144
    go_wp2
    go_loopw [8] (fun q wr => ∃ k : Nat, k ≤ l.length ∧ q = .int .i64 k ∧ Hid (∀ j (hj : j < l.length), j < k → P l[j] = false) ∧ Hid (Fr Nob w wr)) (fun q _ => l.length - (intOf q).toNat)
    case atStart => exact ⟨0, by omega, rfl, fun j _ h => by omega, Fr.refl _ _⟩
    case round =>
      obtain ⟨k, hk, rfl, HT, HF⟩ := hrel
      by_cases hlt : k < l.length
      · obtain ⟨a0, a1⟩ := HA.out k hlt
        have b0 := cell_nob a0 HF.out
        have b1 := cell_nob a1 HF.out
        clear a0 a1
        have i1 : (k : Int) < l.length := by omega
        have step : ∀ w, Calls Tryd.prog n #[.agg #[.int .i64 l[k].x, .int .i64 l[k].y]] w fun e w' => e = .returned (.bool (P l[k])) ∧ Fr Nob w w' := fun w => HP.out l[k] w
        have HS := Lib.hid step
        clear step
        by_cases hp : P l[k]
        · have HA := Lib.hid (any_some hlt hp)
          rw [hp] at HS
          clear hp
          rcases hn with rfl | rfl
          all_goals
            go_wp2_with fail
            refine (HS.out _).mono ?_
            rintro e w1 ⟨rfl, hf⟩
            have HF1 := Lib.hid (HF.out.trans0 hf)
            clear hf
            go_wp2_with fail
            go_ret
            exact ⟨k, rfl, by omega, by omega, by rw [HA.out]; simp, HF1.out⟩
        · have hp' : P l[k] = false := by simpa using hp
          have HT2 := Lib.hid (show ∀ j (hj : j < l.length), j < k + 1 → P l[j] = false by
            intro j hj hjk
            rcases Nat.lt_or_ge j k with h | h
            · exact HT.out j hj h
            · obtain rfl : j = k := by omega
              exact hp')
          rw [hp'] at HS
          clear hp hp'
          rcases hn with rfl | rfl
          all_goals
            go_wp2_with fail
            refine (HS.out _).mono ?_
            rintro e w1 ⟨rfl, hf⟩
            have HF1 := Lib.hid (HF.out.trans0 hf)
            clear hf
            go_wp2_with fail
            go_roundw
            case rel => exact ⟨k + 1, by omega, by go_num, HT2, HF1⟩
            case measure => simp [intOf]; omega
      · have HA := Lib.hid (any_none HT.out (by omega))
        have hge : l.length ≤ k := by omega
        go_wp2
        go_ret
        exact ⟨-1, rfl, by omega, by omega, by rw [HA.out]; simp, HF.out⟩
theorem contains_any (n : Nat) (P : Pt → Bool) (hn : n = 131 ∨ n = 129) (hP : Asks n P) (v : Value) (l : List Pt) (S : Nat → Prop) (w : World) (h : RowIn w S 2 v l.length (encPs l)) :
    Calls Tryd.prog 128 #[v, .func (.func n) #[] #[]] w fun e w' => e = .returned (.bool (l.any P)) ∧ Fr Nob w w' := by
  have HI := Lib.hid (index_any n P hn hP v l S w h)
  obtain ⟨A, cap, rfl, _, _⟩ : ∃ A c, v = .slice A l.length c ∧ l.length ≤ c ∧ c ≤ maxLen := by obtain ⟨_, A, c, h, h1, h2, _⟩ := h; exact ⟨A, c, h, h1, h2⟩
  clear h hP
  go_enter Tryd.func128, Tryd.ntmps128
  go_wp2_with fail
  refine HI.out.mono ?_
  rintro e w1 ⟨r, rfl, hr1, hr2, hr, hf⟩
  have HR := Lib.hid hr
  have HF := Lib.hid hf
  clear hr hf
  go_wp2_with fail
  go_ret
  exact ⟨ret_bool HR.out, HF.out⟩
theorem asks_fits : Asks 131 fun p => !fitP p := fun p w => fits1_any p w
theorem all_any (l : List Pt) : l.all fitP = !l.any (fun p => !fitP p) := by
  induction l with
  | nil => rfl
  | cons a r ih => rw [List.all_cons, List.any_cons, ih]; cases fitP a <;> simp
theorem fits_any (v : Value) (l : List Pt) (S : Nat → Prop) (w : World) (h : RowIn w S 2 v l.length (encPs l)) :
    Calls Tryd.prog 105 #[v] w fun e w' => e = .returned (.bool (l.all fitP)) ∧ Fr Nob w w' := by
  have HI := Lib.hid (contains_any 131 _ (.inl rfl) asks_fits v l S w h)
  have he := all_any l
  obtain ⟨A, cap, rfl, _, _⟩ : ∃ A c, v = .slice A l.length c ∧ l.length ≤ c ∧ c ≤ maxLen := by obtain ⟨_, A, c, h, h1, h2, _⟩ := h; exact ⟨A, c, h, h1, h2⟩
  rw [he]
  clear h he
  generalize l.any (fun p => !fitP p) = q at *
  go_enter Tryd.func105, Tryd.ntmps105
  go_wp2_with fail
  refine HI.out.mono ?_
  rintro e w1 ⟨rfl, hf⟩
  have HF := Lib.hid hf
  clear hf
  go_wp2_with fail
  go_ret
  exact ⟨rfl, HF.out⟩
end Go.Proofs.YtkkejjfmidgciaaDoor
/- Segments and paths as Lean values; the walks of Clone, last, add. -/
namespace Go.Proofs.YtkkejjfmidgciaaDoor
open Go.RowKit
set_option linter.unusedVariables false
set_option linter.unusedSimpArgs false
structure Sg where
  kind : Int
  a : Pt
  b : Pt
  c : Pt
deriving DecidableEq
def oo : Pt := ⟨0, 0⟩
def encS (s : Sg) : List Value := [.int .i64 s.kind, .int .i64 s.a.x, .int .i64 s.a.y, .int .i64 s.b.x, .int .i64 s.b.y, .int .i64 s.c.x, .int .i64 s.c.y]
def encSs (l : List Sg) : List Value := l.flatMap encS
theorem encSs_cons (a : Sg) (r : List Sg) : encSs (a :: r) = encS a ++ encSs r := by simp [encSs]
theorem encSs_len (l : List Sg) : (encSs l).length = l.length * 7 := by
  induction l with
  | nil => rfl
  | cons a r ih => rw [encSs_cons, List.length_append, List.length_cons, ih]; simp [encS]; omega
theorem encSs_append (a b : List Sg) : encSs (a ++ b) = encSs a ++ encSs b := by simp [encSs]
theorem encSs_one (l : List Sg) : ∀ u ∈ encSs l, u.oneCell' = true := by
  intro u hu
  simp only [encSs, List.mem_flatMap, encS] at hu
  obtain ⟨x, _, hx⟩ := hu
  simp only [List.mem_cons, List.not_mem_nil, or_false] at hx
  rcases hx with rfl | rfl | rfl | rfl | rfl | rfl | rfl <;> rfl
theorem encSs_at (l : List Sg) (k j : Nat) (hk : k < l.length) (hj : j < 7) : (encSs l)[k * 7 + j]? = (encS l[k])[j]? := by
  induction l generalizing k with
  | nil => simp at hk
  | cons a r ih =>
    rw [encSs_cons]
    cases k with
    | zero => rw [List.getElem?_append_left (by simp [encS]; omega)]; simp
    | succ k =>
      rw [List.getElem?_append_right (by simp [encS]; omega), show (k + 1) * 7 + j - (encS a).length = k * 7 + j by simp [encS]; omega]
      exact ih k (by simpa using hk)
structure SgAt (w : World) (b off : Nat) (o : Sg) : Prop where
  c0 : w.cell? ⟨b, off, none⟩ = some (.int .i64 o.kind)
  c1 : w.cell? ⟨b, off + 1, none⟩ = some (.int .i64 o.a.x)
  c2 : w.cell? ⟨b, off + 2, none⟩ = some (.int .i64 o.a.y)
  c3 : w.cell? ⟨b, off + 3, none⟩ = some (.int .i64 o.b.x)
  c4 : w.cell? ⟨b, off + 4, none⟩ = some (.int .i64 o.b.y)
  c5 : w.cell? ⟨b, off + 5, none⟩ = some (.int .i64 o.c.x)
  c6 : w.cell? ⟨b, off + 6, none⟩ = some (.int .i64 o.c.y)
theorem SgAt.fr {S : Nat → Prop} {w w' : World} {b off : Nat} {o : Sg} (h : SgAt w b off o) (hf : Fr S w w') (hn : ¬ S b) : SgAt w' b off o :=
  ⟨cell_fr h.c0 hf hn, cell_fr h.c1 hf hn, cell_fr h.c2 hf hn, cell_fr h.c3 hf hn, cell_fr h.c4 hf hn, cell_fr h.c5 hf hn, cell_fr h.c6 hf hn⟩
theorem RowIn.sg {w : World} {S : Nat → Prop} {v : Value} {l : List Sg} (h : RowIn w S 7 v l.length (encSs l)) (hn : 0 < l.length) :
    ∃ b off cap, v = .slice (some ⟨b, off, none⟩) l.length cap ∧ l.length ≤ cap ∧ cap ≤ 9223372036854775807 ∧ S b ∧ ∀ k (hk : k < l.length), SgAt w b (off + k * 7) l[k] := by
  obtain ⟨b, off, cap, hv, h1, h2, hS, hc⟩ := h.pos (by rw [encSs_len]; omega)
  refine ⟨b, off, cap, hv, h1, h2, hS, fun k hk => ?_⟩
  have hj : ∀ j v, j < 7 → (encS l[k])[j]? = some v → w.cell? ⟨b, off + k * 7 + j, none⟩ = some v := fun j v hj hv => by
    rw [Nat.add_assoc]
    exact hc _ _ (by rw [encSs_at l k j hk hj]; exact hv)
  exact ⟨hj 0 _ (by omega) rfl, hj 1 _ (by omega) rfl, hj 2 _ (by omega) rfl, hj 3 _ (by omega) rfl, hj 4 _ (by omega) rfl, hj 5 _ (by omega) rfl, hj 6 _ (by omega) rfl⟩
theorem OwnS.sg {w : World} {v : Value} {l : List Sg} {n : Nat} (h : OwnS w 91 7 v n (encSs l)) (hl : l.length = n) (hn : 0 < l.length) :
    ∃ b cap, v = .slice (some ⟨b, 0, none⟩) n cap ∧ n ≤ cap ∧ cap ≤ 9223372036854775807 ∧ ∀ k (hk : k < l.length), SgAt w b (k * 7) l[k] := by
  subst hl
  obtain ⟨b, off, cap, hv, h1, h2, _, hc⟩ := h.row.sg hn
  rcases h.2 with ⟨h0, _⟩ | ⟨g, cap', cur, h0, _⟩
  · rw [hv] at h0; cases h0
  · rw [hv] at h0
    cases h0
    refine ⟨b, cap, hv, h1, h2, fun k hk => ?_⟩
    have := hc k hk
    rwa [Nat.zero_add] at this

theorem info43 : (Tryd.prog.info? 91).map (fun i => (i.zero, i.size, i.bytes)) = some (some (.agg #[.int .i64 0, .int .i64 0, .int .i64 0, .int .i64 0, .int .i64 0, .int .i64 0, .int .i64 0]), 7, 56) := by kernel_rfl

theorem clone_any (v : Value) (l : List Sg) (S : Nat → Prop) (w : World) (h : RowIn w S 7 v l.length (encSs l)) (hs : l.length * 56 ≤ 140737488351232) :
    Calls Tryd.prog 84 #[v] w fun e w' => ∃ vo, e = .returned vo ∧ OwnS w' 91 7 vo l.length (encSs l) ∧ Fr Nob w w' ∧ NewV w vo := by
  obtain ⟨i0, hi, hz0, hz1, hz2⟩ := info_parts info43
  have hlen := h.len_le
  obtain ⟨A, cap, rfl, h1, h2⟩ : ∃ A c, v = .slice A l.length c ∧ l.length ≤ c ∧ c ≤ maxLen := by obtain ⟨_, A, c, h, h1, h2, _⟩ := h; exact ⟨A, c, h, h1, h2⟩
  have HH := Lib.hid h
  cases A with
  | none =>
    have hc : cap = 0 := by obtain ⟨_, A, c, h, _, _, h3, _⟩ := h; cases h; exact h3 rfl
    subst hc
    have hl : l = [] := List.length_eq_zero_iff.1 (by omega)
    subst hl
    clear h HH
    have kn := fun A l c w => run_slice_is_nil Tryd.underlying25 A l c w
    go_enter Tryd.func84, Tryd.ntmps84
    go_wp2
    go_ret
    exact ⟨_, rfl, OwnS.nil _ _ _, Fr.refl _ _, fun b hb => by simp [Value.ownBlock] at hb⟩
  | some a =>
    clear h
    have kn := fun A l c w => run_slice_is_nil Tryd.underlying25 A l c w
    have hrow : RowIn (w.alloc (.cells #[] 91)) S 7 (.slice (some a) l.length cap) l.length (encSs l) := HH.out.fr (T := Nob) ((Fr.refl _ _).alloc _) (fun _ _ hf => hf)
    have HR := Lib.hid hrow
    clear hrow HH
    go_enter Tryd.func84, Tryd.ntmps84
    go_wp2_with (at_builtin; refine wpList_app _ rfl _ _ 25 rfl 91 i0 _ 7 56 Tryd.underlying25 hi hz0 hz1 hz2 rfl (by decide) _ 0 [] rfl (OwnS.new0 w 91 7) S _ l.length (encSs l) rfl HR.out ?c1 ?c2 ?c3 ?_)
    case c1 => exact encSs_one l
    case c2 => unfold maxLen at *; omega
    case c3 => omega
    intro v' w1 hown hfr hat _
    go_wp2
    go_ret
    have hN := app_new (w := w) (NewV.at w 0 0) ((Fr.refl _ _).alloc _) hfr (by simpa using hat)
    exact ⟨v', rfl, by simpa using hown, hN.1, hN.2⟩

/-- A path. -/
structure PS where
  most : Int
  list : List Sg
  start : Pt
  now : Pt
def Pth (w : World) (g : Nat) (v : Value) (p : PS) : Prop :=
  Blk w g #[.int .i64 p.most, v, .int .i64 p.start.x, .int .i64 p.start.y, .int .i64 p.now.x, .int .i64 p.now.y] 131 ∧ OwnS w 91 7 v p.list.length (encSs p.list)
/-- Its blocks. -/
def ptB (g : Nat) (v : Value) : Nat → Prop := fun k => k = g ∨ v.ownBlock = some k
structure PthC (w : World) (g : Nat) (v : Value) (p : PS) : Prop where
  c0 : w.cell? ⟨g, 0, none⟩ = some (.int .i64 p.most)
  c1 : w.cell? ⟨g, 1, none⟩ = some v
  c2 : w.cell? ⟨g, 2, none⟩ = some (.int .i64 p.start.x)
  c3 : w.cell? ⟨g, 3, none⟩ = some (.int .i64 p.start.y)
  c4 : w.cell? ⟨g, 4, none⟩ = some (.int .i64 p.now.x)
  c5 : w.cell? ⟨g, 5, none⟩ = some (.int .i64 p.now.y)
theorem Pth.cells {w : World} {g : Nat} {v : Value} {p : PS} (h : Pth w g v p) : PthC w g v p :=
  ⟨h.1.cell 0, h.1.cell 1, h.1.cell 2, h.1.cell 3, h.1.cell 4, h.1.cell 5⟩
theorem Pth.form {w : World} {g : Nat} {v : Value} {p : PS} (h : Pth w g v p) : ∃ A cap, v = .slice A p.list.length cap ∧ p.list.length ≤ cap ∧ cap ≤ 9223372036854775807 := by
  obtain ⟨A, cap, hv, h1, h2⟩ := h.2.form
  exact ⟨A, cap, hv, h1, by simp only [maxLen] at h2; omega⟩
theorem Pth.fr {w w' : World} {S : Nat → Prop} {g : Nat} {v : Value} {p : PS} (h : Pth w g v p) (hf : Fr S w w') (hd : ∀ k, ptB g v k → ¬ S k) : Pth w' g v p :=
  ⟨h.1.fr hf (hd g (.inl rfl)), h.2.fr hf fun k hk => hd k (.inr hk)⟩
theorem Pth.nob {w w' : World} {g : Nat} {v : Value} {p : PS} (h : Pth w g v p) (hf : Fr Nob w w') : Pth w' g v p := h.fr hf fun _ _ hf => hf
theorem Pth.lt {w : World} {g : Nat} {v : Value} {p : PS} (h : Pth w g v p) : ∀ k, ptB g v k → k < w.heap.size := by
  rintro k (rfl | hk)
  · exact h.1.lt
  · exact h.2.lt k hk
/-- What a step leaves of a path: its new state, the frame, where its list lies. -/
def PthTo (w : World) (g : Nat) (v : Value) (p : PS) (w' : World) : Prop :=
  ∃ v', Pth w' g v' p ∧ Fr (ptB g v) w w' ∧ ∀ b, v'.ownBlock = some b → v.ownBlock = some b ∨ w.heap.size ≤ b
theorem PthTo.same {w : World} {g : Nat} {v : Value} {p : PS} (h : Pth w g v p) {w' : World} (hf : Fr Nob w w') : PthTo w g v p w' :=
  ⟨v, h.nob hf, hf.mono fun _ hf => hf.elim, fun b hb => .inl hb⟩
/-- The kind of the last one. -/
def lastK (l : List Sg) : Int := if h : 0 < l.length then l[l.length - 1].kind else 0

theorem last_any (g : Nat) (v : Value) (p : PS) (w : World) (h : Pth w g v p) :
    Calls Tryd.prog 106 #[.pointer (some ⟨g, 0, none⟩)] w fun e w' => e = .returned (.int .i64 (lastK p.list)) ∧ Fr Nob w w' := by
  have hcc := h.cells.c1
  obtain ⟨A, cap, rfl, h1, h2⟩ := h.form
  by_cases h0 : 0 < p.list.length
  · rw [show lastK p.list = p.list[p.list.length - 1].kind by simp [lastK, h0]]
    obtain ⟨b, cap', hv, _, _, hc⟩ := h.2.sg rfl h0
    cases hv
    have k0 := (hc (p.list.length - 1) (by omega)).c0
    clear hc h
    generalize p.list[p.list.length - 1].kind = s at k0 ⊢
    generalize hn : p.list.length = n at *
    obtain ⟨m, rfl⟩ : ∃ m, n = m + 1 := ⟨n - 1, by omega⟩
    have e1 : m + 1 - 1 = m := rfl
    simp only [e1] at k0
    clear hn
    have e0 : ((m + 1 : Nat) : Int) - 1 = m := by omega
    have e2 : (((m + 1 : Nat) : Int) == 0) = false := by simp; omega
    have i1 : (m : Int) < (m + 1 : Nat) := by omega
    go_enter Tryd.func106, Tryd.ntmps106
    go_wp2
    go_quiet (fail)
    go_wp2
    go_ret
    exact ⟨rfl, (Fr.refl _ _).drewN _⟩
  · rw [show lastK p.list = 0 by simp [lastK, h0]]
    obtain hz : p.list.length = 0 := by omega
    clear h
    rw [hz] at hcc
    clear hz h0 h1
    go_enter Tryd.func106, Tryd.ntmps106
    go_wp2
    go_ret
    exact ⟨rfl, Fr.refl _ _⟩
end Go.Proofs.YtkkejjfmidgciaaDoor
