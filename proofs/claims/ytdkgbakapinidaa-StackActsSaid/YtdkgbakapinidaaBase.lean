/-
  Words of my own for all seats: frames over sets of blocks, slices that are read, slices that are owned, append and clone of them. No program, no conditions.
-/
import Derived.WalkKit
import Derived.KernelRfl
import Derived.Lib.Hide
import Derived.Deep.QuietTactic
import Derived.BigQuiet
import Derived.Lib.SliceRun
namespace Go.Proofs.Ytdkgbakapinidaa
open Go.RowKit
set_option linter.unusedVariables false
set_option linter.unusedSimpArgs false

/-- w' is w but for the blocks of S and new ones. -/
structure Fr (S : Nat → Prop) (w w' : World) : Prop where
  os : w'.os = w.os
  tape : w'.tape = w.tape
  output : w'.output = w.output
  size : w.heap.size ≤ w'.heap.size
  block : ∀ k, k < w.heap.size → ¬ S k → w'.heap[k]? = w.heap[k]?
def Nob : Nat → Prop := fun _ => False
theorem Fr.refl (S : Nat → Prop) (w : World) : Fr S w w := ⟨rfl, rfl, rfl, Nat.le_refl _, fun _ _ _ => rfl⟩
theorem Fr.trans {S S' : Nat → Prop} {a b c : World} (h : Fr S a b) (k : Fr S' b c) (hs : ∀ i, S' i → S i ∨ a.heap.size ≤ i) : Fr S a c :=
  ⟨k.os.trans h.os, k.tape.trans h.tape, k.output.trans h.output, Nat.le_trans h.size k.size, fun i hi hn =>
    (k.block i (Nat.lt_of_lt_of_le hi h.size) (fun hS => (hs i hS).elim hn (fun hge => by omega))).trans (h.block i hi hn)⟩
theorem Fr.trans0 {S : Nat → Prop} {a b c : World} (h : Fr S a b) (k : Fr Nob b c) : Fr S a c := h.trans k fun _ hf => hf.elim
theorem Fr.mono {S T : Nat → Prop} {a b : World} (h : Fr S a b) (hs : ∀ i, S i → T i) : Fr T a b :=
  ⟨h.os, h.tape, h.output, h.size, fun i hi hn => h.block i hi fun hS => hn (hs i hS)⟩
theorem Fr.below {B : Nat} {S : Nat → Prop} {a b : World} (h : Fr S a b) (hs : ∀ i, S i → B ≤ i) (hB : B ≤ a.heap.size) : Below B a b :=
  ⟨h.os, h.tape, h.output, h.size, fun i hi => h.block i (by omega) fun hS => by have := hs i hS; omega⟩
theorem Fr.of_below {a b : World} (S : Nat → Prop) (h : Below a.heap.size a b) : Fr S a b := ⟨h.os, h.tape, h.output, h.size, fun i hi _ => h.block i hi⟩
theorem Fr.to_below {a b : World} (h : Fr Nob a b) : Below a.heap.size a b := ⟨h.os, h.tape, h.output, h.size, fun i hi => h.block i hi fun hf => hf.elim⟩
theorem Fr.alloc {S : Nat → Prop} {a w : World} (h : Fr S a w) (o : Obj) : Fr S a (w.alloc o) :=
  ⟨h.os, h.tape, h.output, by have := h.size; simp; omega, fun i hi hn => (Below.heap_alloc w o i (Nat.lt_of_lt_of_le hi h.size)).trans (h.block i hi hn)⟩
theorem Fr.drew {S : Nat → Prop} {a w : World} (h : Fr S a w) : Fr S a w.drew := ⟨h.os, h.tape, h.output, h.size, h.block⟩
theorem Fr.drewN {S : Nat → Prop} {a w : World} (h : Fr S a w) (n : Nat) : Fr S a (w.drewN n) := ⟨h.os, h.tape, h.output, h.size, h.block⟩
theorem Fr.setCell {S : Nat → Prop} {a w : World} (h : Fr S a w) {p : Addr} (hp : S p.block ∨ a.heap.size ≤ p.block) (u : Value) : Fr S a (w.setCell p u) :=
  ⟨h.os, h.tape, h.output, by have := h.size; simp [World.setCell]; omega, fun i hi hn =>
    (Below.heap_setCell w p u i (fun e => by subst e; exact hp.elim hn (fun hge => by omega))).trans (h.block i hi hn)⟩
theorem Fr.setRow {S : Nat → Prop} {a w : World} (h : Fr S a w) {g : Nat} (hp : S g ∨ a.heap.size ≤ g) (cs : Array Value) : Fr S a (w.setRow g cs) :=
  ⟨h.os, h.tape, h.output, by have := h.size; simp [World.setRow]; omega, fun i hi hn =>
    (setRow_other w g i cs (fun e => by subst e; exact hp.elim hn (fun hge => by omega))).trans (h.block i hi hn)⟩

/-- The blocks that were there. -/
def Lt (w : World) : Nat → Prop := fun k => k < w.heap.size
/-- A block known whole. -/
def Blk (w : World) (g : Nat) (cs : Array Value) (t : TypeId) : Prop := w.heap[g]? = some (.cells cs t (0, 0))
theorem Blk.lt {w : World} {g : Nat} {cs : Array Value} {t : TypeId} (h : Blk w g cs t) : g < w.heap.size := (Array.getElem?_eq_some_iff.1 h).1
theorem Blk.cell {w : World} {g : Nat} {cs : Array Value} {t : TypeId} (h : Blk w g cs t) (i : Nat) : w.cell? ⟨g, i, none⟩ = cs[i]? := cell_of_row w g i cs t (0, 0) h
theorem Blk.free {w : World} {g : Nat} {cs : Array Value} {t : TypeId} (h : Blk w g cs t) (i : Nat) : w.frozen? ⟨g, i, none⟩ = false := by
  have h' : w.heap[g]? = some (.cells cs t (0, 0)) := h
  simp [World.frozen?, h']
theorem Blk.ne {w : World} {g g' : Nat} {cs cs' : Array Value} {t t' : TypeId} (h : Blk w g cs t) (h' : Blk w g' cs' t') (hne : t ≠ t') : g ≠ g' := by
  rintro rfl
  have := h.symm.trans h'
  simp at this
  exact hne this.2
theorem Blk.fr {S : Nat → Prop} {w w' : World} {g : Nat} {cs : Array Value} {t : TypeId} (h : Blk w g cs t) (hf : Fr S w w') (hn : ¬ S g) : Blk w' g cs t := (hf.block g h.lt hn).trans h
theorem Blk.new (w : World) (cs : Array Value) (t : TypeId) : Blk (w.alloc (.cells cs t)) w.heap.size cs t := heap_alloc_new w _
theorem Blk.alloc {w : World} {g : Nat} {cs : Array Value} {t : TypeId} (h : Blk w g cs t) (o : Obj) : Blk (w.alloc o) g cs t := (Below.heap_alloc w o g h.lt).trans h
theorem Blk.drew {w : World} {g : Nat} {cs : Array Value} {t : TypeId} (h : Blk w g cs t) : Blk w.drew g cs t := h
theorem Blk.drewN {w : World} {g : Nat} {cs : Array Value} {t : TypeId} (h : Blk w g cs t) (n : Nat) : Blk (w.drewN n) g cs t := h
theorem Blk.set {w : World} {g : Nat} {cs : Array Value} {t : TypeId} (h : Blk w g cs t) (i : Nat) (u : Value) : Blk (w.setCell ⟨g, i, none⟩ u) g (cs.setIfInBounds i u) t := by
  have h' : w.heap[g]? = some (.cells cs t (0, 0)) := h
  show (w.setCell ⟨g, i, none⟩ u).heap[g]? = _
  simp [World.setCell, Array.getElem?_modify, h']
theorem Blk.far {w : World} {g : Nat} {cs : Array Value} {t : TypeId} (h : Blk w g cs t) {p : Addr} (hp : g ≠ p.block) (u : Value) : Blk (w.setCell p u) g cs t := (Below.heap_setCell w p u g hp).trans h
theorem Blk.setRow {w : World} {g : Nat} {cs : Array Value} {t : TypeId} (h : Blk w g cs t) (cs' : Array Value) : Blk (w.setRow g cs') g cs' t := setRow_heap w g cs cs' t (0, 0) h

theorem add_plain (g o j : Nat) : (⟨g, o, none⟩ : Addr).add j = ⟨g, o + j, none⟩ := by unfold Addr.add; split <;> simp_all
theorem add_add (a : Addr) (i j : Nat) : (a.add i).add j = a.add (i + j) := by
  unfold Addr.add
  by_cases hi : i = 0
  · subst hi; simp
  · by_cases hj : j = 0
    · subst hj; simp [hi]
    · simp [hi, hj]; omega
theorem add_block (a : Addr) (j : Nat) : (a.add j).block = a.block := by unfold Addr.add; split <;> rfl

theorem cell_fr {S : Nat → Prop} {w w' : World} {a : Addr} {v : Value} (h : w.cell? a = some v) (hf : Fr S w w') (hn : ¬ S a.block) : w'.cell? a = some v := by
  rw [World.cell?_of_block (w := w) (hf.block _ (World.block_lt_of_cell? w _ h) hn)]; exact h
theorem cell_nob {w w' : World} {a : Addr} {v : Value} (h : w.cell? a = some v) (hf : Fr Nob w w') : w'.cell? a = some v := cell_fr h hf fun hh => hh
/-- A slice's value, of n elements of that size, whose cells are cs; it lies in the blocks of S. -/
def RowIn (w : World) (S : Nat → Prop) (size : Nat) (v : Value) (n : Nat) (cs : List Value) : Prop :=
  cs.length = n * size ∧ ∃ A cap, v = .slice A n cap ∧ n ≤ cap ∧ cap ≤ maxLen ∧ (A = none → cap = 0) ∧
    ∀ j u, cs[j]? = some u → ∃ b off, A = some ⟨b, off, none⟩ ∧ S b ∧ w.cell? ⟨b, off + j, none⟩ = some u
theorem RowIn.fr {w w' : World} {S T : Nat → Prop} {size n : Nat} {v : Value} {cs : List Value} (h : RowIn w S size v n cs) (hf : Fr T w w') (hd : ∀ k, S k → ¬ T k) : RowIn w' S size v n cs := by
  obtain ⟨hl, A, cap, hv, h1, h2, h3, h4⟩ := h
  refine ⟨hl, A, cap, hv, h1, h2, h3, fun j u hu => ?_⟩
  obtain ⟨b, off, ha, hS, hc⟩ := h4 j u hu
  refine ⟨b, off, ha, hS, ?_⟩
  rw [World.cell?_of_block (w := w) (hf.block _ (World.block_lt_of_cell? w _ hc) (hd _ hS))]
  exact hc
theorem RowIn.mono {w : World} {S T : Nat → Prop} {size n : Nat} {v : Value} {cs : List Value} (h : RowIn w S size v n cs) (hs : ∀ k, S k → T k) : RowIn w T size v n cs := by
  obtain ⟨hl, A, cap, hv, h1, h2, h3, h4⟩ := h
  exact ⟨hl, A, cap, hv, h1, h2, h3, fun j u hu => by obtain ⟨b, off, ha, hS, hc⟩ := h4 j u hu; exact ⟨b, off, ha, hs _ hS, hc⟩⟩
theorem RowIn.nil (w : World) (S : Nat → Prop) (size : Nat) : RowIn w S size (.slice none 0 0) 0 [] :=
  ⟨by simp, none, 0, rfl, Nat.le_refl _, by decide, fun _ => rfl, fun j u hu => by simp at hu⟩
theorem RowIn.lit (w : World) (e : TypeId) (size : Nat) (cs : Array Value) (n : Nat) (hl : cs.size = n * size) (hn : n ≤ maxLen) :
    RowIn (w.alloc (.cells cs e)) (fun k => k = w.heap.size) size (.slice (some ⟨w.heap.size, 0, none⟩) n n) n cs.toList :=
  ⟨by rw [Array.length_toList, hl], some ⟨w.heap.size, 0, none⟩, n, rfl, Nat.le_refl _, hn, (fun h => by cases h), fun j u hu => ⟨_, _, rfl, rfl, by
    rw [Nat.zero_add]
    exact ((Blk.new w cs e).cell j).trans (by simpa using hu)⟩⟩
theorem RowIn.len_le {w : World} {S : Nat → Prop} {size n : Nat} {v : Value} {cs : List Value} (h : RowIn w S size v n cs) : n ≤ 9223372036854775807 := by
  obtain ⟨_, A, cap, _, h1, h2, _⟩ := h
  simp only [maxLen] at h2; omega

theorem RowIn.pos {w : World} {S : Nat → Prop} {size n : Nat} {v : Value} {cs : List Value} (h : RowIn w S size v n cs) (hn : 0 < cs.length) :
    ∃ b off cap, v = .slice (some ⟨b, off, none⟩) n cap ∧ n ≤ cap ∧ cap ≤ 9223372036854775807 ∧ S b ∧ ∀ j u, cs[j]? = some u → w.cell? ⟨b, off + j, none⟩ = some u := by
  obtain ⟨hl, A, cap, hv, h1, h2, h3, h4⟩ := h
  obtain ⟨b, off, ha, hS, _⟩ := h4 0 cs[0] (List.getElem?_eq_getElem hn)
  refine ⟨b, off, cap, ha ▸ hv, h1, (by simp only [maxLen] at h2; omega), hS, fun j u hu => ?_⟩
  obtain ⟨b', off', ha', _, hc⟩ := h4 j u hu
  rw [ha] at ha'
  cases ha'
  exact hc
/-- The block that a slice lies in. -/
def inB (v : Value) : Nat → Prop := fun k => v.ownBlock = some k

/-- A slice of its own: nil, or at the head of a block of the elements' type. -/
def OwnS (w : World) (e : TypeId) (size : Nat) (v : Value) (n : Nat) (cs : List Value) : Prop :=
  cs.length = n * size ∧ ((v = .slice none 0 0 ∧ n = 0) ∨
    ∃ g cap cur, v = .slice (some ⟨g, 0, none⟩) n cap ∧ Blk w g cur e ∧ n ≤ cap ∧ cap ≤ maxLen ∧ cap * size ≤ cur.size ∧ cur.toList.take (n * size) = cs)
theorem OwnS.nil (w : World) (e : TypeId) (size : Nat) : OwnS w e size (.slice none 0 0) 0 [] := ⟨by simp, .inl ⟨rfl, rfl⟩⟩
theorem OwnS.fr {w w' : World} {T : Nat → Prop} {e : TypeId} {size n : Nat} {v : Value} {cs : List Value} (h : OwnS w e size v n cs) (hf : Fr T w w') (hd : ∀ k, v.ownBlock = some k → ¬ T k) : OwnS w' e size v n cs := by
  refine ⟨h.1, ?_⟩
  rcases h.2 with h0 | ⟨g, cap, cur, rfl, hb, r⟩
  · exact .inl h0
  · exact .inr ⟨g, cap, cur, rfl, hb.fr hf (hd g rfl), r⟩
theorem OwnS.lt {w : World} {e : TypeId} {size n : Nat} {v : Value} {cs : List Value} (h : OwnS w e size v n cs) : ∀ k, v.ownBlock = some k → k < w.heap.size := by
  intro k hk
  rcases h.2 with ⟨rfl, _⟩ | ⟨g, cap, cur, rfl, hb, _⟩
  · simp [Value.ownBlock] at hk
  · simp [Value.ownBlock] at hk; subst hk; exact hb.lt
theorem OwnS.ne {w : World} {e t : TypeId} {size n g : Nat} {v : Value} {cs : List Value} {bs : Array Value} (h : OwnS w e size v n cs) (hb : Blk w g bs t) (hne : e ≠ t) : ∀ k, v.ownBlock = some k → k ≠ g := by
  intro k hk
  rcases h.2 with ⟨rfl, _⟩ | ⟨g', cap, cur, rfl, hb', _⟩
  · simp [Value.ownBlock] at hk
  · simp [Value.ownBlock] at hk; subst hk; exact hb'.ne hb hne
theorem OwnS.row {w : World} {e : TypeId} {size n : Nat} {v : Value} {cs : List Value} (h : OwnS w e size v n cs) : RowIn w (inB v) size v n cs := by
  refine ⟨h.1, ?_⟩
  rcases h.2 with ⟨rfl, rfl⟩ | ⟨g, cap, cur, rfl, hb, h1, h2, h3, h4⟩
  · refine ⟨none, 0, rfl, Nat.le_refl _, by decide, fun _ => rfl, fun j u hu => ?_⟩
    have hl := h.1
    have hz : cs = [] := List.length_eq_zero_iff.1 (by rw [hl]; omega)
    subst hz
    simp at hu
  · refine ⟨some ⟨g, 0, none⟩, cap, rfl, h1, h2, (fun hh => by cases hh), fun j u hu => ⟨_, _, rfl, rfl, ?_⟩⟩
    rw [Nat.zero_add, hb.cell]
    have : j < n * size := by rw [← h.1]; exact (List.getElem?_eq_some_iff.1 hu).1
    rw [← h4, List.getElem?_take, if_pos this] at hu
    simpa using hu
theorem OwnS.form {w : World} {e : TypeId} {size n : Nat} {v : Value} {cs : List Value} (h : OwnS w e size v n cs) : ∃ A cap, v = .slice A n cap ∧ n ≤ cap ∧ cap ≤ maxLen := by
  obtain ⟨_, A, cap, hv, h1, h2, _⟩ := h.row
  exact ⟨A, cap, hv, h1, h2⟩

section
variable {P : Program} (w : World)
/-- append onto a slice of its own, from any slice that is read. -/
theorem run_app (t ty e : TypeId) (i : TypeInfo) (z : Value) (size bytes : Nat) (ht : P.underlying t = some (.slice e)) (hi : P.info? e = some i) (hz : i.zero = some z)
    (hsize : i.size = size) (hby : i.bytes = bytes) (hzs : z.cells.size = size) (hsz : 0 < size)
    (v : Value) (n : Nat) (xs : List Value) (hown : OwnS w e size v n xs) (S : Nat → Prop) (x : Value) (m : Nat) (news : List Value) (hx : RowIn w S size x m news)
    (h1 : ∀ u ∈ news, u.oneCell' = true) (h63 : n + m ≤ maxLen) (hbytes : (n + m) * bytes ≤ 140737488355328) :
    ∃ v' w', (Builtin.append_ #[t, t] ty #[v, x]).run P w = .ok v' w' ∧ OwnS w' e size v' (n + m) (xs ++ news) ∧ Fr (inB v) w w' ∧ (v'.ownBlock = v.ownBlock ∨ v'.ownBlock = some w.heap.size) ∧
      (n + m = 0 → v' = v ∧ w' = w) := by
  subst hsize
  subst hby
  obtain ⟨hl, A, c, rfl, hmc, hcm, hA, hcells⟩ := hx
  have hsmall : n + m ≤ 9223372036854775807 := by simp only [maxLen] at h63; omega
  have hlen : (xs ++ news).length = (n + m) * i.size := by rw [List.length_append, hown.1, hl, Nat.add_mul]
  by_cases hm : m = 0
  · subst hm
    have hn : news = [] := List.eq_nil_of_length_eq_zero (by simpa using hl)
    subst hn
    refine ⟨v, w, ?_, by simpa using hown, Fr.refl _ _, .inl rfl, fun _ => ⟨rfl, rfl⟩⟩
    rcases hown.2 with ⟨rfl, rfl⟩ | ⟨g, cap, cur, rfl, hb, hnc, hcm', hcs, htake⟩
    · cases A with
      | none => simp [Builtin.append_, run_underlying ht, sizeOf, typeInfo, hi, Builtin.lenOf, Builtin.firstCells, loadCells, loadCellsFrom]
      | some a => simp [Builtin.append_, run_underlying ht, sizeOf, typeInfo, hi, Builtin.lenOf, Builtin.firstCells, loadCells, loadCellsFrom]
    · cases A with
      | none => simp [Builtin.append_, run_underlying ht, sizeOf, typeInfo, hi, Builtin.lenOf, Builtin.firstCells, loadCells, loadCellsFrom, hnc, storeCells]
      | some a => simp [Builtin.append_, run_underlying ht, sizeOf, typeInfo, hi, Builtin.lenOf, Builtin.firstCells, loadCells, loadCellsFrom, hnc, storeCells]
  · obtain ⟨a, rfl⟩ : ∃ a, A = some a := by
      cases A with
      | none => have := hA rfl; omega
      | some a => exact ⟨a, rfl⟩
    have hnews : ∀ j u, news[j]? = some u → w.cell? (a.add j) = some u := fun j u hu => by
      obtain ⟨b, off, hb, _, hc⟩ := hcells j u hu
      cases hb
      rw [add_plain]
      exact hc
    have grown : ∀ (old : Nat), old < n + m →
        OwnS (w.drew.alloc (.cells (xs.toArray ++ news.toArray ++ Builtin.zeroCells z.cells (grownCap w (n + m) old e - (n + m))) e)) e i.size
          (.slice (some ⟨w.heap.size, 0, none⟩) (n + m) (grownCap w (n + m) old e)) (n + m) (xs ++ news) ∧
        Fr (inB v) w (w.drew.alloc (.cells (xs.toArray ++ news.toArray ++ Builtin.zeroCells z.cells (grownCap w (n + m) old e - (n + m))) e)) := by
      intro old ho
      have hge := grownCap_ge w (n + m) old e
      have hcm : grownCap w (n + m) old e ≤ maxLen := grownCap_le_maxLen w (n + m) old e h63
      refine ⟨⟨hlen, .inr ⟨w.heap.size, _, _, rfl, Blk.new w.drew _ _, hge, hcm, ?_, ?_⟩⟩, ((Fr.refl _ _).drew).alloc _⟩
      · simp only [Array.size_append, List.size_toArray, size_zeroCells, hzs, hown.1, hl, ← Nat.add_mul]
        apply Nat.le_of_eq
        congr 1
        omega
      · simp only [Array.toList_append, List.append_assoc]
        rw [← List.append_assoc, ← hlen]
        exact List.take_left
    rcases hown.2 with ⟨rfl, rfl⟩ | ⟨g, cap, cur, rfl, hg, hnc, hcm', hcs, htake⟩
    · have hx : xs = [] := List.eq_nil_of_length_eq_zero (by simpa using hown.1)
      subst hx
      have hr := run_append_nil (P := P) w t ty e i z ht hi hz a m c news hl hnews (by omega) (by omega) (by have hb := hbytes; simp only [Nat.zero_add] at hb; omega)
      have hgr := grown 0 (by omega)
      simp only [Nat.zero_add, List.nil_append, Array.empty_append] at hgr ⊢
      exact ⟨_, _, hr, hgr.1, hgr.2, .inr rfl, fun h0 => absurd h0 (by omega)⟩
    · by_cases hroom : n + m ≤ cap
      · have hfit : n * i.size + news.length ≤ cur.size := by rw [hl, ← Nat.add_mul]; exact Nat.le_trans (Nat.mul_le_mul_right _ hroom) hcs
        have hr := run_append_room (P := P) w t ty e i ht hi g n cap cur hg a m c news hl hnews h1 hroom hfit
        refine ⟨_, _, hr, ⟨hlen, .inr ⟨g, cap, _, rfl, hg.setRow _, hroom, hcm', ?_, ?_⟩⟩, (Fr.refl (inB (.slice (some ⟨g, 0, none⟩) n cap)) _).setRow (.inl rfl) _, .inl rfl, fun h0 => absurd h0 (by omega)⟩
        · simp only [List.size_toArray, List.length_append, List.length_take, List.length_drop, Array.length_toList]
          omega
        · rw [htake, ← hlen]
          exact List.take_left
      · have holds : ∀ j u, xs[j]? = some u → w.cell? ((⟨g, 0, none⟩ : Addr).add j) = some u := fun j u hu => by
          obtain ⟨_, A', cap', hv, _, _, _, h4⟩ := hown.row
          obtain ⟨b, off, hb, _, hc⟩ := h4 j u hu
          simp at hv
          rw [← hv.1] at hb
          cases hb
          rw [add_plain]
          exact hc
        have hr := run_append_grow (P := P) w t ty e i z ht hi hz ⟨g, 0, none⟩ n cap xs hown.1 holds a m c news hl hnews (by omega) (by omega) (growslice_fits (by omega) hbytes)
        have hgr := grown cap (by omega)
        exact ⟨_, _, hr, hgr.1, hgr.2, .inr rfl, fun h0 => absurd h0 (by omega)⟩

/-- The same at the list of a region's operations. -/
theorem wpList_app {ops : Array Oper} {rest : List Oper} {o : Oper} {a : Act} {Q : Exit → Act → World → Prop} (hgd : o.guard = none) (s x : Operand) (t : TypeId)
    (ho : o.op = .call { callee := .builtin .append, args := #[s, x], argTypes := #[t, t] })
    (e : TypeId) (i : TypeInfo) (z : Value) (size bytes : Nat) (ht : P.underlying t = some (.slice e)) (hi : P.info? e = some i) (hz : i.zero = some z)
    (hsize : i.size = size) (hby : i.bytes = bytes) (hzs : z.cells.size = size) (hsz : 0 < size)
    (v : Value) (n : Nat) (xs : List Value) (hs : a.eval s = v) (hown : OwnS w e size v n xs) (S : Nat → Prop) (xv : Value) (m : Nat) (news : List Value) (hx : a.eval x = xv) (hrow : RowIn w S size xv m news)
    (h1 : ∀ u ∈ news, u.oneCell' = true) (h63 : n + m ≤ maxLen) (hbytes : (n + m) * bytes ≤ 140737488355328)
    (h : ∀ v' w', OwnS w' e size v' (n + m) (xs ++ news) → Fr (inB v) w w' → (v'.ownBlock = v.ownBlock ∨ v'.ownBlock = some w.heap.size) → (n + m = 0 → v' = v ∧ w' = w) → wpList P ops Q rest (a.put o.dst v') w') : wpList P ops Q (o :: rest) a w := by
  obtain ⟨v', w', hr, h2, h3, h4, h5⟩ := run_app (P := P) w t o.type e i z size bytes ht hi hz hsize hby hzs hsz v n xs hown S xv m news hrow h1 h63 hbytes
  unfold wpList
  rw [if_pos (by simp [Region.wanted, hgd])]
  left
  unfold Oper.wp execOp
  simp only [ho, resolve, invoke, builtin, Sem.run_bind, Sem.run_pure, Result.andThen_ok, List.map_toArray, List.map_cons, List.map_nil, hs, hx, hr]
  exact h v' w' h2 h3 h4 h5
/-- The same where the operation is guarded. -/
theorem wpList_appG {ops : Array Oper} {rest : List Oper} {o : Oper} {a : Act} {Q : Exit → Act → World → Prop} (hgd : Region.wanted o (yielded ops a.tmps) = true) (s x : Operand) (t : TypeId)
    (ho : o.op = .call { callee := .builtin .append, args := #[s, x], argTypes := #[t, t] })
    (e : TypeId) (i : TypeInfo) (z : Value) (size bytes : Nat) (ht : P.underlying t = some (.slice e)) (hi : P.info? e = some i) (hz : i.zero = some z)
    (hsize : i.size = size) (hby : i.bytes = bytes) (hzs : z.cells.size = size) (hsz : 0 < size)
    (v : Value) (n : Nat) (xs : List Value) (hs : a.eval s = v) (hown : OwnS w e size v n xs) (S : Nat → Prop) (xv : Value) (m : Nat) (news : List Value) (hx : a.eval x = xv) (hrow : RowIn w S size xv m news)
    (h1 : ∀ u ∈ news, u.oneCell' = true) (h63 : n + m ≤ maxLen) (hbytes : (n + m) * bytes ≤ 140737488355328)
    (h : ∀ v' w', OwnS w' e size v' (n + m) (xs ++ news) → Fr (inB v) w w' → (v'.ownBlock = v.ownBlock ∨ v'.ownBlock = some w.heap.size) → (n + m = 0 → v' = v ∧ w' = w) → wpList P ops Q rest (a.put o.dst v') w') : wpList P ops Q (o :: rest) a w := by
  obtain ⟨v', w', hr, h2, h3, h4, h5⟩ := run_app (P := P) w t o.type e i z size bytes ht hi hz hsize hby hzs hsz v n xs hown S xv m news hrow h1 h63 hbytes
  unfold wpList
  rw [if_pos hgd]
  left
  unfold Oper.wp execOp
  simp only [ho, resolve, invoke, builtin, Sem.run_bind, Sem.run_pure, Result.andThen_ok, List.map_toArray, List.map_cons, List.map_nil, hs, hx, hr]
  exact h v' w' h2 h3 h4 h5
end

/-- copy of whole elements into a block that is known whole. -/
theorem run_copyS {P : Program} {w : World} (dT sT ty e : TypeId) (i : TypeInfo) (hu : P.underlying dT = some (.slice e)) (hi : P.info? e = some i) (g o dLen dCap : Nat) (cur : Array Value) (hg : Blk w g cur e)
    (S : Nat → Prop) (x : Value) (m : Nat) (news : List Value) (hx : RowIn w S i.size x m news) (hm : m ≤ dLen) (hfit : o + news.length ≤ cur.size) (h1 : ∀ u ∈ news, u.oneCell' = true) :
    (Builtin.copy_ #[dT, sT] ty #[.slice (some ⟨g, o, none⟩) dLen dCap, x]).run P w = .ok (goInt m) (w.setRow g (cur.toList.take o ++ news ++ cur.toList.drop (o + news.length)).toArray) := by
  obtain ⟨hl, A, c, rfl, hmc, hcm, hA, hcells⟩ := hx
  have hst := run_storeCells_at P g o e news 0 cur w hg (by simpa using hfit) h1
  simp only [Nat.add_zero] at hst
  have hmin : Nat.min m dLen = m := Nat.min_eq_left hm
  have hf : (Builtin.firstCells i.size m (.slice A m c)).run P w = .ok news.toArray w := by
    cases A with
    | none =>
      have hc := hA rfl
      have hz : news = [] := List.length_eq_zero_iff.1 (by rw [hl, show m = 0 by omega, Nat.zero_mul])
      subst hz
      simp [Builtin.firstCells]
    | some a =>
      refine run_firstCells_some (P := P) w i.size m a m c news hl fun j u hu => ?_
      obtain ⟨b, off, hb, _, hc⟩ := hcells j u hu
      cases hb
      rw [add_plain]
      exact hc
  simp [Builtin.copy_, run_underlying hu, sizeOf, typeInfo, hi, Builtin.lenOf, hmin, hf, hst]
theorem wpList_copyS {P : Program} {w : World} {ops : Array Oper} {rest : List Oper} {o : Oper} {a : Act} {Q : Exit → Act → World → Prop} (hgd : o.guard = none) (d s : Operand) (dT sT : TypeId)
    (ho : o.op = .call { callee := .builtin .copy, args := #[d, s], argTypes := #[dT, sT] }) (e : TypeId) (i : TypeInfo) (hu : P.underlying dT = some (.slice e)) (hi : P.info? e = some i) (size : Nat) (hsz : i.size = size)
    (g off dLen dCap : Nat) (hd : a.eval d = .slice (some ⟨g, off, none⟩) dLen dCap) (cur : Array Value) (hg : Blk w g cur e)
    (S : Nat → Prop) (x : Value) (m : Nat) (news : List Value) (hs : a.eval s = x) (hx : RowIn w S size x m news) (hm : m ≤ dLen) (hfit : off + news.length ≤ cur.size) (h1 : ∀ u ∈ news, u.oneCell' = true)
    (h : wpList P ops Q rest (a.put o.dst (goInt m)) (w.setRow g (cur.toList.take off ++ news ++ cur.toList.drop (off + news.length)).toArray)) :
    wpList P ops Q (o :: rest) a w := by
  subst hsz
  have hr := run_copyS (P := P) dT sT o.type e i hu hi g off dLen dCap cur hg S x m news hx hm hfit h1
  unfold wpList
  rw [if_pos (by simp [Region.wanted, hgd])]
  left
  unfold Oper.wp execOp
  simp only [ho, resolve, invoke, builtin, Sem.run_bind, Sem.run_pure, Result.andThen_ok, List.map_toArray, List.map_cons, List.map_nil, hd, hs, hr]
  exact h
theorem OwnS.new0 (w : World) (e : TypeId) (size : Nat) : OwnS (w.alloc (.cells #[] e)) e size (.slice (some ⟨w.heap.size, 0, none⟩) 0 0) 0 [] :=
  ⟨by simp, .inr ⟨_, _, _, rfl, Blk.new w #[] e, Nat.le_refl _, by decide, by simp, by simp⟩⟩
/-- The slice lies in a block that w has not. -/
def NewV (w : World) (v : Value) : Prop := ∀ b, v.ownBlock = some b → w.heap.size ≤ b
theorem NewV.nil (w : World) : NewV w (.slice none 0 0) := fun b hb => by simp [Value.ownBlock] at hb
theorem NewV.le {w w' : World} {v : Value} (h : NewV w' v) (hs : w.heap.size ≤ w'.heap.size) : NewV w v := fun b hb => Nat.le_trans hs (h b hb)
theorem app_new {w wa w1 : World} {v v' : Value} (hn : NewV w v) (h0 : Fr Nob w wa) (hfr : Fr (inB v) wa w1) (hat : v'.ownBlock = v.ownBlock ∨ v'.ownBlock = some wa.heap.size) : Fr Nob w w1 ∧ NewV w v' :=
  ⟨h0.trans hfr fun i hi => .inr (hn i hi), fun b hb => by
    rcases hat with h | h
    · exact hn b (h ▸ hb)
    · rw [h] at hb; cases hb; exact h0.size⟩
theorem NewV.at (w : World) (n c : Nat) : NewV w (.slice (some ⟨w.heap.size, 0, none⟩) n c) := fun b hb => by simp [Value.ownBlock] at hb; omega
theorem run_slice_is_nil {P : Program} {t e : TypeId} (ht : P.underlying t = some (.slice e)) (A : Option Addr) (l c : Nat) (w : World) : (binOp .eql t (.slice A l c) (.slice none 0 0)).run P w = .ok (.bool A.isNone) w := Lib.run_eql_slice_nil w t e A l c 0 0 ht
/-! Parts of slices: 'xs[k:]', 'xs[:k]', 'xs[:k:k]'. -/
def dropV (size : Nat) (v : Value) (k : Nat) : Value := match v with
  | .slice A n cap => .slice (if cap = k then A else A.map (·.add (k * size))) (n - k) (cap - k)
  | v => v
def takeV (v : Value) (k : Nat) : Value := match v with
  | .slice A n cap => .slice A k cap
  | v => v
def cutV (v : Value) (k : Nat) : Value := match v with
  | .slice A n cap => .slice A k k
  | v => v
theorem sliced0 (a : Option Addr) (h m s : Nat) : sliced a 0 h m s = .slice a h m := by
  simp only [sliced, Nat.zero_mul, Nat.sub_zero]
  congr 1
  split
  · rfl
  · cases a <;> simp [Addr.add]
theorem run_dropV {P : Program} {t e : TypeId} {i : TypeInfo} (ht : P.underlying t = some (.slice e)) (hi : P.info? e = some i) (A : Option Addr) (n cap k : Nat) (hk : k ≤ n) (w : World) :
    (Instr.slice t (.slice A n cap) (some (.int .i64 k)) none none).run P w = .ok (dropV i.size (.slice A n cap) k) w := by
  have he : P.elem t = e := by simp [Program.elem, ht]
  rw [run_slice_l (P := P) w t A n cap (by rw [he]; exact ht) .i64 k (by omega) (by omega), he]
  simp [sizeOf, typeInfo, hi, sliced, dropV]
theorem run_takeV {P : Program} {t e : TypeId} {i : TypeInfo} (ht : P.underlying t = some (.slice e)) (hi : P.info? e = some i) (A : Option Addr) (n cap k : Nat) (hk : k ≤ cap) (w : World) :
    (Instr.slice t (.slice A n cap) none (some (.int .i64 k)) none).run P w = .ok (takeV (.slice A n cap) k) w := by
  have he : P.elem t = e := by simp [Program.elem, ht]
  rw [run_slice_h (P := P) w t A n cap (by rw [he]; exact ht) .i64 k (by omega) (by omega), he]
  simp [sizeOf, typeInfo, hi, sliced0, takeV]
theorem run_cutV {P : Program} {t e : TypeId} {i : TypeInfo} (ht : P.underlying t = some (.slice e)) (hi : P.info? e = some i) (A : Option Addr) (n cap k : Nat) (hk : k ≤ cap) (w : World) :
    (Instr.slice t (.slice A n cap) none (some (.int .i64 k)) (some (.int .i64 k))).run P w = .ok (cutV (.slice A n cap) k) w := by
  have he : P.elem t = e := by simp [Program.elem, ht]
  rw [run_slice_hm (P := P) w t A n cap (by rw [he]; exact ht) .i64 .i64 k k (by omega) (by omega) (by omega), he]
  simp [sizeOf, typeInfo, hi, sliced0, cutV]
theorem RowIn.dropV {w : World} {S : Nat → Prop} {size n : Nat} {v : Value} {cs : List Value} (h : RowIn w S size v n cs) (k : Nat) (hk : k ≤ n) (hs : 0 < size) : RowIn w S size (dropV size v k) (n - k) (cs.drop (k * size)) := by
  obtain ⟨hl, A, cap, rfl, h1, h2, h3, h4⟩ := h
  refine ⟨by rw [List.length_drop, hl, Nat.sub_mul], (if cap = k then A else A.map (·.add (k * size))), cap - k, rfl, by omega, by omega, fun hA => ?_, fun j u hu => ?_⟩
  · split at hA
    · omega
    · have : A = none := by simpa using hA
      have := h3 this; omega
  · rw [List.getElem?_drop] at hu
    obtain ⟨b, off, rfl, hS, hc⟩ := h4 _ _ hu
    have hlt : k * size + j < n * size := by rw [← hl]; exact (List.getElem?_eq_some_iff.1 hu).1
    have hne : cap ≠ k := by
      rintro rfl
      have := Nat.mul_le_mul_right size h1
      omega
    exact ⟨b, off + k * size, by rw [if_neg hne]; simp [add_plain], hS, by rw [Nat.add_assoc]; exact hc⟩
theorem RowIn.takeV {w : World} {S : Nat → Prop} {size n : Nat} {v : Value} {cs : List Value} (h : RowIn w S size v n cs) (k : Nat) (hk : k ≤ n) : RowIn w S size (takeV v k) k (cs.take (k * size)) := by
  obtain ⟨hl, A, cap, rfl, h1, h2, h3, h4⟩ := h
  refine ⟨?_, A, cap, rfl, by omega, h2, h3, fun j u hu => ?_⟩
  · rw [List.length_take, hl, Nat.min_eq_left (Nat.mul_le_mul_right _ hk)]
  · rw [List.getElem?_take] at hu
    split at hu
    · exact h4 j u hu
    · cases hu
theorem OwnS.takeV {w : World} {e : TypeId} {size n : Nat} {v : Value} {cs : List Value} (h : OwnS w e size v n cs) (k : Nat) (hk : k ≤ n) : OwnS w e size (takeV v k) k (cs.take (k * size)) ∧ (takeV v k).ownBlock = v.ownBlock := by
  rcases h with ⟨hl, ⟨rfl, rfl⟩ | ⟨g, cap, cur, rfl, hb, h1, h2, h3, h4⟩⟩
  · obtain rfl : k = 0 := by omega
    exact ⟨⟨by simp, .inl ⟨rfl, rfl⟩⟩, rfl⟩
  · refine ⟨⟨?_, .inr ⟨g, cap, cur, rfl, hb, by omega, h2, h3, ?_⟩⟩, rfl⟩
    · rw [List.length_take, hl, Nat.min_eq_left (Nat.mul_le_mul_right _ hk)]
    · rw [← h4, List.take_take, Nat.min_eq_left (Nat.mul_le_mul_right _ hk)]
theorem OwnS.cutV {w : World} {e : TypeId} {size n : Nat} {v : Value} {cs : List Value} (h : OwnS w e size v n cs) (k : Nat) (hk : k ≤ n) : OwnS w e size (cutV v k) k (cs.take (k * size)) ∧ (cutV v k).ownBlock = v.ownBlock := by
  rcases h with ⟨hl, ⟨rfl, rfl⟩ | ⟨g, cap, cur, rfl, hb, h1, h2, h3, h4⟩⟩
  · obtain rfl : k = 0 := by omega
    exact ⟨⟨by simp, .inl ⟨rfl, rfl⟩⟩, rfl⟩
  · refine ⟨⟨?_, .inr ⟨g, k, cur, rfl, hb, Nat.le_refl _, by omega, Nat.le_trans (Nat.mul_le_mul_right _ (by omega)) h3, ?_⟩⟩, rfl⟩
    · rw [List.length_take, hl, Nat.min_eq_left (Nat.mul_le_mul_right _ hk)]
    · rw [← h4, List.take_take, Nat.min_eq_left (Nat.mul_le_mul_right _ hk)]
/-- Elements of an owned slice are stored over. -/
theorem OwnS.store {w : World} {e : TypeId} {size n : Nat} {v : Value} {cs : List Value} (h : OwnS w e size v n cs) {g : Nat} (hv : v.ownBlock = some g) (i : Nat) (hi : i < n * size) (u : Value) :
    OwnS (w.setCell ⟨g, i, none⟩ u) e size v n (cs.set i u) := by
  rcases h with ⟨hl, ⟨rfl, rfl⟩ | ⟨g', cap, cur, rfl, hb, h1, h2, h3, h4⟩⟩
  · simp [Value.ownBlock] at hv
  · simp [Value.ownBlock] at hv
    subst hv
    refine ⟨by rw [List.length_set, hl], .inr ⟨g', cap, _, rfl, hb.set i u, h1, h2, by simpa using h3, ?_⟩⟩
    rw [Array.toList_setIfInBounds, List.take_set, h4]
theorem splice_take {α : Type} (L news : List α) (o N : Nat) (h : o + news.length ≤ N) (hN : N ≤ L.length) :
    (L.take o ++ news ++ L.drop (o + news.length)).take N = (L.take N).take o ++ news ++ (L.take N).drop (o + news.length) := by
  have e1 : (L.take N).take o = L.take o := by rw [List.take_take, Nat.min_eq_left (by omega)]
  have e2 : (L.take o ++ news).length = o + news.length := by simp; omega
  rw [e1, List.take_append, e2, List.take_of_length_le (by omega), List.drop_take]
/-- The block of an owned slice, and what a copy into it leaves. -/
theorem OwnS.cur {w : World} {e : TypeId} {size n : Nat} {v : Value} {cs : List Value} (h : OwnS w e size v n cs) {g : Nat} (hv : v.ownBlock = some g) :
    ∃ cur, Blk w g cur e ∧ n * size ≤ cur.size ∧ ∀ w' : World, Blk w' g cur e → ∀ (o : Nat) (news : List Value), o + news.length ≤ n * size →
      OwnS (w'.setRow g (cur.toList.take o ++ news ++ cur.toList.drop (o + news.length)).toArray) e size v n (cs.take o ++ news ++ cs.drop (o + news.length)) := by
  rcases h with ⟨hl, ⟨rfl, rfl⟩ | ⟨g', cap, cur, rfl, hb, h1, h2, h3, h4⟩⟩
  · simp [Value.ownBlock] at hv
  · simp [Value.ownBlock] at hv
    subst hv
    have hsz : n * size ≤ cur.size := Nat.le_trans (Nat.mul_le_mul_right _ h1) h3
    refine ⟨cur, hb, hsz, fun w' hw' o news ho => ⟨?_, .inr ⟨g', cap, _, rfl, hw'.setRow _, h1, h2, ?_, ?_⟩⟩⟩
    · simp only [List.length_append, List.length_take, List.length_drop, hl]; omega
    · simp only [List.size_toArray, List.length_append, List.length_take, List.length_drop, Array.length_toList]
      omega
    · rw [← h4]
      exact splice_take _ _ _ _ ho (by simpa using hsz)
/-! Results that lie in memory. -/
theorem results_ct {P : Program} {fn : Func} {p u : Tmp} {ty : TypeId} (h : fn.results = #[.cell p ty, .tmp u]) (tmps : Array Value) (w : World) (g : Nat) (t : TypeId) (cs : Array Value) (d : TypeDesc)
    (hp : tmps.getD p undef = .pointer (some ⟨g, 0, none⟩)) (hg : Blk w g cs t)
    (hu : P.underlying ty = some d) (hd : (match d with | .struct _ | .array _ _ => true | _ => false) = true) (hi : (P.info? ty).map (·.size) = some cs.size) :
    (results fn tmps).run P w = .ok (.tuple #[.agg cs, tmps.getD u undef]) w := by
  have hp' : tmps[p]?.getD undef = .pointer (some ⟨g, 0, none⟩) := by simpa using hp
  simp [results, h, hp', asAddr, run_loadVar_row w g t ty cs (0, 0) d hg hu hd hi]
theorem results_c {P : Program} {fn : Func} {p : Tmp} {ty : TypeId} (h : fn.results = #[.cell p ty]) (tmps : Array Value) (w : World) (g : Nat) (t : TypeId) (cs : Array Value) (d : TypeDesc)
    (hp : tmps.getD p undef = .pointer (some ⟨g, 0, none⟩)) (hg : Blk w g cs t)
    (hu : P.underlying ty = some d) (hd : (match d with | .struct _ | .array _ _ => true | _ => false) = true) (hi : (P.info? ty).map (·.size) = some cs.size) :
    (results fn tmps).run P w = .ok (.agg cs) w := by
  have hp' : tmps[p]?.getD undef = .pointer (some ⟨g, 0, none⟩) := by simpa using hp
  simp [results, h, hp', asAddr, run_loadVar_row w g t ty cs (0, 0) d hg hu hd hi]
/-! '==' of structs, field by field. -/
section
variable {P : Program} {d : Nat} {xs ys : Array Value} {f : Field} {fs : List Field} {a b : Value} {r s : Bool} {w : World}
theorem eqf_nil : (Op.eqFields d xs ys []).run P w = .ok true w := by simp [Op.eqFields]
theorem eqf_cons (hn : (f.name == "_") = false) (ha : (part f.type xs f.offset).run P w = .ok a w) (hb : (part f.type ys f.offset).run P w = .ok b w) (he : (Op.equalIn d f.type a b).run P w = .ok r w)
    (hr : (Op.eqFields d xs ys fs).run P w = .ok s w) : (Op.eqFields d xs ys (f :: fs)).run P w = .ok (r && s) w := by
  have hn' : f.name ≠ "_" := by simpa using hn
  rw [Op.eqFields]
  simp only [if_pos hn', Sem.run_bind, ha, hb, he, Result.andThen_ok]
  cases r
  · simp
  · simpa using hr
theorem eq_struct {t : TypeId} {fl : Array Field} (hu : P.underlying t = some (.struct fl)) (hp : P.stoodInHeld t = false) (h : (Op.eqFields d xs ys fl.toList).run P w = .ok r w) : (Op.equalIn (d + 1) t (.agg xs) (.agg ys)).run P w = .ok r w := by
  have hf : P.fieldsOf t = fl := by simp [Program.fieldsOf, hu]
  rw [run_equalIn_struct (P := P) w d t xs ys (by rw [hf]; exact hu) hp, hf]
  exact h
end
theorem take_more {α : Type} {a b : List α} {k : Nat} (h : a.take k = b.take k) (ha : k < a.length) (hb : k < b.length) (he : a[k] = b[k]) : a.take (k + 1) = b.take (k + 1) := by
  rw [List.take_succ_eq_append_getElem ha, List.take_succ_eq_append_getElem hb, h, he]
theorem take_all {α : Type} {a b : List α} {k : Nat} (h : a.take k = b.take k) (ha : a.length ≤ k) (hb : b.length ≤ k) : a = b := by
  rwa [List.take_of_length_le ha, List.take_of_length_le hb] at h
theorem ret_bool {a b : Bool} (h : a = b) : Ending.returned (.bool a) = .returned (.bool b) := by rw [h]
theorem ret_i64 {a b : Int} (h : a = b) : Ending.returned (.int .i64 a) = .returned (.int .i64 b) := by rw [h]
theorem ret_val {a b : Value} (h : a = b) : Ending.returned a = .returned b := by rw [h]
theorem drewN_two (w : World) (n m : Nat) : (w.drewN n).drewN m = w.drewN (n + m) := by simp [World.drewN, Nat.add_assoc]
theorem str_beq (a b : ByteArray) : (a.toList == b.toList) = decide (a = b) := by
  rw [Bool.eq_iff_iff, Go.ByteArray.toList_eq, Go.ByteArray.toList_eq]
  obtain ⟨⟨x⟩⟩ := a
  obtain ⟨⟨y⟩⟩ := b
  simp
end Go.Proofs.Ytdkgbakapinidaa
