/-
  Memory of a call's own: new blocks, rows in them. No program, no conditions.
-/
import Derived.Test.YtkkejjfmidgciaaDoorP7
import Derived.Test.YtkkejjfmidgciaaDoorStep
namespace Go.Proofs.YtkkejjfmidgciaaDoor
open Go.RowKit
set_option linter.unusedVariables false
set_option linter.unusedSimpArgs false
/-- Blocks that are there. -/
theorem RowIn.lts {w : World} {S : Nat → Prop} {size n : Nat} {v : Value} {cs : List Value} (h : RowIn w S size v n cs) : RowIn w (fun k => S k ∧ k < w.heap.size) size v n cs := by
  obtain ⟨hl, A, cap, hv, h1, h2, h3, h4⟩ := h
  exact ⟨hl, A, cap, hv, h1, h2, h3, fun j u hu => by obtain ⟨b, off, ha, hS, hc⟩ := h4 j u hu; exact ⟨b, off, ha, ⟨hS, World.block_lt_of_cell? w _ hc⟩, hc⟩⟩
theorem RowIn.form {w : World} {S : Nat → Prop} {size n : Nat} {v : Value} {cs : List Value} (h : RowIn w S size v n cs) : ∃ A cap, v = .slice A n cap ∧ n ≤ cap ∧ cap ≤ maxLen := by
  obtain ⟨_, A, cap, hv, h1, h2, _⟩ := h
  exact ⟨A, cap, hv, h1, h2⟩
theorem RowIn.nob {w w' : World} {S : Nat → Prop} {size n : Nat} {v : Value} {cs : List Value} (h : RowIn w S size v n cs) (hf : Fr Nob w w') : RowIn w' S size v n cs := h.fr hf fun _ _ hh => hh
theorem OwnS.rowIn {w : World} {e : TypeId} {size n : Nat} {v : Value} {cs : List Value} (h : OwnS w e size v n cs) {S : Nat → Prop} (hs : ∀ k, v.ownBlock = some k → S k) : RowIn w S size v n cs := h.row.mono hs
theorem OwnS.nob {w w' : World} {e : TypeId} {size n : Nat} {v : Value} {cs : List Value} (h : OwnS w e size v n cs) (hf : Fr Nob w w') : OwnS w' e size v n cs := h.fr hf fun _ _ hh => hh
theorem Blk.nob {w w' : World} {g : Nat} {cs : Array Value} {t : TypeId} (h : Blk w g cs t) (hf : Fr Nob w w') : Blk w' g cs t := h.fr hf fun hh => hh
/-- New blocks of a call. -/
def Bt (w w' : World) : Nat → Prop := fun k => w.heap.size ≤ k ∧ k < w'.heap.size
theorem OwnS.bt {w0 w : World} {e : TypeId} {size n : Nat} {v : Value} {cs : List Value} (h : OwnS w e size v n cs) (hn : NewV w0 v) : RowIn w (Bt w0 w) size v n cs := h.row.mono fun k hk => ⟨hn k hk, h.lt k hk⟩
/-- An empty slice of its own. -/
theorem OwnS.empty {w : World} {e : TypeId} {size g : Nat} (h : Blk w g #[] e) : OwnS w e size (.slice (some ⟨g, 0, none⟩) 0 0) 0 [] :=
  ⟨by simp, .inr ⟨_, _, _, rfl, h, Nat.le_refl _, by decide, by simp, by simp⟩⟩
theorem fr_of_app {w0 w w' : World} {v : Value} (h : Fr (inB v) w w') (hf : Fr Nob w0 w) (hn : NewV w0 v) : Fr Nob w0 w' := hf.trans h fun k hk => .inr (hn k hk)
theorem new_of_app {w0 w : World} {v v' : Value} (h : v'.ownBlock = v.ownBlock ∨ v'.ownBlock = some w.heap.size) (hf : Fr Nob w0 w) (hn : NewV w0 v) : NewV w0 v' := fun b hb => by
  rcases h with h | h
  · exact hn b (h ▸ hb)
  · rw [h] at hb; cases hb; exact hf.size
theorem Blk.new1 (w : World) (o : Obj) (cs : Array Value) (t : TypeId) : Blk ((w.alloc o).alloc (.cells cs t)) (w.heap.size + 1) cs t := by
  have := Blk.new (w.alloc o) cs t
  simpa using this
theorem Blk.new2 (w : World) (o o' : Obj) (cs : Array Value) (t : TypeId) : Blk (((w.alloc o).alloc o').alloc (.cells cs t)) (w.heap.size + 2) cs t := by
  have := Blk.new ((w.alloc o).alloc o') cs t
  simpa using this
theorem Blk.row {w : World} {g e size n : Nat} {cs : Array Value} (h : Blk w g cs e) (hl : cs.size = n * size) (hn : n ≤ maxLen) : RowIn w (fun k => k = g) size (.slice (some ⟨g, 0, none⟩) n n) n cs.toList :=
  ⟨by rw [Array.length_toList, hl], some ⟨g, 0, none⟩, n, rfl, Nat.le_refl _, hn, (fun h => by cases h), fun j u hu => ⟨_, _, rfl, rfl, by rw [Nat.zero_add]; exact (h.cell j).trans (by simpa using hu)⟩⟩
theorem Blk.sgs {w : World} {g : Nat} {l : List Sg} (h : Blk w g (encSs l).toArray 91) (hl : l.length ≤ 10) : RowIn w (fun k => k = g) 7 (.slice (some ⟨g, 0, none⟩) l.length l.length) l.length (encSs l) := by
  have := h.row (size := 7) (n := l.length) (by simp [encSs_len]) (by unfold maxLen; omega)
  simpa using this
section
variable {P : Program} (w : World)
/-- append onto an empty slice of no room. -/
theorem run_app0 (t ty e : TypeId) (i : TypeInfo) (z : Value) (size bytes : Nat) (ht : P.underlying t = some (.slice e)) (hi : P.info? e = some i) (hz : i.zero = some z)
    (hsize : i.size = size) (hby : i.bytes = bytes) (hzs : z.cells.size = size) (hsz : 0 < size)
    (g : Nat) (hb : Blk w g #[] e) (S : Nat → Prop) (x : Value) (m : Nat) (news : List Value) (hx : RowIn w S size x m news)
    (h1 : ∀ u ∈ news, u.oneCell' = true) (h63 : m ≤ maxLen) (hbytes : m * bytes ≤ 140737488355328) :
    ∃ v' w', (Builtin.append_ #[t, t] ty #[.slice (some ⟨g, 0, none⟩) 0 0, x]).run P w = .ok v' w' ∧ OwnS w' e size v' m news ∧ Fr Nob w w' ∧ (v'.ownBlock = some g ∨ v'.ownBlock = some w.heap.size) := by
  by_cases hm : m = 0
  · obtain ⟨v', w', hr, ho, _, hat, h0⟩ := run_app (P := P) w t ty e i z size bytes ht hi hz hsize hby hzs hsz _ 0 [] (OwnS.empty (size := size) hb) S x m news hx h1 (by omega) (by rw [Nat.zero_add]; exact hbytes)
    obtain ⟨rfl, rfl⟩ := h0 (by omega)
    exact ⟨_, _, hr, by simpa using ho, Fr.refl _ _, .inl rfl⟩
  · subst hsize
    subst hby
    obtain ⟨hl, A, c, rfl, hmc, hcm, hA, hcells⟩ := hx
    obtain ⟨a, rfl⟩ : ∃ a, A = some a := by
      cases A with
      | none => have := hA rfl; omega
      | some a => exact ⟨a, rfl⟩
    have hsmall : m ≤ 9223372036854775807 := by simp only [maxLen] at h63; omega
    have hnews : ∀ j u, news[j]? = some u → w.cell? (a.add j) = some u := fun j u hu => by
      obtain ⟨b, off, hb, _, hc⟩ := hcells j u hu
      cases hb
      rw [add_plain]
      exact hc
    have hr := run_append_grow (P := P) w t ty e i z ht hi hz ⟨g, 0, none⟩ 0 0 [] (by simp) (fun j u hu => by simp at hu) a m c news hl hnews (by omega) (by omega) (growslice_fits (by omega) (by rw [Nat.zero_add]; exact hbytes))
    have hge := grownCap_ge w (0 + m) 0 e
    have hcm : grownCap w (0 + m) 0 e ≤ maxLen := grownCap_le_maxLen w (0 + m) 0 e (by omega)
    refine ⟨_, _, hr, ⟨hl, .inr ⟨w.heap.size, grownCap w (0 + m) 0 e, _, ?_, Blk.new w.drew _ _, ?_, hcm, ?_, ?_⟩⟩, ((Fr.refl _ _).drew).alloc _, .inr rfl⟩
    · rw [Nat.zero_add]
    · rw [Nat.zero_add] at hge ⊢; exact hge
    · simp only [Array.size_append, List.size_toArray, size_zeroCells, hzs, List.length_nil, hl, Nat.zero_add, ← Nat.add_mul]
      rw [Nat.zero_add] at hge
      apply Nat.le_of_eq
      congr 1
      omega
    · simp only [Array.toList_append]
      rw [List.nil_append, ← hl]
      exact List.take_left
theorem step_app0 {ops : Array Oper} {o : Oper} {a : Act} {K : Act → World → Prop} {Q : Exit → Act → World → Prop} {E : Prop} (hgd : o.guard = none) (s x : Operand) (t : TypeId)
    (ho : o.op = .call { callee := .builtin .append, args := #[s, x], argTypes := #[t, t] })
    (e : TypeId) (i : TypeInfo) (z : Value) (size bytes : Nat) (ht : P.underlying t = some (.slice e)) (hi : P.info? e = some i) (hz : i.zero = some z)
    (hsize : i.size = size) (hby : i.bytes = bytes) (hzs : z.cells.size = size) (hsz : 0 < size)
    (g : Nat) (hs : a.eval s = .slice (some ⟨g, 0, none⟩) 0 0) (hb : Blk w g #[] e) (S : Nat → Prop) (xv : Value) (m : Nat) (news : List Value) (hx : a.eval x = xv) (hrow : RowIn w S size xv m news)
    (h1 : ∀ u ∈ news, u.oneCell' = true) (h63 : m ≤ maxLen) (hbytes : m * bytes ≤ 140737488355328)
    (h : ∀ v' w', OwnS w' e size v' m news → Fr Nob w w' → (v'.ownBlock = some g ∨ v'.ownBlock = some w.heap.size) → K (a.put o.dst v') w') :
    if Region.wanted o (yielded ops a.tmps) = true then Oper.wp P o a w K Q else E := by
  obtain ⟨v', w', hr, h2, h3, h4⟩ := run_app0 (P := P) w t o.type e i z size bytes ht hi hz hsize hby hzs hsz g hb S xv m news hrow h1 h63 hbytes
  rw [if_pos (by simp [Region.wanted, hgd])]
  unfold Oper.wp execOp
  simp only [ho, resolve, invoke, builtin, Sem.run_bind, Sem.run_pure, Result.andThen_ok, List.map_toArray, List.map_cons, List.map_nil, hs, hx, hr]
  exact h v' w' h2 h3 h4
theorem wpList_app0 {ops : Array Oper} {rest : List Oper} {o : Oper} {a : Act} {Q : Exit → Act → World → Prop} (hgd : o.guard = none) (s x : Operand) (t : TypeId)
    (ho : o.op = .call { callee := .builtin .append, args := #[s, x], argTypes := #[t, t] })
    (e : TypeId) (i : TypeInfo) (z : Value) (size bytes : Nat) (ht : P.underlying t = some (.slice e)) (hi : P.info? e = some i) (hz : i.zero = some z)
    (hsize : i.size = size) (hby : i.bytes = bytes) (hzs : z.cells.size = size) (hsz : 0 < size)
    (g : Nat) (hs : a.eval s = .slice (some ⟨g, 0, none⟩) 0 0) (hb : Blk w g #[] e) (S : Nat → Prop) (xv : Value) (m : Nat) (news : List Value) (hx : a.eval x = xv) (hrow : RowIn w S size xv m news)
    (h1 : ∀ u ∈ news, u.oneCell' = true) (h63 : m ≤ maxLen) (hbytes : m * bytes ≤ 140737488355328)
    (h : ∀ v' w', OwnS w' e size v' m news → Fr Nob w w' → (v'.ownBlock = some g ∨ v'.ownBlock = some w.heap.size) → wpList P ops Q rest (a.put o.dst v') w') : wpList P ops Q (o :: rest) a w := by
  obtain ⟨v', w', hr, h2, h3, h4⟩ := run_app0 (P := P) w t o.type e i z size bytes ht hi hz hsize hby hzs hsz g hb S xv m news hrow h1 h63 hbytes
  unfold wpList
  rw [if_pos (by simp [Region.wanted, hgd])]
  left
  unfold Oper.wp execOp
  simp only [ho, resolve, invoke, builtin, Sem.run_bind, Sem.run_pure, Result.andThen_ok, List.map_toArray, List.map_cons, List.map_nil, hs, hx, hr]
  exact h v' w' h2 h3 h4
end
end Go.Proofs.YtkkejjfmidgciaaDoor
