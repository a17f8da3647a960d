/-
  Whole rows: stores into a block that is known whole, loads out of it. No program, no conditions.
-/
import Derived.Test.YtdkgbakapinidaaBase
import Derived.Deep.MidRow
namespace Go.Proofs.Ytdkgbakapinidaa
open Go.RowKit
set_option linter.unusedVariables false
set_option linter.unusedSimpArgs false
/-- A block, cells stored over from o on. -/
def over (old : Array Value) (o : Nat) (cells : List Value) : Array Value := (old.toList.take o ++ cells ++ old.toList.drop (o + cells.length)).toArray
theorem over_all (old : Array Value) (cells : List Value) (h : old.size = cells.length) : over old 0 cells = cells.toArray := by
  unfold over
  rw [List.take_zero, List.nil_append, List.drop_of_length_le (by simp; omega), List.append_nil]
theorem Blk.range {w : World} {g : Nat} {C : Array Value} {t : TypeId} (h : Blk w g C t) (o : Nat) (cs : List Value) (hc : (C.toList.drop o).take cs.length = cs) : w.rangeAt g o cs := fun j v hv => by
  rw [h.cell]
  have hj : j < cs.length := (List.getElem?_eq_some_iff.1 hv).1
  rw [← hc, List.getElem?_take, if_pos (by simpa using hj), List.getElem?_drop] at hv
  simpa using hv
theorem Blk.there {w : World} {g : Nat} {C : Array Value} {t : TypeId} (h : Blk w g C t) (o n : Nat) (hn : o + n ≤ C.size) : w.there g o n := fun j hj =>
  ⟨by rw [h.cell, Array.getElem?_eq_getElem (by omega)]; rfl, h.free _⟩
theorem Blk.over {w : World} {g : Nat} {C : Array Value} {t : TypeId} (h : Blk w g C t) (o : Nat) (cells : List Value) : Blk (w.setRow g (Ytdkgbakapinidaa.over C o cells)) g (Ytdkgbakapinidaa.over C o cells) t := h.setRow _
section
variable {P : Program} {w : World}
theorem run_putAt (ty : TypeId) (g o : Nat) (cells : List Value) (t : TypeId) (old : Array Value) (hg : Blk w g old t) (hfit : o + cells.length ≤ old.size) (hi : (P.info? ty).map (·.size) = some cells.length) (h1 : ∀ u ∈ cells, u.oneCell' = true) :
    (storeVar ty ⟨g, o, none⟩ (.agg cells.toArray)).run P w = .ok () (w.setRow g (over old o cells)) := by
  have hst := run_storeCells_at P g o t cells 0 old w hg (by simpa using hfit) h1
  simp only [Nat.add_zero] at hst
  cases hq : P.info? ty with
  | none => simp [hq] at hi
  | some i =>
    have hs : cells.length = i.size := by simp [hq] at hi; omega
    simp [storeVar, sizeOf, typeInfo, hq, Value.cells, ← hs]
    simpa [over] using hst
theorem wp_putAt {op : Oper} {a : Act} {K : Act → World → Prop} {Q : Exit → Act → World → Prop} (ty : TypeId) (x y : Operand) (ho : op.op = .store ty x y)
    (g o : Nat) (cells : List Value) (hx : a.eval x = .pointer (some ⟨g, o, none⟩)) (hy : a.eval y = .agg cells.toArray)
    (t : TypeId) (old : Array Value) (hg : Blk w g old t) (hfit : o + cells.length ≤ old.size) (hi : (P.info? ty).map (·.size) = some cells.length) (h1 : ∀ u ∈ cells, u.oneCell' = true)
    (h : ∀ w', Blk w' g (over old o cells) t → Fr (fun k => k = g) w w' → K (a.put op.dst undef) w') : op.wp P a w K Q := by
  unfold Oper.wp execOp
  simp only [ho, hx, hy, Instr.storeAt, Instr.sureAddr, Sem.run_bind, Sem.run_pure, Result.andThen_ok, run_putAt ty g o cells t old hg hfit hi h1]
  exact h _ (hg.over o cells) ((Fr.refl (fun k => k = g) w).setRow (.inl rfl) _)
theorem wpList_putAt {ops : Array Oper} {rest : List Oper} {op : Oper} {a : Act} {Q : Exit → Act → World → Prop} (hgd : op.guard = none) (ty : TypeId) (x y : Operand) (ho : op.op = .store ty x y)
    (g o : Nat) (cells : List Value) (hx : a.eval x = .pointer (some ⟨g, o, none⟩)) (hy : a.eval y = .agg cells.toArray)
    (t : TypeId) (old : Array Value) (hg : Blk w g old t) (hfit : o + cells.length ≤ old.size) (hi : (P.info? ty).map (·.size) = some cells.length) (h1 : ∀ u ∈ cells, u.oneCell' = true)
    (h : ∀ w', Blk w' g (over old o cells) t → Fr (fun k => k = g) w w' → wpList P ops Q rest (a.put op.dst undef) w') : wpList P ops Q (op :: rest) a w :=
  wpList_plain hgd fun _ hK => wp_putAt ty x y ho g o cells hx hy t old hg hfit hi h1 fun w' hb hf => hK _ _ (h w' hb hf)
/-- A store as a step of a region that draws its order. -/
theorem step_putAt {ops : Array Oper} {op : Oper} {a : Act} {K : Act → World → Prop} {Q : Exit → Act → World → Prop} {E : Prop} (hgd : op.guard = none) (ty : TypeId) (x y : Operand) (ho : op.op = .store ty x y)
    (g o : Nat) (cells : List Value) (hx : a.eval x = .pointer (some ⟨g, o, none⟩)) (hy : a.eval y = .agg cells.toArray)
    (t : TypeId) (old : Array Value) (hg : Blk w g old t) (hfit : o + cells.length ≤ old.size) (hi : (P.info? ty).map (·.size) = some cells.length) (h1 : ∀ u ∈ cells, u.oneCell' = true)
    (h : ∀ w', Blk w' g (over old o cells) t → Fr (fun k => k = g) w w' → K (a.put op.dst undef) w') : if Region.wanted op (yielded ops a.tmps) = true then Oper.wp P op a w K Q else E := by
  rw [if_pos (by simp [Region.wanted, hgd])]
  exact wp_putAt ty x y ho g o cells hx hy t old hg hfit hi h1 h
theorem wpList_getAt {ops : Array Oper} {rest : List Oper} {op : Oper} {a : Act} {Q : Exit → Act → World → Prop} (hgd : op.guard = none) (ty : TypeId) (x : Operand) (ho : op.op = .load ty x)
    (b o : Nat) (hx : a.eval x = .pointer (some ⟨b, o, none⟩)) (cs : List Value) (d : TypeDesc) (hc : w.rangeAt b o cs)
    (hu : P.underlying ty = some d) (hd : d.isRow = true) (hi : (P.info? ty).map (·.size) = some cs.length)
    (h : wpList P ops Q rest (a.put op.dst (.agg cs.toArray)) w) : wpList P ops Q (op :: rest) a w := wpList_load_mid hgd ty x ho b o hx cs d hc hu hd hi h
end
theorem results_cl {P : Program} {fn : Func} {p : Tmp} {ty : TypeId} (h : fn.results = #[.cell p ty]) (tmps : Array Value) (w : World) (g : Nat) (t : TypeId) (cs : List Value) (d : TypeDesc)
    (hp : tmps.getD p undef = .pointer (some ⟨g, 0, none⟩)) (hg : Blk w g cs.toArray t)
    (hu : P.underlying ty = some d) (hd : (match d with | .struct _ | .array _ _ => true | _ => false) = true) (hi : (P.info? ty).map (·.size) = some cs.length) :
    (results fn tmps).run P w = .ok (.agg cs.toArray) w := results_c h tmps w g t cs.toArray d hp hg hu hd (by simpa using hi)
end Go.Proofs.Ytdkgbakapinidaa
