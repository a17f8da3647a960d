/-
  What the path's laws are handed: points, slices of segments.
-/
import Derived.Test.YtkkejjfmidgciaaDoorP7
import Derived.Test.YtkkejjfmidgciaaDoorOpen
namespace Go.Proofs.YtkkejjfmidgciaaDoor
open Go.RowKit
set_option linter.unusedVariables false
set_option linter.unusedSimpArgs false
theorem cells23 : Tryd.prog.cellsOf 56 = 2 := by kernel_rfl
theorem cells3 : Tryd.prog.cellsOf 3 = 1 := by kernel_rfl
theorem cells41 : Tryd.prog.cellsOf 89 = 6 := by kernel_rfl
theorem cells43 : Tryd.prog.cellsOf 91 = 7 := by kernel_rfl
theorem list2 {cs : List Value} (h : cs.length = 2) : ∃ a b, cs = [a, b] := by
  match cs, h with
  | [a, b], _ => exact ⟨a, b, rfl⟩
theorem read_pt {H : Type} {enc' : TypeId × Value → H} {w : World} {base : Nat} {spare : Nat → Bool} {held : Bool} (n : Nat) (cs : List Value) (y : DataW H × List MemPlace)
    (h : DataW.trod enc' Tryd.prog w base spare held n 56 cs = some y) : ∃ p : Pt, cs = encP p := by
  obtain ⟨xs, n, _, rfl, hl, hlen, hf⟩ := DataW.trod_struct Tryd.underlying56 h
  rw [cells23] at hl
  have hx : xs.length = 2 := hlen
  obtain ⟨z0, h0, _⟩ := field_int (hf 0 _ rfl) (by omega) Tryd.underlying3 cells3
  obtain ⟨z1, h1, _⟩ := field_int (hf 1 _ rfl) (by omega) Tryd.underlying3 cells3
  refine ⟨⟨z0, z1⟩, ?_⟩
  obtain ⟨c0, c1, rfl⟩ := list2 hl
  simp at h0 h1
  simp [encP, h0, h1]
theorem read_pt_agg {H : Type} {enc' : TypeId × Value → H} {w : World} {base : Nat} {spare : Nat → Bool} {held : Bool} (n : Nat) (cs : Array Value) (y : DataW H × List MemPlace)
    (h : DataW.trod enc' Tryd.prog w base spare held n 56 (Value.agg cs).cells.toList = some y) : ∃ p : Pt, cs = #[.int .i64 p.x, .int .i64 p.y] := by
  obtain ⟨p, hp⟩ := read_pt n cs.toList y h
  refine ⟨p, ?_⟩
  apply Array.toList_inj.1
  rw [hp]; rfl
end Go.Proofs.YtkkejjfmidgciaaDoor
