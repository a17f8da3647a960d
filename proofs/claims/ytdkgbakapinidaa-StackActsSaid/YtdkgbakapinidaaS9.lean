/-
  What the stack's laws are handed: slices of objects, of numbers.
-/
import Derived.Test.YtdkgbakapinidaaS8
import Derived.Test.YtdkgbakapinidaaOpen
namespace Go.Proofs.Ytdkgbakapinidaa
open Go.RowKit
set_option linter.unusedVariables false
set_option linter.unusedSimpArgs false
theorem cells37 : Try.prog.cellsOf 37 = 8 := by kernel_rfl
theorem read_ob {H : Type} {enc' : TypeId × Value → H} {w : World} {base : Nat} {spare : Nat → Bool} {held : Bool} (n : Nat) (cs : List Value) (y : DataW H × List MemPlace)
    (h : DataW.trod enc' Try.prog w base spare held n 37 cs = some y) : ∃ o : Ob, cs = enc o := by
  obtain ⟨xs, n, _, rfl, hl, hlen, hf⟩ := DataW.trod_struct Try.underlying37 h
  rw [cells37] at hl
  have e3 : Try.prog.cellsOf 3 = 1 := by kernel_rfl
  have e4 : Try.prog.cellsOf 4 = 1 := by kernel_rfl
  have e9 : Try.prog.cellsOf 9 = 1 := by kernel_rfl
  have hx : xs.length = 8 := hlen
  obtain ⟨z0, h0, _⟩ := field_int (hf 0 _ rfl) (by omega) Try.underlying3 e3
  obtain ⟨z1, h1⟩ := field_bool (hf 1 _ rfl) (by omega) Try.underlying4 e4
  obtain ⟨z2, h2, _⟩ := field_int (hf 2 _ rfl) (by omega) Try.underlying3 e3
  obtain ⟨z3, h3, _⟩ := field_int (hf 3 _ rfl) (by omega) Try.underlying3 e3
  obtain ⟨z4, h4⟩ := field_string (hf 4 _ rfl) (by omega) Try.underlying9 e9
  obtain ⟨z5, h5, _⟩ := field_int (hf 5 _ rfl) (by omega) Try.underlying3 e3
  obtain ⟨z6, h6, _⟩ := field_int (hf 6 _ rfl) (by omega) Try.underlying3 e3
  obtain ⟨z7, h7, _⟩ := field_int (hf 7 _ rfl) (by omega) Try.underlying3 e3
  refine ⟨⟨z0, z1, z2, z3, z4, z5, z6, z7⟩, ?_⟩
  match cs, hl with
  | [c0, c1, c2, c3, c4, c5, c6, c7], _ =>
    simp at h0 h1 h2 h3 h4 h5 h6 h7
    simp [enc, h0, h1, h2, h3, h4, h5, h6, h7]
theorem flat_enc (xs : List (Ob × List Value)) (h : ∀ y ∈ xs, y.2 = enc y.1) : xs.flatMap (·.2) = encs (xs.map (·.1)) := by
  induction xs with
  | nil => rfl
  | cons a r ih =>
    have hc : ∀ (a : Ob) (r : List Ob), encs (a :: r) = enc a ++ encs r := fun a r => by simp [encs]
    rw [List.flatMap_cons, List.map_cons, hc, h a (by simp), ih fun y hy => h y (by simp [hy])]
theorem read_obs {H : Type} {enc' : TypeId × Value → H} {w : World} {base : Nat} {spare : Nat → Bool} {held : Bool} {fuel : Nat} {v : Value} {x : DataW H × List MemPlace}
    (h : DataW.trod enc' Try.prog w base spare held fuel 22 [v] = some x) : ∃ l : List Ob, RowIn w (Lt w) 8 v l.length (encs l) := by
  obtain ⟨xs, h1, h2⟩ := read_slice Try.underlying22 8 cells37 (by omega) (fun (o : Ob) cs => cs = enc o) (fun n cs y h => read_ob n cs y h) h
  rw [flat_enc xs fun y hy => (h2 y hy).1] at h1
  exact ⟨xs.map (·.1), by simpa using h1⟩
theorem read_ints {H : Type} {enc' : TypeId × Value → H} {w : World} {base : Nat} {spare : Nat → Bool} {held : Bool} {fuel : Nat} {v : Value} {x : DataW H × List MemPlace}
    (h : DataW.trod enc' Try.prog w base spare held fuel 33 [v] = some x) : ∃ l : List Int, RowIn w (Lt w) 1 v l.length (ints l) := by
  obtain ⟨xs, h1, h2⟩ := read_slice Try.underlying33 1 (by kernel_rfl) (by omega) (fun (z : Int) cs => cs = [.int .i64 z]) (fun n cs y h => by
    obtain ⟨z, hz, _⟩ := DataW.trod_int Try.underlying3 h
    exact ⟨z, hz⟩) h
  have e : xs.flatMap (·.2) = ints (xs.map (·.1)) := by
    clear h1
    induction xs with
    | nil => rfl
    | cons a r ih =>
      rw [List.flatMap_cons, (h2 a (by simp)).1, ih fun y hy => h2 y (by simp [hy])]
      simp [ints]
  rw [e] at h1
  exact ⟨xs.map (·.1), by simpa using h1⟩
end Go.Proofs.Ytdkgbakapinidaa
