/-
  What the laws of chapter 14 are handed: numbers, matrices, calls.
-/
import Derived.Test.YtkkejjfmidgciaaDoorG15
import Derived.Test.YtkkejjfmidgciaaDoorP9
import Derived.OpenShut
namespace Go.Proofs.YtkkejjfmidgciaaDoor
open Go.RowKit
set_option linter.unusedVariables false
set_option linter.unusedSimpArgs false
theorem cellsM6 : Tryd.prog.cellsOf 33 = 6 := by kernel_rfl
theorem cellsInts : Tryd.prog.cellsOf 30 = 1 := by kernel_rfl
theorem cellsAct14 : Tryd.prog.cellsOf 76 = 11 := by kernel_rfl
theorem read_ints {H : Type} {enc' : TypeId × Value → H} {w : World} {base : Nat} {spare : Nat → Bool} {held : Bool} {fuel : Nat} {v : Value} {x : DataW H × List MemPlace}
    (h : DataW.trod enc' Tryd.prog w base spare held fuel 30 [v] = some x) : ∃ l : List Int, RowIn w (Lt w) 1 v l.length (ints l) := by
  obtain ⟨xs, h1, h2⟩ := read_slice Tryd.underlying30 1 (by kernel_rfl) (by omega) (fun (z : Int) cs => cs = [.int .i64 z]) (fun n cs y h => by
    obtain ⟨z, hz, _⟩ := DataW.trod_int Tryd.underlying3 h
    exact ⟨z, hz⟩) h
  have e : xs.flatMap (·.2) = ints (xs.map (·.1)) := by
    clear h1
    induction xs with
    | nil => rfl
    | cons a r ih =>
      rw [List.flatMap_cons, (h2 a (by simp)).1, ih fun y hy => h2 y (by simp [hy])]
      simp [ints]
  rw [e] at h1
  exact ⟨xs.map (·.1), by simpa using h1⟩
theorem list6 {cs : List Value} (h : cs.length = 6) : ∃ a b c d e f, cs = [a, b, c, d, e, f] := by
  match cs, h with
  | [a, b, c, d, e, f], _ => exact ⟨a, b, c, d, e, f, rfl⟩
theorem list11 {cs : List Value} (h : cs.length = 11) : ∃ a b c d e f g h i j k, cs = [a, b, c, d, e, f, g, h, i, j, k] := by
  match cs, h with
  | [a, b, c, d, e, f, g, h, i, j, k], _ => exact ⟨a, b, c, d, e, f, g, h, i, j, k, rfl⟩
theorem read_m6 {H : Type} {enc' : TypeId × Value → H} {w : World} {base : Nat} {spare : Nat → Bool} {held : Bool} {n : Nat} {cs : List Value} {y : DataW H × List MemPlace}
    (h : DataW.trod enc' Tryd.prog w base spare held n 33 cs = some y) : ∃ m : M6, cs = encM m := by
  obtain ⟨ys, k, rfl, _, hl, hy3, hel⟩ := DataW.trod_array Tryd.underlying33 h
  rw [cellsM6] at hl
  obtain ⟨c0, c1, c2, c3, c4, c5, rfl⟩ := list6 hl
  have ht : ∀ i (hi : i < 6), ∃ z : Int, (([c0, c1, c2, c3, c4, c5] : List Value).drop (i * 1)).take 1 = [.int .i64 z] := fun i hi => by
    have := hel i hi
    rw [cells3, List.getElem?_eq_getElem (by omega)] at this
    obtain ⟨z, hz, _⟩ := DataW.trod_int Tryd.underlying3 this
    exact ⟨z, hz⟩
  obtain ⟨a, ha⟩ := ht 0 (by omega)
  obtain ⟨b, hb⟩ := ht 1 (by omega)
  obtain ⟨c, hc⟩ := ht 2 (by omega)
  obtain ⟨d, hd⟩ := ht 3 (by omega)
  obtain ⟨e, he⟩ := ht 4 (by omega)
  obtain ⟨f, hf⟩ := ht 5 (by omega)
  simp at ha hb hc hd he hf
  exact ⟨⟨a, b, c, d, e, f⟩, by simp [encM, ha, hb, hc, hd, he, hf]⟩
structure Act14 where
  d : Int
  n : Int
  m : M6
  l : List Int
  px : Int
  py : Int
def encA (a : Act14) (v : Value) : List Value := [.int .i64 a.d, .int .i64 a.n, .int .i64 a.m.a, .int .i64 a.m.b, .int .i64 a.m.c, .int .i64 a.m.d, .int .i64 a.m.e, .int .i64 a.m.f, v, .int .i64 a.px, .int .i64 a.py]
theorem read_act14 {H : Type} {enc' : TypeId × Value → H} {w : World} {base : Nat} {spare : Nat → Bool} {held : Bool} (n : Nat) (cs : List Value) (y : DataW H × List MemPlace)
    (h : DataW.trod enc' Tryd.prog w base spare held n 76 cs = some y) : ∃ a : Act14 × Value, cs = encA a.1 a.2 ∧ RowIn w (Lt w) 1 a.2 a.1.l.length (ints a.1.l) := by
  obtain ⟨xs, n, _, rfl, hl, hlen, hf⟩ := DataW.trod_struct Tryd.underlying76 h
  rw [cellsAct14] at hl
  have hx : xs.length = 5 := hlen
  obtain ⟨z0, h0, _⟩ := field_int (hf 0 _ rfl) (by omega) Tryd.underlying3 cells3
  obtain ⟨z1, h1, _⟩ := field_int (hf 1 _ rfl) (by omega) Tryd.underlying3 cells3
  have h2 : DataW.trod enc' Tryd.prog w base spare held n 33 ((cs.drop 2).take (Tryd.prog.cellsOf 33)) = xs[2]? := hf 2 _ rfl
  have h3 : DataW.trod enc' Tryd.prog w base spare held n 30 ((cs.drop 8).take (Tryd.prog.cellsOf 30)) = xs[3]? := hf 3 _ rfl
  have h4 : DataW.trod enc' Tryd.prog w base spare held n 56 ((cs.drop 9).take (Tryd.prog.cellsOf 56)) = xs[4]? := hf 4 _ rfl
  rw [cellsM6] at h2
  rw [cellsInts] at h3
  rw [cells23] at h4
  obtain ⟨c0, c1, c2, c3, c4, c5, c6, c7, c8, c9, c10, rfl⟩ := list11 hl
  rw [List.getElem?_eq_getElem (by omega)] at h2 h3 h4
  obtain ⟨m, hm⟩ := read_m6 (cs := [c2, c3, c4, c5, c6, c7]) h2
  obtain ⟨l, hl1⟩ := read_ints (v := c8) h3
  obtain ⟨p, hp⟩ := read_pt _ [c9, c10] _ h4
  simp at h0 h1
  simp [encM] at hm
  simp [encP] at hp
  exact ⟨(⟨z0, z1, m, l, p.x, p.y⟩, c8), by simp [encA, h0, h1, hm, hp], hl1⟩
end Go.Proofs.YtkkejjfmidgciaaDoor
