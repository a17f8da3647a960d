/-
  Points, segments; the walks of fix.Fits, of path's fits.
-/
import Derived.Test.YtkkejjfmidgciaaDoorBase
import Derived.Test.YtkkejjfmidgciaaDoorProg
import Derived.StillTailTactics
namespace Go.Proofs.YtkkejjfmidgciaaDoor
open Go.RowKit
set_option linter.unusedVariables false
set_option linter.unusedSimpArgs false
structure Pt where
  x : Int
  y : Int
deriving DecidableEq
def encP (p : Pt) : List Value := [.int .i64 p.x, .int .i64 p.y]
def ptV (p : Pt) : Value := .agg #[.int .i64 p.x, .int .i64 p.y]
def encPs (l : List Pt) : List Value := l.flatMap encP
def fitZ (z : Int) : Bool := decide (-2147483648 ≤ z ∧ z ≤ 2147483647)
def fitP (p : Pt) : Bool := fitZ p.x && fitZ p.y
theorem encPs_len (l : List Pt) : (encPs l).length = l.length * 2 := by
  induction l with
  | nil => rfl
  | cons a r ih => simp only [encPs, List.flatMap_cons, List.length_append, List.length_cons] at *; rw [ih]; simp [encP]; omega
theorem encPs_at (l : List Pt) (k j : Nat) (hk : k < l.length) (hj : j < 2) : (encPs l)[k * 2 + j]? = (encP l[k])[j]? := by
  induction l generalizing k with
  | nil => simp at hk
  | cons a r ih =>
    have hc : encPs (a :: r) = encP a ++ encPs r := by simp [encPs]
    rw [hc]
    cases k with
    | zero => rw [List.getElem?_append_left (by simp [encP]; omega)]; simp
    | succ k =>
      rw [List.getElem?_append_right (by simp [encP]; omega), show (k + 1) * 2 + j - (encP a).length = k * 2 + j by simp [encP]; omega]
      exact ih k (by simpa using hk)
theorem RowIn.pt {w : World} {S : Nat → Prop} {v : Value} {l : List Pt} (h : RowIn w S 2 v l.length (encPs l)) (hn : 0 < l.length) :
    ∃ b off cap, v = .slice (some ⟨b, off, none⟩) l.length cap ∧ l.length ≤ cap ∧ cap ≤ 9223372036854775807 ∧ S b ∧ ∀ k (hk : k < l.length), w.cell? ⟨b, off + k * 2, none⟩ = some (.int .i64 l[k].x) ∧ w.cell? ⟨b, off + k * 2 + 1, none⟩ = some (.int .i64 l[k].y) := by
  obtain ⟨b, off, cap, hv, h1, h2, hS, hc⟩ := h.pos (by rw [encPs_len]; omega)
  refine ⟨b, off, cap, hv, h1, h2, hS, fun k hk => ⟨?_, ?_⟩⟩
  · exact hc (k * 2 + 0) _ (by rw [encPs_at l k 0 hk (by omega)]; rfl)
  · rw [Nat.add_assoc]; exact hc (k * 2 + 1) _ (by rw [encPs_at l k 1 hk (by omega)]; rfl)

theorem fix_fits (z : Int) (w : World) : Calls Tryd.prog 109 #[.int .i64 z] w fun e w' => e = .returned (.bool (fitZ z)) ∧ w = w' := by
  by_cases h1 : -2147483648 ≤ z
  · have d1 : decide (-2147483648 ≤ z) = true := by simpa using h1
    rw [show fitZ z = decide (z ≤ 2147483647) by simp [fitZ, h1]]
    go_enter Tryd.func109, Tryd.ntmps109
    go_wp2
    go_ret
    exact ⟨rfl, rfl⟩
  · have d1 : decide (-2147483648 ≤ z) = false := by simpa using h1
    rw [show fitZ z = false by simp [fitZ, h1]]
    go_enter Tryd.func109, Tryd.ntmps109
    go_wp2
    go_ret
    exact ⟨rfl, rfl⟩

theorem fits1_any (p : Pt) (w : World) : Calls Tryd.prog 131 #[ptV p] w fun e w' => e = .returned (.bool (!fitP p)) ∧ Fr Nob w w' := by
  unfold ptV
  by_cases h : fitZ p.x
  · rw [show (!fitP p) = !fitZ p.y by simp [fitP, h]]
    go_enter Tryd.func131, Tryd.ntmps131
    go_wp2_with fail
    refine (fix_fits p.x _).mono ?_
    rintro e w1 ⟨rfl, rfl⟩
    rw [h]
    go_wp2_with fail
    refine (fix_fits p.y _).mono ?_
    rintro e w1 ⟨rfl, rfl⟩
    go_wp2_with fail
    go_ret
    exact ⟨rfl, (Fr.refl _ _).alloc _⟩
  · have hf : fitZ p.x = false := by simpa using h
    rw [show (!fitP p) = true by simp [fitP, hf]]
    clear h
    go_enter Tryd.func131, Tryd.ntmps131
    go_wp2_with fail
    refine (fix_fits p.x _).mono ?_
    rintro e w1 ⟨rfl, rfl⟩
    rw [hf]
    go_wp2_with fail
    go_ret
    exact ⟨rfl, (Fr.refl _ _).alloc _⟩
end Go.Proofs.YtkkejjfmidgciaaDoor
