/-
  The walks of points, follows, of the reference's Fits and FitsPoint, of path.Sound.
-/
import Derived.Test.YtkkejjfmidgciaaDoorP3
namespace Go.Proofs.YtkkejjfmidgciaaDoor
open Go.RowKit
set_option linter.unusedVariables false
set_option linter.unusedSimpArgs false
def ptsK (k : Int) : Int := if k = 1 ∨ k = 2 then 1 else if k = 3 then 3 else if k = 4 then 0 else -1
theorem points_any (k : Int) (w : World) : Calls Tryd.prog 126 #[.int .i64 k] w fun e w' => e = .returned (.int .i64 (ptsK k)) ∧ w = w' := by
  by_cases h1 : k = 1
  · subst h1; rw [show ptsK 1 = 1 from rfl]
    go_enter Tryd.func126, Tryd.ntmps126; go_wp2; go_ret; exact ⟨rfl, rfl⟩
  by_cases h2 : k = 2
  · subst h2; rw [show ptsK 2 = 1 from rfl]
    go_enter Tryd.func126, Tryd.ntmps126; go_wp2; go_ret; exact ⟨rfl, rfl⟩
  by_cases h3 : k = 3
  · subst h3; rw [show ptsK 3 = 3 from rfl]
    go_enter Tryd.func126, Tryd.ntmps126; go_wp2; go_ret; exact ⟨rfl, rfl⟩
  by_cases h4 : k = 4
  · subst h4; rw [show ptsK 4 = 0 from rfl]
    go_enter Tryd.func126, Tryd.ntmps126; go_wp2; go_ret; exact ⟨rfl, rfl⟩
  have e1 : (k == 1) = false := by simpa using h1
  have e2 : (k == 2) = false := by simpa using h2
  have e3 : (k == 3) = false := by simpa using h3
  have e4 : (k == 4) = false := by simpa using h4
  rw [show ptsK k = -1 by simp [ptsK, h1, h2, h3, h4]]
  clear h1 h2 h3 h4
  go_enter Tryd.func126, Tryd.ntmps126; go_wp2; go_ret; exact ⟨rfl, rfl⟩
def folB (k last : Int) : Bool := if k = 1 then !(last == 1) else !(last == 0) && !(last == 4)
theorem follows_any (k last : Int) (w : World) : Calls Tryd.prog 127 #[.int .i64 k, .int .i64 last] w fun e w' => e = .returned (.bool (folB k last)) ∧ w = w' := by
  by_cases h1 : k = 1
  · subst h1; rw [show folB 1 last = !(last == 1) from rfl]
    generalize hq : (last == 1) = q
    go_enter Tryd.func127, Tryd.ntmps127; go_wp2; go_ret; exact ⟨ret_bool (by rw [← hq]; rfl), rfl⟩
  have e1 : (k == 1) = false := by simpa using h1
  by_cases h2 : last = 0
  · subst h2
    rw [show folB k 0 = false by simp [folB, h1]]
    clear h1
    go_enter Tryd.func127, Tryd.ntmps127; go_wp2; go_ret; exact ⟨rfl, rfl⟩
  have e2 : (last == 0) = false := by simpa using h2
  have e2' : (last != 0) = true := by simpa using h2
  rw [show folB k last = !(last == 4) by simp [folB, h1, h2]]
  clear h1 h2
  generalize hq : (last == 4) = q
  go_enter Tryd.func127, Tryd.ntmps127; go_wp2; go_ret; exact ⟨ret_bool (by rw [← hq]; rfl), rfl⟩
theorem ref_fits (z : Int) (w : World) : Calls Tryd.prog 54 #[.int .i64 z] w fun e w' => e = .returned (.bool (fitZ z)) ∧ w = w' := by
  by_cases h1 : -2147483648 ≤ z
  · have d1 : decide (-2147483648 ≤ z) = true := by simpa using h1
    rw [show fitZ z = decide (z ≤ 2147483647) by simp [fitZ, h1]]
    go_enter Tryd.func54, Tryd.ntmps54
    go_wp2
    go_ret
    exact ⟨rfl, rfl⟩
  · have d1 : decide (-2147483648 ≤ z) = false := by simpa using h1
    rw [show fitZ z = false by simp [fitZ, h1]]
    go_enter Tryd.func54, Tryd.ntmps54
    go_wp2
    go_ret
    exact ⟨rfl, rfl⟩
theorem fitp_any (p : Pt) (w : World) : Calls Tryd.prog 100 #[ptV p] w fun e w' => e = .returned (.bool (fitP p)) ∧ Fr Nob w w' := by
  unfold ptV
  by_cases h : fitZ p.x
  · rw [show fitP p = fitZ p.y by simp [fitP, h]]
    go_enter Tryd.func100, Tryd.ntmps100
    go_wp2_with fail
    refine (ref_fits p.x _).mono ?_
    rintro e w1 ⟨rfl, rfl⟩
    rw [h]
    go_wp2_with fail
    refine (ref_fits p.y _).mono ?_
    rintro e w1 ⟨rfl, rfl⟩
    go_wp2_with fail
    go_ret
    exact ⟨rfl, (Fr.refl _ _).alloc _⟩
  · have hf : fitZ p.x = false := by simpa using h
    rw [show fitP p = false by simp [fitP, hf]]
    clear h
    go_enter Tryd.func100, Tryd.ntmps100
    go_wp2_with fail
    refine (ref_fits p.x _).mono ?_
    rintro e w1 ⟨rfl, rfl⟩
    rw [hf]
    go_wp2_with fail
    go_ret
    exact ⟨rfl, (Fr.refl _ _).alloc _⟩
theorem pt_eqIn (x y : Pt) (d : Nat) (w : World) : (Op.equalIn (d + 2) 56 (.agg #[.int .i64 x.x, .int .i64 x.y]) (.agg #[.int .i64 y.x, .int .i64 y.y])).run Tryd.prog w = .ok (decide (x = y)) w := by
  have e : decide (x = y) = (x.x == y.x && (x.y == y.y && true)) := by
    cases x; cases y
    simp only [Pt.mk.injEq]
    rw [Bool.eq_iff_iff]
    simp
  rw [e]
  refine eq_struct Tryd.underlying56 (by kernel_rfl) ?_
  refine eqf_cons (by rfl) (by go_simp; rfl) (by go_simp; rfl) (by go_simp) ?_
  refine eqf_cons (by rfl) (by go_simp; rfl) (by go_simp; rfl) (by go_simp) ?_
  exact eqf_nil
attribute [local go_sem high] pt_eqIn
theorem asks_some : Asks 129 fun p => !decide (p = oo) := fun p w => by
  have h := pt_eqIn p oo
  unfold oo at h
  go_enter Tryd.func129, Tryd.ntmps129
  go_wp2
  go_ret
  exact ⟨rfl, (Fr.refl _ _).alloc _⟩
end Go.Proofs.YtkkejjfmidgciaaDoor
