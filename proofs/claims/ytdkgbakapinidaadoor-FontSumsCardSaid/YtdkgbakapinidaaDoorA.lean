/-
  The walks of font.table, mezzotintref12.table.
-/
import Derived.Test.YtdkgbakapinidaaDoorProg
import Derived.Test.YtdkgbakapinidaaDoorPure
import Derived.WalkKit
import Derived.KernelRfl
namespace Go.Proofs.YtdkgbakapinidaaDoor
open Go.RowKit
set_option linter.unusedVariables false
set_option linter.unusedSimpArgs false
theorem ret_str {a b : List UInt8} (h : a = b) : Ending.returned (.string ⟨a.toArray⟩) = .returned (.string ⟨b.toArray⟩) := by rw [h]
set_option maxRecDepth 100000 in
theorem table_any (i : Int) (w : World) : Calls Tryd.prog 16 #[.int .i64 i] w fun e w' => e = .returned (.string (enc4 (tabOf i))) ∧ w = w' := by
  by_cases h4 : i = 4
  · subst h4; go_enter Tryd.func16, Tryd.ntmps16; go_wp2; go_ret; exact ⟨ret_str (by decide +kernel), rfl⟩
  by_cases h5 : i = 5
  · subst h5; go_enter Tryd.func16, Tryd.ntmps16; go_wp2; go_ret; exact ⟨ret_str (by decide +kernel), rfl⟩
  by_cases h6 : i = 6
  · subst h6; go_enter Tryd.func16, Tryd.ntmps16; go_wp2; go_ret; exact ⟨ret_str (by decide +kernel), rfl⟩
  by_cases h7 : i = 7
  · subst h7; go_enter Tryd.func16, Tryd.ntmps16; go_wp2; go_ret; exact ⟨ret_str (by decide +kernel), rfl⟩
  by_cases h8 : i = 8
  · subst h8; go_enter Tryd.func16, Tryd.ntmps16; go_wp2; go_ret; exact ⟨ret_str (by decide +kernel), rfl⟩
  by_cases h9 : i = 9
  · subst h9; go_enter Tryd.func16, Tryd.ntmps16; go_wp2; go_ret; exact ⟨ret_str (by decide +kernel), rfl⟩
  by_cases h10 : i = 10
  · subst h10; go_enter Tryd.func16, Tryd.ntmps16; go_wp2; go_ret; exact ⟨ret_str (by decide +kernel), rfl⟩
  by_cases h11 : i = 11
  · subst h11; go_enter Tryd.func16, Tryd.ntmps16; go_wp2; go_ret; exact ⟨ret_str (by decide +kernel), rfl⟩
  have ht : tabOf i = [] := by simp [tabOf, *]
  rw [ht]; clear ht
  go_enter Tryd.func16, Tryd.ntmps16; go_wp2; go_ret; exact ⟨rfl, rfl⟩
set_option maxRecDepth 100000 in
theorem rtable_any (i : Int) (w : World) : Calls Tryd.prog 17 #[.int .i64 i] w fun e w' => e = .returned (.string (encS (tabOf i))) ∧ w = w' := by
  by_cases h4 : i = 4
  · subst h4; go_enter Tryd.func17, Tryd.ntmps17; go_wp2; go_ret; exact ⟨ret_str (by decide +kernel), rfl⟩
  by_cases h5 : i = 5
  · subst h5; go_enter Tryd.func17, Tryd.ntmps17; go_wp2; go_ret; exact ⟨ret_str (by decide +kernel), rfl⟩
  by_cases h6 : i = 6
  · subst h6; go_enter Tryd.func17, Tryd.ntmps17; go_wp2; go_ret; exact ⟨ret_str (by decide +kernel), rfl⟩
  by_cases h7 : i = 7
  · subst h7; go_enter Tryd.func17, Tryd.ntmps17; go_wp2; go_ret; exact ⟨ret_str (by decide +kernel), rfl⟩
  by_cases h8 : i = 8
  · subst h8; go_enter Tryd.func17, Tryd.ntmps17; go_wp2; go_ret; exact ⟨ret_str (by decide +kernel), rfl⟩
  by_cases h9 : i = 9
  · subst h9; go_enter Tryd.func17, Tryd.ntmps17; go_wp2; go_ret; exact ⟨ret_str (by decide +kernel), rfl⟩
  by_cases h10 : i = 10
  · subst h10; go_enter Tryd.func17, Tryd.ntmps17; go_wp2; go_ret; exact ⟨ret_str (by decide +kernel), rfl⟩
  by_cases h11 : i = 11
  · subst h11; go_enter Tryd.func17, Tryd.ntmps17; go_wp2; go_ret; exact ⟨ret_str (by decide +kernel), rfl⟩
  have ht : tabOf i = [] := by simp [tabOf, *]
  rw [ht]; clear ht
  go_enter Tryd.func17, Tryd.ntmps17; go_wp2; go_ret; exact ⟨rfl, rfl⟩
end Go.Proofs.YtdkgbakapinidaaDoor
