/-
  What the listed variable gives: the names of the fonts stand in it.
-/
import Derived.Test.YtkkejjfmidgciaaDoorN1
import Derived.Test.YtkkejjfmidgciaaDoorRows
import Derived.ProofKit
import Derived.LaidMore
import Derived.OpenShut
import Derived.Stop.Joined
namespace Go.Proofs.YtkkejjfmidgciaaDoor
open Go.ChangeShapes Go.WideShapes Go.ChangeAt Go.WideMaps Go.WideElems Go.RowKit
set_option linter.unusedVariables false
set_option linter.unusedSimpArgs false
theorem own : ownKnob Tryd.prog.godebug = none := by kernel_rfl
theorem gNames : Tryd.prog.globalNamed "mezzotint/font.names" = some 0 := by kernel_rfl
theorem tNames : (Tryd.prog.globals[0]?).map (·.type) = some 167 := by kernel_rfl
abbrev laidL {H : Type} : List (String × DataW H) := [("mezzotint/font.names", Rows.laid_mezzotint_font_names)]
theorem door_met (os : Os) (args : Array Value) : laidMetH Tryd.prog laidL ((World.doorLaid Tryd.prog 400 os).forCall (fun _ _ => 0) ⟨#[], args, []⟩).memory :=
  laidMetH_of_parts3 (fuel := 8) (laidMet_of_run' 8 (by kernel_rfl) (by kernel_rfl)) (by kernel_rfl) (by kernel_rfl)
theorem of_laid {W : World} (h : laidMetH Tryd.prog laidL W) : NamesIn W := by
  rw [MakeChecks.laidMetH_plain _ _ _ (by kernel_rfl)] at h
  obtain ⟨ps, ⟨g0, t0, cs0, f0, p0, q0, hg0, ht0, hv0, hd0, _, _⟩, _, _⟩ := h
  obtain rfl := Option.some.inj (gNames.symm.trans hg0)
  obtain rfl := Option.some.inj (tNames.symm.trans ht0)
  obtain ⟨xs, m1, rfl, hx1, hlen, hn3, hel⟩ := DataW.trod_array Tryd.underlying167 hd0
  have c9 : Tryd.prog.cellsOf 9 = 1 := by kernel_rfl
  have c36 : Tryd.prog.cellsOf 167 = 14 := by kernel_rfl
  rw [c36] at hlen
  simp only [Prod.mk.injEq] at hx1
  intro i hi
  have hi' := hel i hi
  have hxi : xs[i]? = some xs[i] := List.getElem?_eq_getElem (by omega)
  rw [hxi, c9] at hi'
  have hci : (cs0.toList.drop (i * 1)).take 1 = [cs0.toList[i]] := by
    rw [Nat.mul_one, List.take_one, List.head?_drop, List.getElem?_eq_getElem (by omega)]; rfl
  rw [hci] at hi'
  obtain ⟨s, e1, e2, _⟩ := DataW.trod_string Tryd.underlying9 hi'
  have hd : (xs.map (·.1))[i]? = some (.lit (.string (nameL.getD i []))) := by
    have : (xs.map (·.1)) = nameL.map (fun l => DataW.lit (.string l)) := by
      have h2 := hx1.1
      have h3 : (Rows.laid_mezzotint_font_names : DataW Unit) = .agg (nameL.map (fun l => DataW.lit (.string l))) := rfl
      rw [h3] at h2
      exact (DataW.agg.inj h2).symm
    rw [this, List.getElem?_map, List.getElem?_eq_getElem (show i < nameL.length from hi)]
    simp [List.getD_eq_getElem?_getD, List.getElem?_eq_getElem (show i < nameL.length from hi)]
  rw [List.getElem?_map, hxi] at hd
  have hs : s = nameS i := by
    rw [e2] at hd
    simp only [Option.map_some, Option.some.injEq, DataW.lit.injEq, Lit.string.injEq] at hd
    unfold nameS
    rw [← hd]
  have := World.var?_cell hg0 hv0 i
  rw [this]
  have e3 : cs0.toList[i] = Value.string s := by simpa using e1
  rw [← hs, ← e3]
  simp
end Go.Proofs.YtkkejjfmidgciaaDoor
