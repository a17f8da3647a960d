/-
  The names of the fonts in memory; the walk of font.Name.
-/
import Derived.Test.YtkkejjfmidgciaaDoorQ0
namespace Go.Proofs.YtkkejjfmidgciaaDoor
open Go.RowKit
set_option linter.unusedVariables false
set_option linter.unusedSimpArgs false
def nameL : List (List UInt8) := [[67, 111, 117, 114, 105, 101, 114], [67, 111, 117, 114, 105, 101, 114, 45, 66, 111, 108, 100], [67, 111, 117, 114, 105, 101, 114, 45, 79, 98, 108, 105, 113, 117, 101], [67, 111, 117, 114, 105, 101, 114, 45, 66, 111, 108, 100, 79, 98, 108, 105, 113, 117, 101], [72, 101, 108, 118, 101, 116, 105, 99, 97], [72, 101, 108, 118, 101, 116, 105, 99, 97, 45, 66, 111, 108, 100], [72, 101, 108, 118, 101, 116, 105, 99, 97, 45, 79, 98, 108, 105, 113, 117, 101], [72, 101, 108, 118, 101, 116, 105, 99, 97, 45, 66, 111, 108, 100, 79, 98, 108, 105, 113, 117, 101], [84, 105, 109, 101, 115, 45, 82, 111, 109, 97, 110], [84, 105, 109, 101, 115, 45, 66, 111, 108, 100], [84, 105, 109, 101, 115, 45, 73, 116, 97, 108, 105, 99], [84, 105, 109, 101, 115, 45, 66, 111, 108, 100, 73, 116, 97, 108, 105, 99], [83, 121, 109, 98, 111, 108], [90, 97, 112, 102, 68, 105, 110, 103, 98, 97, 116, 115]]
def nameS (i : Nat) : ByteArray := ⟨(nameL.getD i []).toArray⟩
def NamesIn (w : World) : Prop := ∀ i, i < 14 → w.cell? ⟨0, i, none⟩ = some (.string (nameS i))
theorem NamesIn.below {w w' : World} (h : NamesIn w) (hb : Below w.heap.size w w') : NamesIn w' := fun i hi => by
  rw [hb.cell (p := ⟨0, i, none⟩) (World.block_lt_of_cell? w _ (h i hi))]; exact h i hi

def nameF (i : Int) : ByteArray := if i < 0 ∨ 14 ≤ i then ⟨#[]⟩ else nameS i.toNat
theorem name_any (i : Int) (w : World) (hN : NamesIn w) : Calls Tryd.prog 104 #[.int .i64 i] w fun e w' => e = .returned (.string (nameF i)) ∧ w = w' := by
  by_cases h1 : i < 0
  · rw [show nameF i = ⟨#[]⟩ by simp [nameF, h1]]
    clear hN
    go_enter Tryd.func104, Tryd.ntmps104; go_wp2; go_ret; exact ⟨rfl, rfl⟩
  by_cases h2 : 14 ≤ i
  · rw [show nameF i = ⟨#[]⟩ by simp [nameF, h2]]
    clear hN
    go_enter Tryd.func104, Tryd.ntmps104; go_wp2; go_ret; exact ⟨rfl, rfl⟩
  · obtain ⟨n, rfl⟩ : ∃ n : Nat, i = n := ⟨i.toNat, by omega⟩
    have hn : n < 14 := by omega
    have hc := hN n hn
    rw [show nameF (n : Int) = nameS n by simp only [nameF]; rw [if_neg (by omega)]; rfl]
    generalize nameS n = s at *
    clear hN
    go_enter Tryd.func104, Tryd.ntmps104; go_wp2; go_ret; exact ⟨rfl, rfl⟩

theorem NamesIn.nob {w w' : World} (h : NamesIn w) (hf : Fr Nob w w') : NamesIn w' := h.below hf.to_below
theorem NamesIn.fr {w w' : World} {S : Nat → Prop} (h : NamesIn w) (hf : Fr S w w') (h0 : ¬ S 0) : NamesIn w' := fun i hi => cell_fr (h i hi) hf h0
theorem NamesIn.pos {w : World} (h : NamesIn w) : 0 < w.heap.size := World.block_lt_of_cell? w _ (h 0 (by omega))
end Go.Proofs.YtkkejjfmidgciaaDoor
