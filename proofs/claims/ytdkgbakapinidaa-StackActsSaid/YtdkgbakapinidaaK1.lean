/-
  The walk of the law StackKeeps.
-/
import Derived.Test.YtdkgbakapinidaaS9
namespace Go.Proofs.Ytdkgbakapinidaa
open Go.RowKit
set_option linter.unusedVariables false
set_option linter.unusedSimpArgs false
/-- An owned slice of objects whose numbers at place f may be anything. -/
def Loose (w : World) (v : Value) (n f : Nat) : Prop := ∃ cs, OwnS w 37 8 v n cs ∧ ∀ i, i < n → ∃ z, cs[i * 8 + f]? = some (.int .i64 z)
theorem Loose.of {w : World} {v : Value} {l : List Ob} (h : OwnS w 37 8 v l.length (encs l)) {f : Nat} (hf : f = 0 ∨ f = 3) : Loose w v l.length f := by
  refine ⟨_, h, fun i hi => ?_⟩
  rcases hf with rfl | rfl
  · exact ⟨l[i].kind, by rw [encs_at l i 0 hi (by omega)]; rfl⟩
  · exact ⟨l[i].n, by rw [encs_at l i 3 hi (by omega)]; rfl⟩
theorem Loose.at {w : World} {v : Value} {n f b : Nat} (h : Loose w v n f) (hv : v.ownBlock = some b) (hf : f < 8) {i : Nat} (hi : i < n) :
    (∃ z, w.cell? ⟨b, i * 8 + f, none⟩ = some (.int .i64 z)) ∧ w.frozen? ⟨b, i * 8 + f, none⟩ = false ∧ ∀ u, Loose (w.setCell ⟨b, i * 8 + f, none⟩ (.int .i64 u)) v n f := by
  obtain ⟨cs, ho, hc⟩ := h
  obtain ⟨z, hz⟩ := hc i hi
  have hrow := ho.row
  refine ⟨⟨z, ?_⟩, ?_, fun u => ⟨_, ho.store hv (i * 8 + f) (by omega) (.int .i64 u), fun j hj => ?_⟩⟩
  · obtain ⟨_, A, cap, rfl, _, _, _, hcell⟩ := hrow
    obtain ⟨b', off, rfl, _, hc'⟩ := hcell _ _ hz
    rcases ho.2 with ⟨h0, _⟩ | ⟨g, cap', cur, h0, _⟩
    · cases h0
    · cases h0
      have : b = b' := by simpa [Value.ownBlock] using hv.symm
      subst this
      rwa [Nat.zero_add] at hc'
  · rcases ho.2 with ⟨rfl, _⟩ | ⟨g, cap', cur, rfl, hb, _⟩
    · simp [Value.ownBlock] at hv
    · have : b = g := by simpa [Value.ownBlock] using hv.symm
      subst this
      exact hb.free _
  · by_cases e : i * 8 + f = j * 8 + f
    · have : i = j := by omega
      subst this
      exact ⟨u, by rw [List.getElem?_set_self (by have := (List.getElem?_eq_some_iff.1 hz).1; exact this)]⟩
    · obtain ⟨y, hy⟩ := hc j hj
      exact ⟨y, by rw [List.getElem?_set_ne e]; exact hy⟩
theorem made_zero (n : Nat) : (madeCells (Value.agg #[.int .i64 0, .bool false, .int .i64 0, .int .i64 0, .string ⟨#[]⟩, .int .i64 0, .int .i64 0, .int .i64 0]).cells (n * 8)).toList = encs (List.replicate n Ob.zero) := by
  refine List.ext_getElem? fun k => ?_
  by_cases hk : k < n * 8
  · have hq : k / 8 < n := by omega
    have hr : k % 8 < 8 := Nat.mod_lt _ (by omega)
    have hkk : k = k / 8 * 8 + k % 8 := by omega
    rw [hkk, encs_at _ _ _ (by simpa using hq) hr]
    simp only [List.getElem_replicate]
    have h8 : k % 8 = 0 ∨ k % 8 = 1 ∨ k % 8 = 2 ∨ k % 8 = 3 ∨ k % 8 = 4 ∨ k % 8 = 5 ∨ k % 8 = 6 ∨ k % 8 = 7 := by omega
    rw [← hkk]
    simp only [madeCells, Value.cells, Array.toList_map, List.getElem?_map, Array.toList_range, List.getElem?_range hk, Option.map_some]
    rcases h8 with h | h | h | h | h | h | h | h <;> simp [h, enc, Ob.zero]
  · rw [List.getElem?_eq_none (by simp [madeCells]; omega), List.getElem?_eq_none (by rw [encs_len]; simp; omega)]
end Go.Proofs.Ytdkgbakapinidaa
