/-
  The walks of font.Name, font.Find, mezzotintref12.Names, mezzotintref12.Font, mezzotintlaw12.answers.
-/
import Derived.Test.YtdkgbakapinidaaDoorC
namespace Go.Proofs.YtdkgbakapinidaaDoor
open Go.RowKit
set_option linter.unusedVariables false
set_option linter.unusedSimpArgs false
def nameL : List (List UInt8) := [[67, 111, 117, 114, 105, 101, 114], [67, 111, 117, 114, 105, 101, 114, 45, 66, 111, 108, 100], [67, 111, 117, 114, 105, 101, 114, 45, 79, 98, 108, 105, 113, 117, 101], [67, 111, 117, 114, 105, 101, 114, 45, 66, 111, 108, 100, 79, 98, 108, 105, 113, 117, 101], [72, 101, 108, 118, 101, 116, 105, 99, 97], [72, 101, 108, 118, 101, 116, 105, 99, 97, 45, 66, 111, 108, 100], [72, 101, 108, 118, 101, 116, 105, 99, 97, 45, 79, 98, 108, 105, 113, 117, 101], [72, 101, 108, 118, 101, 116, 105, 99, 97, 45, 66, 111, 108, 100, 79, 98, 108, 105, 113, 117, 101], [84, 105, 109, 101, 115, 45, 82, 111, 109, 97, 110], [84, 105, 109, 101, 115, 45, 66, 111, 108, 100], [84, 105, 109, 101, 115, 45, 73, 116, 97, 108, 105, 99], [84, 105, 109, 101, 115, 45, 66, 111, 108, 100, 73, 116, 97, 108, 105, 99], [83, 121, 109, 98, 111, 108], [90, 97, 112, 102, 68, 105, 110, 103, 98, 97, 116, 115]]
def nameS (i : Nat) : ByteArray := ⟨(nameL.getD i []).toArray⟩
def NamesIn (w : World) : Prop := ∀ i, i < 14 → w.cell? ⟨0, i, none⟩ = some (.string (nameS i))
theorem NamesIn.below {w w' : World} (h : NamesIn w) (hb : Below w.heap.size w w') : NamesIn w' := fun i hi => by
  rw [hb.cell (p := ⟨0, i, none⟩) (World.block_lt_of_cell? w _ (h i hi))]; exact h i hi

def nameF (i : Int) : ByteArray := if i < 0 ∨ 14 ≤ i then ⟨#[]⟩ else nameS i.toNat
theorem name_any (i : Int) (w : World) (hN : NamesIn w) : Calls Tryd.prog 15 #[.int .i64 i] w fun e w' => e = .returned (.string (nameF i)) ∧ w = w' := by
  by_cases h1 : i < 0
  · rw [show nameF i = ⟨#[]⟩ by simp [nameF, h1]]
    clear hN
    go_enter Tryd.func15, Tryd.ntmps15; go_wp2; go_ret; exact ⟨rfl, rfl⟩
  by_cases h2 : 14 ≤ i
  · rw [show nameF i = ⟨#[]⟩ by simp [nameF, h2]]
    clear hN
    go_enter Tryd.func15, Tryd.ntmps15; go_wp2; go_ret; exact ⟨rfl, rfl⟩
  · obtain ⟨n, rfl⟩ : ∃ n : Nat, i = n := ⟨i.toNat, by omega⟩
    have hn : n < 14 := by omega
    have hc := hN n hn
    rw [show nameF (n : Int) = nameS n by simp only [nameF]; rw [if_neg (by omega)]; rfl]
    generalize nameS n = s at *
    clear hN
    go_enter Tryd.func15, Tryd.ntmps15; go_wp2; go_ret; exact ⟨rfl, rfl⟩

theorem names_any (w : World) : Calls Tryd.prog 12 #[] w fun e w' => e = .returned (.slice (some ⟨w.heap.size, 0, none⟩) 14 14) ∧ Below w.heap.size w w' ∧ (∀ i, i < 14 → w'.cell? ⟨w.heap.size, i, none⟩ = some (.string (nameS i))) := by
  go_enter Tryd.func12, Tryd.ntmps12; go_wp2; go_ret
  refine ⟨rfl, (Below.refl _ _).alloc (Nat.le_refl _) _, fun i hi => ?_⟩
  have hall : ∀ j : Fin 14, (#[Value.string (nameS 0), .string (nameS 1), .string (nameS 2), .string (nameS 3), .string (nameS 4), .string (nameS 5), .string (nameS 6), .string (nameS 7), .string (nameS 8), .string (nameS 9), .string (nameS 10), .string (nameS 11), .string (nameS 12), .string (nameS 13)] : Array Value)[j.val]? = some (.string (nameS j)) := by
    intro ⟨j, hj⟩
    match j, hj with
    | 0, _ => rfl | 1, _ => rfl | 2, _ => rfl | 3, _ => rfl | 4, _ => rfl | 5, _ => rfl | 6, _ => rfl | 7, _ => rfl | 8, _ => rfl | 9, _ => rfl | 10, _ => rfl | 11, _ => rfl | 12, _ => rfl | 13, _ => rfl
  have hb := heap_alloc_new w (.cells #[Value.string (nameS 0), .string (nameS 1), .string (nameS 2), .string (nameS 3), .string (nameS 4), .string (nameS 5), .string (nameS 6), .string (nameS 7), .string (nameS 8), .string (nameS 9), .string (nameS 10), .string (nameS 11), .string (nameS 12), .string (nameS 13)] 9)
  exact (cell_of_row _ _ i _ _ _ hb).trans (hall ⟨i, hi⟩)

/-- The first name that is s; 14: none is. -/
def idxF (s : ByteArray) : Nat := (List.range 14).findIdx fun k => (nameS k).toList == s.toList
theorem idx_hit (s : ByteArray) (k : Nat) (hk : k < 14) (h : (nameS k).toList = s.toList) (hb : ∀ j, j < k → (nameS j).toList ≠ s.toList) : idxF s = k := by
  unfold idxF
  rw [List.findIdx_eq (by simpa using hk)]
  exact ⟨by simp [h], fun j hj => by simpa using hb j (by simpa using hj)⟩
theorem idx_none (s : ByteArray) (hb : ∀ j, j < 14 → (nameS j).toList ≠ s.toList) : idxF s = 14 := by
  unfold idxF
  rw [List.findIdx_eq_length.2]
  · simp
  · intro x hx
    simpa using hb x (by simpa using hx)

def rfontF (s : ByteArray) : Int := if idxF s < 14 then (idxF s : Int) else -1
theorem rfont_hit {s : ByteArray} {k : Nat} (h : idxF s = k) (hk : k < 14) : rfontF s = k := by unfold rfontF; rw [h, if_pos hk]
theorem rfont_none {s : ByteArray} (h : idxF s = 14) : rfontF s = -1 := by unfold rfontF; rw [h, if_neg (by omega)]
theorem ret_int {a b : Int} (h : a = b) : Ending.returned (.int .i64 a) = .returned (.int .i64 b) := by rw [h]
set_option maxHeartbeats 400000 in
theorem rfont_any (s : ByteArray) (w : World) : Calls Tryd.prog 14 #[.string s] w fun e w' => e = .returned (.int .i64 (rfontF s)) ∧ Below w.heap.size w w' := by
  go_enter Tryd.func14, Tryd.ntmps14
  go_wp2_with (go_at_call 12; refine (names_any _).mono ?_; rintro e w' ⟨rfl, hB, hc⟩; have HB := Lib.hid hB; have HC := Lib.hid hc; clear hB hc)
  go_loop [4] (fun q => ∃ k : Nat, k ≤ 14 ∧ q = .int .i64 k ∧ Hid (∀ j, j < k → (nameS j).toList ≠ s.toList)) (fun q => 14 - (intOf q).toNat)
  case atStart => exact ⟨0, by omega, rfl, fun j hj => by omega⟩
  case round =>
    obtain ⟨k, hk, rfl, HN⟩ := hrel
    by_cases hlt : k < 14
    · have hcell := HC.out k hlt
      by_cases hn : (nameS k).toList = s.toList
      · have HI := Lib.hid (idx_hit s k hlt hn HN.out)
        have hb : ((nameS k).toList == s.toList) = true := by simp [hn]
        clear hn HN
        go_wp2
        go_ret
        exact ⟨ret_int (rfont_hit HI.out hlt).symm, HB.out⟩
      · have HN' : Hid (∀ j, j < k + 1 → (nameS j).toList ≠ s.toList) := fun j hj => by
          by_cases e : j = k
          · subst e; exact hn
          · exact HN.out j (by omega)
        have hb : ((nameS k).toList == s.toList) = false := by simp [hn]
        clear hn HN
        go_wp2
        go_round
        case rel => exact ⟨k + 1, by omega, by go_num, HN'⟩
        case measure => simp [intOf]; omega
    · have HI := Lib.hid (idx_none s fun j hj => HN.out j (by omega))
      clear HN
      have hge : 14 ≤ k := by omega
      go_wp2
      go_ret
      exact ⟨ret_int (rfont_none HI.out).symm, HB.out⟩

def findF (s : ByteArray) : Value := if idxF s < 14 then .tuple #[.int .i64 (idxF s), .bool true] else .tuple #[.int .i64 0, .bool false]
theorem find_hit {s : ByteArray} {k : Nat} (h : idxF s = k) (hk : k < 14) : findF s = .tuple #[.int .i64 k, .bool true] := by unfold findF; rw [h, if_pos hk]
theorem find_none {s : ByteArray} (h : idxF s = 14) : findF s = .tuple #[.int .i64 0, .bool false] := by unfold findF; rw [h, if_neg (by omega)]
theorem ret_val {a b : Value} (h : a = b) : Ending.returned a = .returned b := by rw [h]
def namesAgg : Value := .agg #[.string (nameS 0), .string (nameS 1), .string (nameS 2), .string (nameS 3), .string (nameS 4), .string (nameS 5), .string (nameS 6), .string (nameS 7), .string (nameS 8), .string (nameS 9), .string (nameS 10), .string (nameS 11), .string (nameS 12), .string (nameS 13)]
theorem names_index0 (w : World) : (Instr.index 36 namesAgg (.int .i64 ((0 : Nat) : Int))).run Tryd.prog w = .ok (.string (nameS 0)) w := by kernel_rfl
theorem names_index1 (w : World) : (Instr.index 36 namesAgg (.int .i64 ((1 : Nat) : Int))).run Tryd.prog w = .ok (.string (nameS 1)) w := by kernel_rfl
theorem names_index2 (w : World) : (Instr.index 36 namesAgg (.int .i64 ((2 : Nat) : Int))).run Tryd.prog w = .ok (.string (nameS 2)) w := by kernel_rfl
theorem names_index3 (w : World) : (Instr.index 36 namesAgg (.int .i64 ((3 : Nat) : Int))).run Tryd.prog w = .ok (.string (nameS 3)) w := by kernel_rfl
theorem names_index4 (w : World) : (Instr.index 36 namesAgg (.int .i64 ((4 : Nat) : Int))).run Tryd.prog w = .ok (.string (nameS 4)) w := by kernel_rfl
theorem names_index5 (w : World) : (Instr.index 36 namesAgg (.int .i64 ((5 : Nat) : Int))).run Tryd.prog w = .ok (.string (nameS 5)) w := by kernel_rfl
theorem names_index6 (w : World) : (Instr.index 36 namesAgg (.int .i64 ((6 : Nat) : Int))).run Tryd.prog w = .ok (.string (nameS 6)) w := by kernel_rfl
theorem names_index7 (w : World) : (Instr.index 36 namesAgg (.int .i64 ((7 : Nat) : Int))).run Tryd.prog w = .ok (.string (nameS 7)) w := by kernel_rfl
theorem names_index8 (w : World) : (Instr.index 36 namesAgg (.int .i64 ((8 : Nat) : Int))).run Tryd.prog w = .ok (.string (nameS 8)) w := by kernel_rfl
theorem names_index9 (w : World) : (Instr.index 36 namesAgg (.int .i64 ((9 : Nat) : Int))).run Tryd.prog w = .ok (.string (nameS 9)) w := by kernel_rfl
theorem names_index10 (w : World) : (Instr.index 36 namesAgg (.int .i64 ((10 : Nat) : Int))).run Tryd.prog w = .ok (.string (nameS 10)) w := by kernel_rfl
theorem names_index11 (w : World) : (Instr.index 36 namesAgg (.int .i64 ((11 : Nat) : Int))).run Tryd.prog w = .ok (.string (nameS 11)) w := by kernel_rfl
theorem names_index12 (w : World) : (Instr.index 36 namesAgg (.int .i64 ((12 : Nat) : Int))).run Tryd.prog w = .ok (.string (nameS 12)) w := by kernel_rfl
theorem names_index13 (w : World) : (Instr.index 36 namesAgg (.int .i64 ((13 : Nat) : Int))).run Tryd.prog w = .ok (.string (nameS 13)) w := by kernel_rfl
theorem names_index (k : Nat) (hk : k < 14) (w : World) : (Instr.index 36 namesAgg (.int .i64 k)).run Tryd.prog w = .ok (.string (nameS k)) w := by
  match k, hk with
  | 0, _ => exact names_index0 w
  | 1, _ => exact names_index1 w
  | 2, _ => exact names_index2 w
  | 3, _ => exact names_index3 w
  | 4, _ => exact names_index4 w
  | 5, _ => exact names_index5 w
  | 6, _ => exact names_index6 w
  | 7, _ => exact names_index7 w
  | 8, _ => exact names_index8 w
  | 9, _ => exact names_index9 w
  | 10, _ => exact names_index10 w
  | 11, _ => exact names_index11 w
  | 12, _ => exact names_index12 w
  | 13, _ => exact names_index13 w
set_option maxHeartbeats 400000 in
theorem find_any (s : ByteArray) (w : World) (hN : NamesIn w) : Calls Tryd.prog 13 #[.string s] w fun e w' => e = .returned (findF s) ∧ w = w' := by
  have c0 := hN 0 (by omega); have c1 := hN 1 (by omega); have c2 := hN 2 (by omega); have c3 := hN 3 (by omega); have c4 := hN 4 (by omega); have c5 := hN 5 (by omega); have c6 := hN 6 (by omega)
  have c7 := hN 7 (by omega); have c8 := hN 8 (by omega); have c9 := hN 9 (by omega); have c10 := hN 10 (by omega); have c11 := hN 11 (by omega); have c12 := hN 12 (by omega); have c13 := hN 13 (by omega)
  clear hN
  go_enter Tryd.func13, Tryd.ntmps13
  go_wp2
  clear c0 c1 c2 c3 c4 c5 c6 c7 c8 c9 c10 c11 c12 c13
  go_loop [7] (fun q => ∃ k : Nat, k ≤ 14 ∧ q = .int .i64 k ∧ Hid (∀ j, j < k → (nameS j).toList ≠ s.toList)) (fun q => 14 - (intOf q).toNat)
  case atStart => exact ⟨0, by omega, rfl, fun j hj => by omega⟩
  case round =>
    obtain ⟨k, hk, rfl, HN⟩ := hrel
    by_cases hlt : k < 14
    · have hi := fun w => names_index k hlt w
      unfold namesAgg at hi
      by_cases hn : (nameS k).toList = s.toList
      · have HI := Lib.hid (idx_hit s k hlt hn HN.out)
        have hb : ((nameS k).toList == s.toList) = true := by simp [hn]
        clear hn HN
        go_wp2
        go_ret2
        exact ⟨ret_val (find_hit HI.out hlt).symm, rfl⟩
      · have HN' : Hid (∀ j, j < k + 1 → (nameS j).toList ≠ s.toList) := fun j hj => by
          by_cases e : j = k
          · subst e; exact hn
          · exact HN.out j (by omega)
        have hb : ((nameS k).toList == s.toList) = false := by simp [hn]
        clear hn HN
        go_wp2
        go_round
        case rel => exact ⟨k + 1, by omega, by go_num, HN'⟩
        case measure => simp [intOf]; omega
    · have HI := Lib.hid (idx_none s fun j hj => HN.out j (by omega))
      clear HN
      have hge : 14 ≤ k := by omega
      go_wp2
      go_ret2
      exact ⟨ret_val (find_none HI.out).symm, rfl⟩

theorem answers_any (w : World) (hN : NamesIn w) : Calls Tryd.prog 7 #[] w fun e w' => e = .returned (.bool true) ∧ Below w.heap.size w w' := by
  have HN := Lib.hid hN
  clear hN
  have hw : widF 4 65 = 667 := by decide +kernel
  have HW := Lib.hid hw
  clear hw
  go_enter Tryd.func7, Tryd.ntmps7
  go_wp2_with fail
  refine (width_any _ _ _).mono ?_
  rintro e w1 ⟨rfl, hB⟩
  rw [HW.out]
  have HB := Lib.hid hB
  have hN1 := HN.out.below hB
  have HN1 := Lib.hid hN1
  clear hB hN1
  go_wp2_with fail
  refine (name_any _ _ HN1.out).mono ?_
  rintro e w2 ⟨rfl, rfl⟩
  rw [show nameF 0 = ⟨#[67, 111, 117, 114, 105, 101, 114]⟩ from rfl]
  go_wp2
  go_ret
  exact ⟨rfl, HB.out⟩
end Go.Proofs.YtdkgbakapinidaaDoor
