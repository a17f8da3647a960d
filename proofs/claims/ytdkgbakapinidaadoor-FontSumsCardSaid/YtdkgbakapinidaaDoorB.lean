/-
  The walk of font.Width.
-/
import Derived.Test.YtdkgbakapinidaaDoorA
import Derived.Lib.Hide
import Derived.Lib.ConvBytes
namespace Go.Proofs.YtdkgbakapinidaaDoor
open Go.RowKit
set_option linter.unusedVariables false
set_option linter.unusedSimpArgs false
def widF (i c : Int) : Int := if i < 0 ∨ 14 ≤ i ∨ c < 32 ∨ 126 < c then 0 else if tabOf i = [] then (if i = 13 then 788 else 600) else ((tabOf i).getD (c - 32).toNat 0 : Nat)

theorem width_out (i c : Int) (h : i < 0 ∨ 14 ≤ i ∨ c < 32 ∨ 126 < c) (w : World) : Calls Tryd.prog 8 #[.int .i64 i, .int .u8 c] w fun e w' => e = .returned (.int .i64 0) ∧ w = w' := by
  by_cases h1 : i < 0
  · go_enter Tryd.func8, Tryd.ntmps8; go_wp2; go_ret; exact ⟨rfl, rfl⟩
  by_cases h2 : 14 ≤ i
  · go_enter Tryd.func8, Tryd.ntmps8; go_wp2; go_ret; exact ⟨rfl, rfl⟩
  by_cases h3 : c < 32
  · go_enter Tryd.func8, Tryd.ntmps8; go_wp2; go_ret; exact ⟨rfl, rfl⟩
  have h4 : 126 < c := by omega
  go_enter Tryd.func8, Tryd.ntmps8; go_wp2; go_ret; exact ⟨rfl, rfl⟩

theorem width_none (i c : Int) (h1 : 0 ≤ i) (h2 : i < 14) (h3 : 32 ≤ c) (h4 : c ≤ 126) (ht : tabOf i = []) (w : World) :
    Calls Tryd.prog 8 #[.int .i64 i, .int .u8 c] w fun e w' => e = .returned (.int .i64 (if i = 13 then 788 else 600)) ∧ w = w' := by
  have H : ∀ w, Calls Tryd.prog 16 #[.int .i64 i] w fun e w' => e = .returned (.string ⟨#[]⟩) ∧ w = w' := fun w => by
    have := table_any i w; rw [ht] at this; exact this
  have HH := Lib.hid H; clear H ht
  by_cases h5 : i = 13
  · subst h5
    go_enter Tryd.func8, Tryd.ntmps8
    go_wp2_with (go_at_call 16; refine (HH.out _).mono ?_; rintro e w' ⟨rfl, rfl⟩)
    go_ret; exact ⟨rfl, rfl⟩
  · go_enter Tryd.func8, Tryd.ntmps8
    go_wp2_with (go_at_call 16; refine (HH.out _).mono ?_; rintro e w' ⟨rfl, rfl⟩)
    go_ret; exact ⟨by simp, rfl⟩

/-- What is read after j digits of a number of four. -/
def upto (n j : Nat) : Nat := if j = 0 then 0 else if j = 1 then n / 1000 else if j = 2 then n / 100 else if j = 3 then n / 10 else n
def dig (n j : Nat) : Nat := if j = 0 then n / 1000 else if j = 1 then n / 100 % 10 else if j = 2 then n / 10 % 10 else n % 10
theorem upto_succ (n j : Nat) (hj : j < 4) : upto n (j + 1) = 10 * upto n j + dig n j := by
  have : j = 0 ∨ j = 1 ∨ j = 2 ∨ j = 3 := by omega
  rcases this with rfl | rfl | rfl | rfl <;> simp [upto, dig] <;> omega
theorem upto_le (n j : Nat) (hn : n ≤ 9999) : upto n j ≤ 9999 := by unfold upto; (repeat' split) <;> omega
theorem dig_le (n j : Nat) (hn : n ≤ 9999) : dig n j ≤ 9 := by unfold dig; (repeat' split) <;> omega
theorem str_len (s : ByteArray) : s.toList.length = s.size := by rw [Go.ByteArray.toList_eq, Array.length_toList]; rfl
theorem width_tab (i c : Int) (h1 : 0 ≤ i) (h2 : i < 14) (h3 : 32 ≤ c) (h4 : c ≤ 126) (s : ByteArray) (hs : s.size = 380) (ht : enc4 (tabOf i) = s)
    (n : Nat) (hn : n ≤ 9999) (hd : ∀ j, j < 4 → ((s.extract (4 * (c - 32)).toNat (4 * (c - 32) + 4).toNat).data.toList.getD j 0).toNat = 48 + dig n j) (w : World) :
    Calls Tryd.prog 8 #[.int .i64 i, .int .u8 c] w fun e w' => e = .returned (.int .i64 n) ∧ Below w.heap.size w w' := by
  have H : ∀ w, Calls Tryd.prog 16 #[.int .i64 i] w fun e w' => e = .returned (.string s) ∧ w = w' := fun w => by
    have := table_any i w; rw [ht] at this; exact this
  have HH := Lib.hid H; clear H ht
  have hne : s.toList ≠ [] := by
    intro e
    have := congrArg List.length e
    rw [str_len, hs] at this
    simp at this
  have e1 : s.toList.isEmpty = false := by simpa using hne
  have e2 : (!s.toList.isEmpty) = true := by simp [e1]
  have hs' : 380 ≤ s.size := by omega
  have b1 : 0 ≤ 4 * (c - 32) := by omega
  have b2 : 4 * (c - 32) ≤ 4 * (c - 32) + 4 := by omega
  have b3 : 4 * (c - 32) + 4 ≤ (s.size : Int) := by omega
  have el : (4 * (c - 32) + 4).toNat - (4 * (c - 32)).toNat = 4 := by omega
  have EL := Lib.hid el
  have HD := Lib.hid hd
  have hsz : (s.extract (4 * (c - 32)).toNat (4 * (c - 32) + 4).toNat).size = 4 := by rw [ByteArray.size_extract]; omega
  have HZ := Lib.hid hsz
  clear hs el hd hsz
  have kb := fun W s => Lib.run_convert_string_bytes (P := Tryd.prog) W 9 26 5 s Tryd.underlying9 Tryd.underlying26 Tryd.underlying5
  go_enter Tryd.func8, Tryd.ntmps8
  go_wp2_with (go_at_call 16; refine (HH.out _).mono ?_; rintro e w' ⟨rfl, rfl⟩)
  rw [EL.out]
  have hB : Below w.heap.size w (Lib.bytesWorld w 5 (s.extract (4 * (c - 32)).toNat (4 * (c - 32) + 4).toNat)) :=
    ⟨rfl, rfl, rfl, by rw [Lib.bytesWorld_size]; omega, fun j hj => Lib.bytesWorld_at_old w 5 _ j hj⟩
  have hC : ∀ j, j < 4 → (Lib.bytesWorld w 5 (s.extract (4 * (c - 32)).toNat (4 * (c - 32) + 4).toNat)).cell? ⟨w.heap.size, j, none⟩ = some (.int .u8 (48 + dig n j : Nat)) := fun j hj => by
    rw [Lib.bytesWorld_cell _ _ _ _ (by rw [HZ.out]; exact hj), HD.out j hj]
  have HB := Lib.hid hB
  have HC := Lib.hid hC
  clear hB hC kb HD HZ EL
  generalize Lib.bytesWorld w 5 (s.extract (4 * (c - 32)).toNat (4 * (c - 32) + 4).toNat) = wb at *
  go_loop [6, 41] (fun t q => ∃ j : Nat, j ≤ 4 ∧ q = .int .i64 j ∧ t = .int .i64 (upto n j)) (fun _ q => 4 - (intOf q).toNat)
  case atStart => exact ⟨0, by omega, rfl, rfl⟩
  case round =>
    obtain ⟨j, hj, rfl, rfl⟩ := hrel
    by_cases hlt : j < 4
    · have hc := HC.out j hlt
      have u1 := upto_le n j hn
      have u2 := dig_le n j hn
      have HU := Lib.hid (upto_succ n j hlt)
      go_wp2
      go_round
      case rel => exact ⟨j + 1, by omega, by go_num, by rw [HU.out]; congr 1; push_cast; omega⟩
      case measure => simp [intOf]; omega
    · have hge : 4 ≤ j := by omega
      go_wp2
      go_ret
      exact ⟨by rw [show j = 4 by omega]; rfl, HB.out⟩

/-- The texts of the tables: their size, their digits. -/
theorem tab_len (i : Int) : tabOf i = [] ∨ (tabOf i).length = 95 := by
  unfold tabOf; (repeat' split) <;> first | (right; rfl) | (left; rfl)
theorem tab_small (i : Int) : (tabOf i).all (fun n => decide (n ≤ 9999) && decide (10 ≤ n)) = true := by
  unfold tabOf; (repeat' split) <;> decide +kernel
theorem flat_len (l : List Nat) : (l.flatMap d4).length = 4 * l.length := by
  induction l with
  | nil => rfl
  | cons a r ih => simp [List.flatMap_cons, ih, d4]; omega
theorem d4_at (n j : Nat) (hn : n ≤ 9999) (hj : j < 4) : ((d4 n).getD j 0).toNat = 48 + dig n j := by
  have : j = 0 ∨ j = 1 ∨ j = 2 ∨ j = 3 := by omega
  rcases this with rfl | rfl | rfl | rfl <;> simp [d4, dig] <;> omega
theorem flat_at (l : List Nat) : ∀ (k j : Nat), k < l.length → j < 4 → (l.flatMap d4).getD (4 * k + j) 0 = (d4 (l.getD k 0)).getD j 0 := by
  induction l with
  | nil => intro k j hk; simp at hk
  | cons a r ih =>
    intro k j hk hj
    rw [List.flatMap_cons]
    cases k with
    | zero =>
      simp only [List.getD_eq_getElem?_getD]
      rw [List.getElem?_append_left (by simp [d4]; omega)]
      simp
    | succ k =>
      have := ih k j (by simpa using hk) hj
      simp only [List.getD_eq_getElem?_getD] at this ⊢
      rw [List.getElem?_append_right (by simp [d4]; omega), List.getElem?_cons_succ, ← this]
      congr 2
      simp [d4]; omega
theorem width_any (i c : Int) (w : World) : Calls Tryd.prog 8 #[.int .i64 i, .int .u8 c] w fun e w' => e = .returned (.int .i64 (widF i c)) ∧ Below w.heap.size w w' := by
  by_cases h : i < 0 ∨ 14 ≤ i ∨ c < 32 ∨ 126 < c
  · have hw : widF i c = 0 := by simp [widF, h]
    rw [hw]
    exact (width_out i c h w).mono fun e w' ⟨h1, h2⟩ => ⟨h1, h2 ▸ Below.refl _ _⟩
  · by_cases ht : tabOf i = []
    · have hw : widF i c = if i = 13 then 788 else 600 := by simp [widF, h, ht]
      rw [hw]
      exact (width_none i c (by omega) (by omega) (by omega) (by omega) ht w).mono fun e w' ⟨h1, h2⟩ => ⟨h1, h2 ▸ Below.refl _ _⟩
    · have hw : widF i c = ((tabOf i).getD (c - 32).toNat 0 : Nat) := by simp [widF, h, ht]
      rw [hw]
      have hl : (tabOf i).length = 95 := (tab_len i).resolve_left ht
      have hk : (c - 32).toNat < 95 := by omega
      have hn : (tabOf i).getD (c - 32).toNat 0 ≤ 9999 := by
        have := List.all_eq_true.1 (tab_small i) _ (List.getElem_mem (l := tabOf i) (n := (c - 32).toNat) (by omega))
        simp at this
        rw [List.getD_eq_getElem?_getD, List.getElem?_eq_getElem (by omega)]
        exact this.1
      refine width_tab i c (by omega) (by omega) (by omega) (by omega) (enc4 (tabOf i)) ?_ rfl _ hn ?_ w
      · show (List.toArray _).size = 380
        rw [List.size_toArray, flat_len, hl]
      · intro j hj
        rw [enc4, ByteArray.extract_mk]
        show (((((tabOf i).flatMap d4).drop _).take _).getD j 0).toNat = _
        rw [← d4_at _ j hn hj, ← flat_at (tabOf i) (c - 32).toNat j (by omega) hj]
        simp only [List.getD_eq_getElem?_getD]
        rw [List.getElem?_take, if_pos (by omega), List.getElem?_drop]
        congr 4
        omega
end Go.Proofs.YtdkgbakapinidaaDoor
