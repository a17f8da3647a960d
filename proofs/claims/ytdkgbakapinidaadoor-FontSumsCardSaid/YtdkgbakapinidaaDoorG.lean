/-
  The walks of font.Sum, of the reference's Sum, of the law FontSums.
-/
import Derived.Test.YtdkgbakapinidaaDoorF
import Derived.Test.YtdkgbakapinidaaDoorOpen
namespace Go.Proofs.YtdkgbakapinidaaDoor
open Go.RowKit
set_option linter.unusedVariables false
set_option linter.unusedSimpArgs false
/-- The cells of bytes. -/
def bytesV (l : List Int) : List Value := l.map fun z => .int .u8 z
def sumF (i : Int) (l : List Int) : Int := (l.map (widF i)).sum
theorem wid_bound (i c : Int) : 0 ≤ widF i c ∧ widF i c ≤ 9999 := by
  unfold widF
  split
  · omega
  split
  · split <;> omega
  · rename_i h1 h2
    have hs := tab_small i
    rcases Nat.lt_or_ge (c - 32).toNat (tabOf i).length with hl | hl
    · have := List.all_eq_true.1 hs _ (List.getElem_mem hl)
      simp at this
      rw [List.getD_eq_getElem?_getD, List.getElem?_eq_getElem hl]
      simp; omega
    · rw [List.getD_eq_getElem?_getD, List.getElem?_eq_none hl]
      simp
theorem sum_nil (i : Int) : sumF i [] = 0 := rfl
theorem sum_append (i : Int) (a b : List Int) : sumF i (a ++ b) = sumF i a + sumF i b := by simp [sumF]
theorem sum_bound (i : Int) (l : List Int) : 0 ≤ sumF i l ∧ sumF i l ≤ 9999 * l.length := by
  induction l with
  | nil => simp [sumF]
  | cons a r ih =>
    have h1 := wid_bound i a
    have h2 : sumF i (a :: r) = widF i a + sumF i r := by simp [sumF]
    rw [h2, List.length_cons]
    omega
theorem sum_more (i : Int) (l : List Int) (k : Nat) (hk : k < l.length) : sumF i (l.take (k + 1)) = sumF i (l.take k) + widF i l[k] := by
  rw [List.take_succ_eq_append_getElem hk, sum_append]; simp [sumF]
theorem bytes_at (l : List Int) (k : Nat) (hk : k < l.length) : (bytesV l)[k]? = some (.int .u8 l[k]) := by simp [bytesV, hk]
theorem RowIn.byte {w : World} {S : Nat → Prop} {v : Value} {l : List Int} (h : RowIn w S 1 v l.length (bytesV l)) (hn : 0 < l.length) :
    ∃ b off cap, v = .slice (some ⟨b, off, none⟩) l.length cap ∧ l.length ≤ cap ∧ cap ≤ 9223372036854775807 ∧ S b ∧ ∀ k (hk : k < l.length), w.cell? ⟨b, off + k, none⟩ = some (.int .u8 l[k]) := by
  obtain ⟨b, off, cap, hv, h1, h2, hS, hc⟩ := h.pos (by simpa [bytesV] using hn)
  exact ⟨b, off, cap, hv, h1, h2, hS, fun k hk => hc _ _ (bytes_at l k hk)⟩

theorem sum_any (i : Int) (l : List Int) (v : Value) (S : Nat → Prop) (w : World) (h : RowIn w S 1 v l.length (bytesV l)) (hl : l.length ≤ 6000) :
    Calls Tryd.prog 10 #[.int .i64 i, v] w fun e w' => e = .returned (.int .i64 (sumF i l)) ∧ Fr Nob w w' := by
  by_cases h0 : l.length = 0
  · obtain rfl : l = [] := List.length_eq_zero_iff.1 h0
    obtain ⟨_, A, c, rfl, _⟩ := h
    rw [sum_nil]
    go_enter Tryd.func10, Tryd.ntmps10
    go_wp2
    go_loopw [5, 10] (fun s q wr => s = .int .i64 0 ∧ q = .int .i64 0 ∧ wr = w) (fun _ _ _ => 0)
    case atStart => exact ⟨rfl, rfl, rfl⟩
    case round =>
      obtain ⟨rfl, rfl, rfl⟩ := hrel
      go_wp2
      go_ret
      exact ⟨rfl, Fr.refl _ _⟩
  · obtain ⟨b, off, cap, rfl, h1, h2, _, hA⟩ := h.byte (by omega)
    have HA := Lib.hid hA
    clear h hA
    go_enter Tryd.func10, Tryd.ntmps10
    go_wp2
    go_loopw [5, 10] (fun s q wr => ∃ k : Nat, k ≤ l.length ∧ q = .int .i64 k ∧ s = .int .i64 (sumF i (l.take k)) ∧ Hid (Fr Nob w wr)) (fun _ q _ => l.length - (intOf q).toNat)
    case atStart => exact ⟨0, by omega, rfl, rfl, Fr.refl _ _⟩
    case round =>
      obtain ⟨k, hk, rfl, rfl, hf⟩ := hrel
      have hb := sum_bound i (l.take k)
      have hb1 := hb.1
      have hb2 : sumF i (l.take k) ≤ 9999 * 6000 := by have := hb.2; rw [List.length_take] at this; omega
      clear hb
      by_cases hlt : k < l.length
      · have hc := cell_nob (HA.out k hlt) hf.out
        have hm := Lib.hid (sum_more i l k hlt)
        have hw := wid_bound i l[k]
        have hw1 := hw.1
        have hw2 := hw.2
        clear hw
        have i1 : (k : Int) < l.length := by omega
        go_wp2_with fail
        refine (width_any i l[k] _).mono ?_
        rintro e w' ⟨rfl, hbl⟩
        have hf2 := Lib.hid (hf.out.trans0 (Fr.of_below Nob hbl))
        clear hbl
        go_wp2_with fail
        go_roundw
        case rel => exact ⟨k + 1, by omega, by go_num, by rw [hm.out], hf2⟩
        case measure => simp [intOf]; omega
      · have hlen : l.take k = l := by rw [List.take_of_length_le (by omega)]
        rw [hlen] at *
        have hge : l.length ≤ k := by omega
        go_wp2
        go_ret
        exact ⟨rfl, hf.out⟩

theorem rsum_any (i : Int) (l : List Int) (v : Value) (S : Nat → Prop) (w : World) (h : RowIn w S 1 v l.length (bytesV l)) (hl : l.length ≤ 6000) :
    Calls Tryd.prog 11 #[.int .i64 i, v] w fun e w' => e = .returned (.int .i64 (sumF i l)) ∧ Fr Nob w w' := by
  by_cases h0 : l.length = 0
  · obtain rfl : l = [] := List.length_eq_zero_iff.1 h0
    obtain ⟨_, A, c, rfl, _⟩ := h
    rw [sum_nil]
    go_enter Tryd.func11, Tryd.ntmps11
    go_wp2
    go_loopw [5, 6] (fun s q wr => s = .int .i64 0 ∧ q = .int .i64 0 ∧ wr = w) (fun _ _ _ => 0)
    case atStart => exact ⟨rfl, rfl, rfl⟩
    case round =>
      obtain ⟨rfl, rfl, rfl⟩ := hrel
      go_wp2
      go_ret
      exact ⟨rfl, Fr.refl _ _⟩
  · obtain ⟨b, off, cap, rfl, h1, h2, _, hA⟩ := h.byte (by omega)
    have HA := Lib.hid hA
    clear h hA
    go_enter Tryd.func11, Tryd.ntmps11
    go_wp2
    go_loopw [5, 6] (fun s q wr => ∃ k : Nat, k ≤ l.length ∧ q = .int .i64 k ∧ s = .int .i64 (sumF i (l.take k)) ∧ Hid (Fr Nob w wr)) (fun _ q _ => l.length - (intOf q).toNat)
    case atStart => exact ⟨0, by omega, rfl, rfl, Fr.refl _ _⟩
    case round =>
      obtain ⟨k, hk, rfl, rfl, hf⟩ := hrel
      have hb := sum_bound i (l.take k)
      have hb1 := hb.1
      have hb2 : sumF i (l.take k) ≤ 9999 * 6000 := by have := hb.2; rw [List.length_take] at this; omega
      clear hb
      by_cases hlt : k < l.length
      · have hc := cell_nob (HA.out k hlt) hf.out
        have hm := Lib.hid (sum_more i l k hlt)
        have hw := wid_bound i l[k]
        have hw1 := hw.1
        have hw2 := hw.2
        clear hw
        have i1 : (k : Int) < l.length := by omega
        go_wp2_with fail
        refine (rwidth_any i l[k] _).mono ?_
        rintro e w' ⟨rfl, rfl⟩
        go_wp2_with fail
        go_roundw
        case rel => exact ⟨k + 1, by omega, by go_num, by rw [hm.out], hf⟩
        case measure => simp [intOf]; omega
      · have hlen : l.take k = l := by rw [List.take_of_length_le (by omega)]
        rw [hlen] at *
        have hge : l.length ≤ k := by omega
        go_wp2
        go_ret
        exact ⟨rfl, hf.out⟩
end Go.Proofs.YtdkgbakapinidaaDoor
