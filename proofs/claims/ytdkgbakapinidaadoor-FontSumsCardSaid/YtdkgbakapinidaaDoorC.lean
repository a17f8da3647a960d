/-
  The walk of mezzotintref12.Width.
-/
import Derived.Test.YtdkgbakapinidaaDoorB
namespace Go.Proofs.YtdkgbakapinidaaDoor
open Go.RowKit
set_option linter.unusedVariables false
set_option linter.unusedSimpArgs false
theorem rwidth_out (i c : Int) (h : i < 0 ∨ 14 ≤ i ∨ c < 32 ∨ 126 < c) (w : World) : Calls Tryd.prog 9 #[.int .i64 i, .int .u8 c] w fun e w' => e = .returned (.int .i64 0) ∧ w = w' := by
  by_cases h1 : i < 0
  · go_enter Tryd.func9, Tryd.ntmps9; go_wp2; go_ret; exact ⟨rfl, rfl⟩
  by_cases h2 : 13 < i
  · go_enter Tryd.func9, Tryd.ntmps9; go_wp2; go_ret; exact ⟨rfl, rfl⟩
  by_cases h3 : c < 32
  · go_enter Tryd.func9, Tryd.ntmps9; go_wp2; go_ret; exact ⟨rfl, rfl⟩
  have h4 : 126 < c := by omega
  go_enter Tryd.func9, Tryd.ntmps9; go_wp2; go_ret; exact ⟨rfl, rfl⟩

theorem rwidth_none (i c : Int) (h1 : 0 ≤ i) (h2 : i < 14) (h3 : 32 ≤ c) (h4 : c ≤ 126) (ht : tabOf i = []) (w : World) :
    Calls Tryd.prog 9 #[.int .i64 i, .int .u8 c] w fun e w' => e = .returned (.int .i64 (if i = 13 then 788 else 600)) ∧ w = w' := by
  have H : ∀ w, Calls Tryd.prog 17 #[.int .i64 i] w fun e w' => e = .returned (.string ⟨#[]⟩) ∧ w = w' := fun w => by
    have := rtable_any i w; rw [ht] at this; exact this
  have HH := Lib.hid H; clear H ht
  by_cases h5 : i = 13
  · subst h5
    go_enter Tryd.func9, Tryd.ntmps9
    go_wp2_with (go_at_call 17; refine (HH.out _).mono ?_; rintro e w' ⟨rfl, rfl⟩)
    go_ret; exact ⟨rfl, rfl⟩
  · go_enter Tryd.func9, Tryd.ntmps9
    go_wp2_with (go_at_call 17; refine (HH.out _).mono ?_; rintro e w' ⟨rfl, rfl⟩)
    go_ret; exact ⟨by simp, rfl⟩

/-- What the reference's loop comes to. -/
def scan : List UInt8 → Int → Int → Int
  | [], _, n => n
  | b :: r, k, n => if b.toNat = 32 then (if k = 0 then n else scan r (wrap64 (k - 1)) 0) else scan r k (wrap64 (wrap64 (n * 10) + (((b.toNat : Int) - 48) % 256)))

theorem drop_at (s : ByteArray) (j : Nat) (h : j < s.size) : s.data.toList.drop j = s[j] :: s.data.toList.drop (j + 1) := by
  rw [List.drop_eq_getElem_cons (by rw [Array.length_toList]; exact h)]
  rfl
set_option maxHeartbeats 400000 in
theorem rwidth_tab (i c : Int) (h1 : 0 ≤ i) (h2 : i < 14) (h3 : 32 ≤ c) (h4 : c ≤ 126) (s : ByteArray) (hs : 1 ≤ s.size) (hs2 : s.size ≤ 1000) (ht : encS (tabOf i) = s)
    (w : World) :
    Calls Tryd.prog 9 #[.int .i64 i, .int .u8 c] w fun e w' => e = .returned (.int .i64 (scan s.data.toList (c - 32) 0)) ∧ w = w' := by
  have H : ∀ w, Calls Tryd.prog 17 #[.int .i64 i] w fun e w' => e = .returned (.string s) ∧ w = w' := fun w => by
    have := rtable_any i w; rw [ht] at this; exact this
  have HH := Lib.hid H; clear H ht
  have hne : s.toList ≠ [] := by
    intro e
    have := congrArg List.length e
    rw [str_len, List.length_nil] at this
    omega
  have e1 : s.toList.isEmpty = false := by simpa using hne
  have e2 : (!s.toList.isEmpty) = true := by simp [e1]
  clear hne
  go_enter Tryd.func9, Tryd.ntmps9
  go_wp2_with (go_at_call 17; refine (HH.out _).mono ?_; rintro e w' ⟨rfl, rfl⟩)
  go_loop [6, 7, 8] (fun kv nv jv => ∃ (j : Nat) (k n : Int), j ≤ s.size ∧ jv = .int .i64 j ∧ kv = .int .i64 k ∧ nv = .int .i64 n ∧ Hid (scan (s.data.toList.drop j) k n = scan s.data.toList (c - 32) 0)) (fun _ _ q => s.size - (intOf q).toNat)
  case atStart => exact ⟨0, _, 0, by omega, rfl, rfl, rfl, rfl⟩
  case round =>
    obtain ⟨j, k, n, hj, rfl, rfl, rfl, HS⟩ := hrel
    by_cases hlt : j < s.size
    · have HD := Lib.hid (drop_at s j hlt)
      by_cases h32 : s[j].toNat = 32
      · by_cases hk : k = 0
        · have HF : Hid (n = scan s.data.toList (c - 32) 0) := by
            have h := HS.out; rw [HD.out, scan, if_pos h32, if_pos hk] at h; exact h
          clear HS HD
          go_wp2
          go_ret
          exact ⟨by rw [← HF.out]; rfl, rfl⟩
        · have HF : Hid (scan (s.data.toList.drop (j + 1)) (wrap64 (k - 1)) 0 = scan s.data.toList (c - 32) 0) := by
            have h := HS.out; rw [HD.out, scan, if_pos h32, if_neg hk] at h; exact h
          clear HS HD
          go_wp2
          go_round
          case rel => exact ⟨j + 1, _, 0, by omega, by go_num, rfl, rfl, HF⟩
          case measure => simp [intOf]; omega
      · have HF : Hid (scan (s.data.toList.drop (j + 1)) k (wrap64 (wrap64 (n * 10) + (((s[j].toNat : Int) - 48) % 256))) = scan s.data.toList (c - 32) 0) := by
          have h := HS.out; rw [HD.out, scan, if_neg h32] at h; exact h
        clear HS HD
        go_wp2
        go_round
        case rel => exact ⟨j + 1, k, _, by omega, by go_num, rfl, rfl, HF⟩
        case measure => simp [intOf]; omega
    · have hge : s.size ≤ j := by omega
      have HF : Hid (n = scan s.data.toList (c - 32) 0) := by
        have h := HS.out; rw [List.drop_eq_nil_of_le (by rw [Array.length_toList]; exact hge), scan] at h; exact h
      clear HS
      go_wp2
      go_ret
      exact ⟨by rw [← HF.out]; rfl, rfl⟩

def scanOk (l : List Nat) : Bool := (List.range 95).all fun k => scan (joinSp l) k 0 == (l.getD k 0 : Nat)
theorem scan_ok (i : Int) (ht : tabOf i ≠ []) : scanOk (tabOf i) = true := by
  unfold tabOf at ht ⊢
  (repeat' split) <;> first | decide +kernel | (simp_all; done)
theorem join_len (i : Int) (ht : tabOf i ≠ []) : 1 ≤ (joinSp (tabOf i)).length ∧ (joinSp (tabOf i)).length ≤ 1000 := by
  unfold tabOf at ht ⊢
  (repeat' split) <;> first | decide +kernel | (simp_all; done)
theorem rwidth_any (i c : Int) (w : World) : Calls Tryd.prog 9 #[.int .i64 i, .int .u8 c] w fun e w' => e = .returned (.int .i64 (widF i c)) ∧ w = w' := by
  by_cases h : i < 0 ∨ 14 ≤ i ∨ c < 32 ∨ 126 < c
  · have hw : widF i c = 0 := by simp [widF, h]
    rw [hw]
    exact rwidth_out i c h w
  · by_cases ht : tabOf i = []
    · have hw : widF i c = if i = 13 then 788 else 600 := by simp [widF, h, ht]
      rw [hw]
      exact rwidth_none i c (by omega) (by omega) (by omega) (by omega) ht w
    · have hw : widF i c = scan (encS (tabOf i)).data.toList (c - 32) 0 := by
        have hs := List.all_eq_true.1 (scan_ok i ht) (c - 32).toNat (by simp; omega)
        have hc : ((c - 32).toNat : Int) = c - 32 := Int.toNat_of_nonneg (by omega)
        rw [hc] at hs
        rw [widF, if_neg h, if_neg ht]
        exact (eq_of_beq hs).symm
      rw [hw]
      have hl := join_len i ht
      exact rwidth_tab i c (by omega) (by omega) (by omega) (by omega) _ (by rw [encS]; exact hl.1) (by rw [encS]; exact hl.2) rfl w
end Go.Proofs.YtdkgbakapinidaaDoor
