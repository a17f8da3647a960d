/-
  The walks of the laws FontWidths, FontEven, FontNames.
-/
import Derived.Test.YtdkgbakapinidaaDoorD
namespace Go.Proofs.YtdkgbakapinidaaDoor
open Go.RowKit
set_option linter.unusedVariables false
set_option linter.unusedSimpArgs false

theorem widths_walk (i c : Int) (w : World) (hN : NamesIn w) : Calls Tryd.prog 3 #[.int .i64 i, .int .u8 c] w fun e w' => e = .returned (.bool true) ∧ Below w.heap.size w w' := by
  have HN := Lib.hid hN
  clear hN
  go_enter Tryd.func3, Tryd.ntmps3
  go_wp2_with fail
  refine (answers_any _ HN.out).mono ?_
  rintro e w1 ⟨rfl, hB⟩
  have HB1 := Lib.hid hB; clear hB
  go_wp2_with fail
  refine (width_any _ _ _).mono ?_
  rintro e w2 ⟨rfl, hB⟩
  have HB2 := Lib.hid (HB1.out.trans (hB.mono HB1.out.size)); clear hB
  go_wp2_with fail
  refine (rwidth_any _ _ _).mono ?_
  rintro e w3 ⟨rfl, rfl⟩
  go_wp2
  go_ret
  exact ⟨rfl, HB2.out⟩

theorem wid_even (i c : Int) (h : i = 0 ∨ i = 1) : widF i c = widF (i + 2) c ∧ widF (4 + i) c = widF (6 + i) c := by
  rcases h with rfl | rfl <;> constructor <;> simp [widF, tabOf]
theorem wid_all (c d : Int) (hc : 32 ≤ c ∧ c ≤ 126) (hd : 32 ≤ d ∧ d ≤ 126) : widF 0 c = 600 ∧ widF 3 d = 600 := by
  constructor
  · unfold widF; rw [if_neg (by omega)]; rfl
  · unfold widF; rw [if_neg (by omega)]; rfl


theorem names_self (n : Nat) (h : n < 14) : idxF (nameS n) = n := by
  have hall : (List.range 14).all (fun n => idxF (nameS n) == n) = true := by decide +kernel
  simpa using List.all_eq_true.1 hall n (by simpa using h)
theorem names_nil : idxF ⟨#[]⟩ = 14 := by decide +kernel
theorem names_ne (n : Nat) (h : n < 14) : (nameS n).toList.isEmpty = false := by
  have hall : (List.range 14).all (fun n => !(nameS n).toList.isEmpty) = true := by decide +kernel
  simpa using List.all_eq_true.1 hall n (by simpa using h)

set_option maxHeartbeats 800000 in
theorem names_in (n : Nat) (hn : n < 14) (s : ByteArray) (w : World) (hN : NamesIn w) : Calls Tryd.prog 6 #[.int .i64 (n : Int), .string s] w fun e w' => e = .returned (.bool true) ∧ Below w.heap.size w w' := by
  have HN := Lib.hid hN
  clear hN
  have hnn : ((n : Int) < 14) := by omega
  obtain ⟨nm, hnm⟩ : ∃ nm, nameS n = nm := ⟨_, rfl⟩
  have hF : nameF (n : Int) = nm := by rw [← hnm]; simp only [nameF]; rw [if_neg (by omega)]; rfl
  have hS := names_self n hn
  have hE := names_ne n hn
  rw [hnm] at hS hE
  have hE2 : (!nm.toList.isEmpty) = true := by simp [hE]
  have HF := Lib.hid hF
  have HS := Lib.hid (find_hit hS hn)
  have HM := Lib.hid hnm
  clear hF hS hnm
  by_cases hi : idxF s < 14
  all_goals
    go_enter Tryd.func6, Tryd.ntmps6
    go_wp2_with fail
    refine (names_any _).mono ?_
    rintro e w1 ⟨rfl, hB, hc⟩
    have HB1 := Lib.hid hB
    have hc1 := hc n hn
    rw [HM.out] at hc1
    have HN1 := Lib.hid (HN.out.below hB); clear hB hc
    go_wp2_with fail
    refine (find_any _ _ HN1.out).mono ?_
    rintro e w2 ⟨rfl, rfl⟩
  · obtain ⟨m, hm⟩ : ∃ m, idxF s = m := ⟨_, rfl⟩
    rw [find_hit hm (by omega)]
    have HR := Lib.hid (rfont_hit hm (by omega))
    have hm14 : m < 14 := by omega
    clear hi hm
    go_wp2_with fail
    refine (rfont_any _ _).mono ?_
    rintro e w2 ⟨rfl, hB⟩
    rw [HR.out]
    have HB2 := Lib.hid (HB1.out.trans (hB.mono HB1.out.size))
    have HN2 := Lib.hid (HN1.out.below hB); clear hB
    go_wp2_with fail
    refine (answers_any _ HN2.out).mono ?_
    rintro e w3 ⟨rfl, hB⟩
    have HB3 := Lib.hid (HB2.out.trans (hB.mono HB2.out.size))
    have HN3 := Lib.hid (HN2.out.below hB); clear hB
    go_wp2_with fail
    refine (name_any _ _ HN3.out).mono ?_
    rintro e w4 ⟨rfl, rfl⟩
    rw [HF.out]
    go_wp2_with fail
    refine (find_any _ _ HN3.out).mono ?_
    rintro e w4 ⟨rfl, rfl⟩
    rw [HS.out]
    go_wp2
    go_ret
    exact ⟨rfl, HB3.out⟩
  · have hm : idxF s = 14 := by
      have : idxF s ≤ 14 := by unfold idxF; exact Nat.le_trans List.findIdx_le_length (by simp)
      omega
    rw [find_none hm]
    have HR := Lib.hid (rfont_none hm)
    clear hi hm
    go_wp2_with fail
    refine (rfont_any _ _).mono ?_
    rintro e w2 ⟨rfl, hB⟩
    rw [HR.out]
    have HB2 := Lib.hid (HB1.out.trans (hB.mono HB1.out.size))
    have HN2 := Lib.hid (HN1.out.below hB); clear hB
    go_wp2_with fail
    refine (answers_any _ HN2.out).mono ?_
    rintro e w3 ⟨rfl, hB⟩
    have HB3 := Lib.hid (HB2.out.trans (hB.mono HB2.out.size))
    have HN3 := Lib.hid (HN2.out.below hB); clear hB
    go_wp2_with fail
    refine (name_any _ _ HN3.out).mono ?_
    rintro e w4 ⟨rfl, rfl⟩
    rw [HF.out]
    go_wp2_with fail
    refine (find_any _ _ HN3.out).mono ?_
    rintro e w4 ⟨rfl, rfl⟩
    rw [HS.out]
    go_wp2
    go_ret
    exact ⟨rfl, HB3.out⟩
set_option maxHeartbeats 800000 in
theorem names_low (i : Int) (h0 : i < 0) (s : ByteArray) (w : World) (hN : NamesIn w) : Calls Tryd.prog 6 #[.int .i64 i, .string s] w fun e w' => e = .returned (.bool true) ∧ Below w.heap.size w w' := by
  have HN := Lib.hid hN
  clear hN
  have HF := Lib.hid (show nameF i = ⟨#[]⟩ by unfold nameF; rw [if_pos (by omega)])
  have HS := Lib.hid (find_none names_nil)
  by_cases hi : idxF s < 14
  all_goals
    go_enter Tryd.func6, Tryd.ntmps6
    go_wp2_with fail
    refine (names_any _).mono ?_
    rintro e w1 ⟨rfl, hB, hc⟩
    have HB1 := Lib.hid hB
    have HN1 := Lib.hid (HN.out.below hB); clear hB hc
    go_wp2_with fail
    refine (find_any _ _ HN1.out).mono ?_
    rintro e w2 ⟨rfl, rfl⟩
  · obtain ⟨m, hm⟩ : ∃ m, idxF s = m := ⟨_, rfl⟩
    rw [find_hit hm (by omega)]
    have HR := Lib.hid (rfont_hit hm (by omega))
    have hm14 : m < 14 := by omega
    clear hi hm
    go_wp2_with fail
    refine (rfont_any _ _).mono ?_
    rintro e w2 ⟨rfl, hB⟩
    rw [HR.out]
    have HB2 := Lib.hid (HB1.out.trans (hB.mono HB1.out.size))
    have HN2 := Lib.hid (HN1.out.below hB); clear hB
    go_wp2_with fail
    refine (answers_any _ HN2.out).mono ?_
    rintro e w3 ⟨rfl, hB⟩
    have HB3 := Lib.hid (HB2.out.trans (hB.mono HB2.out.size))
    have HN3 := Lib.hid (HN2.out.below hB); clear hB
    go_wp2_with fail
    refine (name_any _ _ HN3.out).mono ?_
    rintro e w4 ⟨rfl, rfl⟩
    rw [HF.out]
    go_wp2_with fail
    refine (find_any _ _ HN3.out).mono ?_
    rintro e w4 ⟨rfl, rfl⟩
    rw [HS.out]
    go_wp2
    go_ret
    exact ⟨rfl, HB3.out⟩
  · have hm : idxF s = 14 := by
      have : idxF s ≤ 14 := by unfold idxF; exact Nat.le_trans List.findIdx_le_length (by simp)
      omega
    rw [find_none hm]
    have HR := Lib.hid (rfont_none hm)
    clear hi hm
    go_wp2_with fail
    refine (rfont_any _ _).mono ?_
    rintro e w2 ⟨rfl, hB⟩
    rw [HR.out]
    have HB2 := Lib.hid (HB1.out.trans (hB.mono HB1.out.size))
    have HN2 := Lib.hid (HN1.out.below hB); clear hB
    go_wp2_with fail
    refine (answers_any _ HN2.out).mono ?_
    rintro e w3 ⟨rfl, hB⟩
    have HB3 := Lib.hid (HB2.out.trans (hB.mono HB2.out.size))
    have HN3 := Lib.hid (HN2.out.below hB); clear hB
    go_wp2_with fail
    refine (name_any _ _ HN3.out).mono ?_
    rintro e w4 ⟨rfl, rfl⟩
    rw [HF.out]
    go_wp2_with fail
    refine (find_any _ _ HN3.out).mono ?_
    rintro e w4 ⟨rfl, rfl⟩
    rw [HS.out]
    go_wp2
    go_ret
    exact ⟨rfl, HB3.out⟩
set_option maxHeartbeats 800000 in
theorem names_high (i : Int) (h0 : 14 ≤ i) (s : ByteArray) (w : World) (hN : NamesIn w) : Calls Tryd.prog 6 #[.int .i64 i, .string s] w fun e w' => e = .returned (.bool true) ∧ Below w.heap.size w w' := by
  have HN := Lib.hid hN
  clear hN
  have HF := Lib.hid (show nameF i = ⟨#[]⟩ by unfold nameF; rw [if_pos (by omega)])
  have HS := Lib.hid (find_none names_nil)
  by_cases hi : idxF s < 14
  all_goals
    go_enter Tryd.func6, Tryd.ntmps6
    go_wp2_with fail
    refine (names_any _).mono ?_
    rintro e w1 ⟨rfl, hB, hc⟩
    have HB1 := Lib.hid hB
    have HN1 := Lib.hid (HN.out.below hB); clear hB hc
    go_wp2_with fail
    refine (find_any _ _ HN1.out).mono ?_
    rintro e w2 ⟨rfl, rfl⟩
  · obtain ⟨m, hm⟩ : ∃ m, idxF s = m := ⟨_, rfl⟩
    rw [find_hit hm (by omega)]
    have HR := Lib.hid (rfont_hit hm (by omega))
    have hm14 : m < 14 := by omega
    clear hi hm
    go_wp2_with fail
    refine (rfont_any _ _).mono ?_
    rintro e w2 ⟨rfl, hB⟩
    rw [HR.out]
    have HB2 := Lib.hid (HB1.out.trans (hB.mono HB1.out.size))
    have HN2 := Lib.hid (HN1.out.below hB); clear hB
    go_wp2_with fail
    refine (answers_any _ HN2.out).mono ?_
    rintro e w3 ⟨rfl, hB⟩
    have HB3 := Lib.hid (HB2.out.trans (hB.mono HB2.out.size))
    have HN3 := Lib.hid (HN2.out.below hB); clear hB
    go_wp2_with fail
    refine (name_any _ _ HN3.out).mono ?_
    rintro e w4 ⟨rfl, rfl⟩
    rw [HF.out]
    go_wp2_with fail
    refine (find_any _ _ HN3.out).mono ?_
    rintro e w4 ⟨rfl, rfl⟩
    rw [HS.out]
    go_wp2
    go_ret
    exact ⟨rfl, HB3.out⟩
  · have hm : idxF s = 14 := by
      have : idxF s ≤ 14 := by unfold idxF; exact Nat.le_trans List.findIdx_le_length (by simp)
      omega
    rw [find_none hm]
    have HR := Lib.hid (rfont_none hm)
    clear hi hm
    go_wp2_with fail
    refine (rfont_any _ _).mono ?_
    rintro e w2 ⟨rfl, hB⟩
    rw [HR.out]
    have HB2 := Lib.hid (HB1.out.trans (hB.mono HB1.out.size))
    have HN2 := Lib.hid (HN1.out.below hB); clear hB
    go_wp2_with fail
    refine (answers_any _ HN2.out).mono ?_
    rintro e w3 ⟨rfl, hB⟩
    have HB3 := Lib.hid (HB2.out.trans (hB.mono HB2.out.size))
    have HN3 := Lib.hid (HN2.out.below hB); clear hB
    go_wp2_with fail
    refine (name_any _ _ HN3.out).mono ?_
    rintro e w4 ⟨rfl, rfl⟩
    rw [HF.out]
    go_wp2_with fail
    refine (find_any _ _ HN3.out).mono ?_
    rintro e w4 ⟨rfl, rfl⟩
    rw [HS.out]
    go_wp2
    go_ret
    exact ⟨rfl, HB3.out⟩
theorem names_walk (i : Int) (s : ByteArray) (w : World) (hN : NamesIn w) : Calls Tryd.prog 6 #[.int .i64 i, .string s] w fun e w' => e = .returned (.bool true) ∧ Below w.heap.size w w' := by
  by_cases h1 : i < 0
  · exact names_low i h1 s w hN
  by_cases h2 : 14 ≤ i
  · exact names_high i h2 s w hN
  obtain ⟨n, rfl⟩ : ∃ n : Nat, i = n := ⟨i.toNat, by omega⟩
  exact names_in n (by omega) s w hN

set_option maxHeartbeats 1600000 in
theorem even_walk (c d : Int) (w : World) (hN : NamesIn w) : Calls Tryd.prog 4 #[.int .u8 c, .int .u8 d] w fun e w' => e = .returned (.bool true) ∧ Below w.heap.size w w' := by
  have HN := Lib.hid hN
  clear hN
  have key : (32 ≤ c ∧ c ≤ 126 ∧ 32 ≤ d ∧ d ≤ 126) ∨ c < 32 ∨ (32 ≤ c ∧ 126 < c) ∨ (32 ≤ c ∧ c ≤ 126 ∧ d < 32) ∨ (32 ≤ c ∧ c ≤ 126 ∧ 32 ≤ d ∧ 126 < d) := by omega
  rcases key with ⟨k1, k2, k3, k4⟩ | k1 | ⟨k1, k2⟩ | ⟨k1, k2, k3⟩ | ⟨k1, k2, k3, k4⟩
  all_goals
    go_enter Tryd.func4, Tryd.ntmps4
    go_wp2
    go_loopw [6] (fun q wr => ∃ k : Nat, k ≤ 2 ∧ q = .int .i64 k ∧ Hid (Below w.heap.size w wr) ∧ Hid (NamesIn wr)) (fun q _ => 2 - (intOf q).toNat)
    case atStart => exact ⟨0, by omega, rfl, Below.refl _ _, HN.out⟩
    case round =>
      obtain ⟨k, hk, rfl, HB, HM⟩ := hrel
      by_cases hlt : k < 2
      · have he := wid_even k c (by omega)
        have HE1 := Lib.hid he.1
        have HE2 := Lib.hid he.2
        clear he
        go_wp2_with fail
        refine (width_any _ _ _).mono ?_
        rintro e w1 ⟨rfl, hB⟩
        have HB1 := Lib.hid (HB.out.trans (hB.mono HB.out.size))
        have HM1 := Lib.hid (HM.out.below hB); clear hB
        rw [HE1.out]
        go_wp2_with fail
        refine (width_any _ _ _).mono ?_
        rintro e w2 ⟨rfl, hB⟩
        have HB2 := Lib.hid (HB1.out.trans (hB.mono HB1.out.size))
        have HM2 := Lib.hid (HM1.out.below hB); clear hB
        go_wp2_with fail
        refine (width_any _ _ _).mono ?_
        rintro e w3 ⟨rfl, hB⟩
        have HB3 := Lib.hid (HB2.out.trans (hB.mono HB2.out.size))
        have HM3 := Lib.hid (HM2.out.below hB); clear hB
        rw [HE2.out]
        go_wp2_with fail
        refine (width_any _ _ _).mono ?_
        rintro e w4 ⟨rfl, hB⟩
        have HB4 := Lib.hid (HB3.out.trans (hB.mono HB3.out.size))
        have HM4 := Lib.hid (HM3.out.below hB); clear hB
        go_wp2
        go_roundw
        case rel => exact ⟨k + 1, by omega, by go_num, HB4, HM4⟩
        case measure => simp [intOf]; omega
      · have hge : 2 ≤ k := by omega
        clear hlt hk
        go_wp2_with fail
        refine (answers_any _ HM.out).mono ?_
        rintro e w1 ⟨rfl, hB⟩
        have HB1 := Lib.hid (HB.out.trans (hB.mono HB.out.size))
        clear hB
        first
        | (go_wp2_with fail
           go_ret
           exact ⟨rfl, HB1.out⟩)
        | (have hw := wid_all c d ⟨by omega, by omega⟩ ⟨by omega, by omega⟩
           have HW1 := Lib.hid hw.1
           have HW2 := Lib.hid hw.2
           clear hw
           go_wp2_with fail
           refine (width_any _ _ _).mono ?_
           rintro e w2 ⟨rfl, hB⟩
           rw [HW1.out]
           have HB2 := Lib.hid (HB1.out.trans (hB.mono HB1.out.size))
           clear hB
           go_wp2_with fail
           refine (width_any _ _ _).mono ?_
           rintro e w3 ⟨rfl, hB⟩
           rw [HW2.out]
           have HB3 := Lib.hid (HB2.out.trans (hB.mono HB2.out.size))
           clear hB
           go_wp2_with fail
           refine (width_any _ _ _).mono ?_
           rintro e w4 ⟨rfl, hB⟩
           rw [HW1.out]
           have HB4 := Lib.hid (HB3.out.trans (hB.mono HB3.out.size))
           clear hB
           go_wp2_with fail
           go_ret
           exact ⟨rfl, HB4.out⟩)
end Go.Proofs.YtdkgbakapinidaaDoor
