/-
  The walks of slices.ContainsFunc over numbers, of check, shape.
-/
import Derived.Test.YtkkejjfmidgciaaDoorG5
namespace Go.Proofs.YtkkejjfmidgciaaDoor
open Go.RowKit
set_option linter.unusedVariables false
set_option linter.unusedSimpArgs false
/-- A function of a number that answers one bool. -/
def AsksI (n : Nat) (P : Int → Bool) : Prop := ∀ (p : Int) (w : World), Calls Tryd.prog n #[.int .i64 p] w fun e w' => e = .returned (.bool (P p)) ∧ w = w'
theorem anyI_none {l : List Int} {P : Int → Bool} {k : Nat} (h : ∀ j (hj : j < l.length), j < k → P l[j] = false) (hk : l.length ≤ k) : l.any P = false := by
  rw [List.any_eq_false]
  intro x hx
  obtain ⟨i, hi, rfl⟩ := List.mem_iff_getElem.1 hx
  rw [h i hi (by omega)]; simp
theorem anyI_some {l : List Int} {P : Int → Bool} {k : Nat} (hk : k < l.length) (h : P l[k] = true) : l.any P = true := by
  rw [List.any_eq_true]; exact ⟨_, List.getElem_mem hk, h⟩
theorem RowIn.int {w : World} {S : Nat → Prop} {v : Value} {l : List Int} (h : RowIn w S 1 v l.length (ints l)) (hn : 0 < l.length) :
    ∃ b off cap, v = .slice (some ⟨b, off, none⟩) l.length cap ∧ l.length ≤ cap ∧ cap ≤ 9223372036854775807 ∧ S b ∧ ∀ k (hk : k < l.length), w.cell? ⟨b, off + k, none⟩ = some (.int .i64 l[k]) := by
  obtain ⟨b, off, cap, hv, h1, h2, hS, hc⟩ := h.pos (by rw [ints_len]; omega)
  exact ⟨b, off, cap, hv, h1, h2, hS, fun k hk => hc k _ (ints_at hk)⟩
set_option maxHeartbeats 400000 in
theorem indexi_any (n : Nat) (P : Int → Bool) (hn : n = 130 ∨ n = 116) (hP : AsksI n P) (v : Value) (l : List Int) (S : Nat → Prop) (w : World) (h : RowIn w S 1 v l.length (ints l)) :
    Calls Tryd.prog 140 #[v, .func (.func n) #[] #[]] w fun e w' => ∃ r : Int, e = .returned (.int .i64 r) ∧ -1 ≤ r ∧ r ≤ 9223372036854775807 ∧ decide (0 ≤ r) = l.any P ∧ w = w' := by
  have HP := Lib.hid hP
  clear hP
  by_cases h0 : l.length = 0
  · obtain rfl : l = [] := List.length_eq_zero_iff.1 h0
    obtain ⟨_, A, c, rfl, _⟩ := h
    go_enter Tryd.func140, Tryd.ntmps140
    go_wp2
    go_loopw [8] (fun q wr => q = .int .i64 0 ∧ wr = w) (fun _ _ => 0)
    case atStart => exact ⟨rfl, rfl⟩
    case round =>
      obtain ⟨rfl, rfl⟩ := hrel
      go_wp2
      go_ret
      exact ⟨-1, rfl, by omega, by omega, rfl, rfl⟩
  · obtain ⟨b, off, cap, rfl, h1, h2, _, hA⟩ := h.int (by omega)
    have HA := Lib.hid hA
    clear h hA
    go_enter Tryd.func140, Tryd.ntmps140
    go_wp2
    go_loopw [8] (fun q wr => ∃ k : Nat, k ≤ l.length ∧ q = .int .i64 k ∧ Hid (∀ j (hj : j < l.length), j < k → P l[j] = false) ∧ wr = w) (fun q _ => l.length - (intOf q).toNat)
    case atStart => exact ⟨0, by omega, rfl, fun j _ h => by omega, rfl⟩
    case round =>
      obtain ⟨k, hk, rfl, HT, rfl⟩ := hrel
      by_cases hlt : k < l.length
      · have a0 := HA.out k hlt
        have i1 : (k : Int) < l.length := by omega
        have step : ∀ w, Calls Tryd.prog n #[.int .i64 l[k]] w fun e w' => e = .returned (.bool (P l[k])) ∧ w = w' := fun w => HP.out l[k] w
        have HS := Lib.hid step
        clear step
        by_cases hp : P l[k]
        · have HA := Lib.hid (anyI_some hlt hp)
          rw [hp] at HS
          clear hp
          rcases hn with rfl | rfl
          all_goals
            go_wp2_with fail
            refine (HS.out _).mono ?_
            rintro e w1 ⟨rfl, rfl⟩
            go_wp2_with fail
            go_ret
            exact ⟨k, rfl, by omega, by omega, by rw [HA.out]; simp, rfl⟩
        · have hp' : P l[k] = false := by simpa using hp
          have HT2 := Lib.hid (show ∀ j (hj : j < l.length), j < k + 1 → P l[j] = false by
            intro j hj hjk
            rcases Nat.lt_or_ge j k with h | h
            · exact HT.out j hj h
            · obtain rfl : j = k := by omega
              exact hp')
          rw [hp'] at HS
          clear hp hp'
          rcases hn with rfl | rfl
          all_goals
            go_wp2_with fail
            refine (HS.out _).mono ?_
            rintro e w1 ⟨rfl, rfl⟩
            go_wp2_with fail
            go_roundw
            case rel => exact ⟨k + 1, by omega, by go_num, HT2, trivial⟩
            case measure => simp [intOf]; omega
      · have HA := Lib.hid (anyI_none HT.out (by omega))
        have hge : l.length ≤ k := by omega
        go_wp2
        go_ret
        exact ⟨-1, rfl, by omega, by omega, by rw [HA.out]; simp, rfl⟩
theorem conti_any (n : Nat) (P : Int → Bool) (hn : n = 130 ∨ n = 116) (hP : AsksI n P) (v : Value) (l : List Int) (S : Nat → Prop) (w : World) (h : RowIn w S 1 v l.length (ints l)) :
    Calls Tryd.prog 115 #[v, .func (.func n) #[] #[]] w fun e w' => e = .returned (.bool (l.any P)) ∧ w = w' := by
  have HI := Lib.hid (indexi_any n P hn hP v l S w h)
  obtain ⟨A, cap, rfl, _, _⟩ := h.form
  clear h hP
  go_enter Tryd.func115, Tryd.ntmps115
  go_wp2_with fail
  refine HI.out.mono ?_
  rintro e w1 ⟨r, rfl, hr1, hr2, hr, rfl⟩
  have HR := Lib.hid hr
  clear hr
  go_wp2_with fail
  go_ret
  exact ⟨ret_bool HR.out, rfl⟩
theorem asks_check : AsksI 130 fun n => !fitZ n := fun p w => by
  go_enter Tryd.func130, Tryd.ntmps130
  go_wp2_with fail
  refine (fix_fits p w).mono ?_
  rintro e w1 ⟨rfl, rfl⟩
  go_wp2_with fail
  go_ret
  exact ⟨rfl, rfl⟩
theorem asks_dash : AsksI 116 fun n => decide (n < 0) := fun p w => by
  go_enter Tryd.func116, Tryd.ntmps116
  go_wp2_with fail
  go_ret
  exact ⟨rfl, rfl⟩
theorem allI_any (l : List Int) : l.all fitZ = !l.any (fun n => !fitZ n) := by
  induction l with
  | nil => rfl
  | cons a r ih => rw [List.all_cons, List.any_cons, ih]; cases fitZ a <;> simp
def chkI (l : List Int) : Int := if l.all fitZ then 0 else 11
theorem check_none (A : Option Addr) (n c : Nat) (w : World) : Calls Tryd.prog 103 #[.pointer none, .slice A n c] w fun e w' => e = .returned (.int .i64 21) ∧ w = w' := by
  go_enter Tryd.func103, Tryd.ntmps103
  go_wp2
  go_ret
  exact ⟨rfl, rfl⟩
theorem check_any (g : Addr) (l : List Int) (v : Value) (S : Nat → Prop) (w : World) (h : RowIn w S 1 v l.length (ints l)) :
    Calls Tryd.prog 103 #[.pointer (some g), v] w fun e w' => e = .returned (.int .i64 (chkI l)) ∧ w = w' := by
  have HI := Lib.hid (conti_any 130 _ (.inl rfl) asks_check v l S w h)
  obtain ⟨A, cap, rfl, _, _⟩ := h.form
  clear h
  cases hb : l.all fitZ with
  | true =>
    have e1 : l.any (fun n => !fitZ n) = false := by have := allI_any l; rw [hb] at this; simpa using this.symm
    rw [e1] at HI
    rw [show chkI l = 0 by unfold chkI; rw [hb]; rfl]
    clear hb e1
    go_enter Tryd.func103, Tryd.ntmps103
    go_wp2_with fail
    refine HI.out.mono ?_
    rintro e w1 ⟨rfl, rfl⟩
    go_wp2_with fail
    go_ret
    exact ⟨rfl, rfl⟩
  | false =>
    have e1 : l.any (fun n => !fitZ n) = true := by have := allI_any l; rw [hb] at this; simpa using this.symm
    rw [e1] at HI
    rw [show chkI l = 11 by unfold chkI; rw [hb]; rfl]
    clear hb e1
    go_enter Tryd.func103, Tryd.ntmps103
    go_wp2_with fail
    refine HI.out.mono ?_
    rintro e w1 ⟨rfl, rfl⟩
    go_wp2_with fail
    go_ret
    exact ⟨rfl, rfl⟩
end Go.Proofs.YtkkejjfmidgciaaDoor
