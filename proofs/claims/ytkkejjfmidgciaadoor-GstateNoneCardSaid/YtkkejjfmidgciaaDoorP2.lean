/-
  The walks of slices.ContainsFunc over points, of path's fits.
-/
import Derived.Test.YtkkejjfmidgciaaDoorP1
namespace Go.Proofs.YtkkejjfmidgciaaDoor
open Go.RowKit
set_option linter.unusedVariables false
set_option linter.unusedSimpArgs false
/-- A function of a point that answers one bool. -/
def Asks (n : Nat) (P : Pt → Bool) : Prop := ∀ (p : Pt) (w : World), Calls Tryd.prog n #[.agg #[.int .i64 p.x, .int .i64 p.y]] w fun e w' => e = .returned (.bool (P p)) ∧ Fr Nob w w'
theorem any_none {l : List Pt} {P : Pt → Bool} {k : Nat} (h : ∀ j (hj : j < l.length), j < k → P l[j] = false) (hk : l.length ≤ k) : l.any P = false := by
  rw [List.any_eq_false]
  intro x hx
  obtain ⟨i, hi, rfl⟩ := List.mem_iff_getElem.1 hx
  rw [h i hi (by omega)]; simp
theorem any_some {l : List Pt} {P : Pt → Bool} {k : Nat} (hk : k < l.length) (h : P l[k] = true) : l.any P = true := by
  rw [List.any_eq_true]; exact ⟨_, List.getElem_mem hk, h⟩

set_option maxHeartbeats 400000 in
theorem index_any (n : Nat) (P : Pt → Bool) (hn : n = 131 ∨ n = 129) (hP : Asks n P) (v : Value) (l : List Pt) (S : Nat → Prop) (w : World) (h : RowIn w S 2 v l.length (encPs l)) :
    Calls Tryd.prog 144 #[v, .func (.func n) #[] #[]] w fun e w' => ∃ r : Int, e = .returned (.int .i64 r) ∧ -1 ≤ r ∧ r ≤ 9223372036854775807 ∧ decide (0 ≤ r) = l.any P ∧ Fr Nob w w' := by
  have HP := Lib.hid hP
  clear hP
  by_cases h0 : l.length = 0
  · obtain rfl : l = [] := List.length_eq_zero_iff.1 h0
    obtain ⟨_, A, c, rfl, _⟩ := h
    go_enter Tryd.func144, Tryd.ntmps144
    go_wp2
    go_loopw [8] (fun q wr => q = .int .i64 0 ∧ wr = w) (fun _ _ => 0)
    case atStart => exact ⟨rfl, rfl⟩
    case round =>
      obtain ⟨rfl, rfl⟩ := hrel
      go_wp2
      go_ret
      exact ⟨-1, rfl, by omega, by omega, rfl, Fr.refl _ _⟩
  · obtain ⟨b, off, cap, rfl, h1, h2, _, hA⟩ := h.pt (by omega)
    have HA := Lib.hid hA
    clear h hA
    go_enter Tryd.func144, Tryd.ntmps144
    go_wp2
    go_loopw [8] (fun q wr => ∃ k : Nat, k ≤ l.length ∧ q = .int .i64 k ∧ Hid (∀ j (hj : j < l.length), j < k → P l[j] = false) ∧ Hid (Fr Nob w wr)) (fun q _ => l.length - (intOf q).toNat)
    case atStart => exact ⟨0, by omega, rfl, fun j _ h => by omega, Fr.refl _ _⟩
    case round =>
      obtain ⟨k, hk, rfl, HT, HF⟩ := hrel
      by_cases hlt : k < l.length
      · obtain ⟨a0, a1⟩ := HA.out k hlt
        have b0 := cell_nob a0 HF.out
        have b1 := cell_nob a1 HF.out
        clear a0 a1
        have i1 : (k : Int) < l.length := by omega
        have step : ∀ w, Calls Tryd.prog n #[.agg #[.int .i64 l[k].x, .int .i64 l[k].y]] w fun e w' => e = .returned (.bool (P l[k])) ∧ Fr Nob w w' := fun w => HP.out l[k] w
        have HS := Lib.hid step
        clear step
        by_cases hp : P l[k]
        · have HA := Lib.hid (any_some hlt hp)
          rw [hp] at HS
          clear hp
          rcases hn with rfl | rfl
          all_goals
            go_wp2_with fail
            refine (HS.out _).mono ?_
            rintro e w1 ⟨rfl, hf⟩
            have HF1 := Lib.hid (HF.out.trans0 hf)
            clear hf
            go_wp2_with fail
            go_ret
            exact ⟨k, rfl, by omega, by omega, by rw [HA.out]; simp, HF1.out⟩
        · have hp' : P l[k] = false := by simpa using hp
          have HT2 := Lib.hid (show ∀ j (hj : j < l.length), j < k + 1 → P l[j] = false by
            intro j hj hjk
            rcases Nat.lt_or_ge j k with h | h
            · exact HT.out j hj h
            · obtain rfl : j = k := by omega
              exact hp')
          rw [hp'] at HS
          clear hp hp'
          rcases hn with rfl | rfl
          all_goals
            go_wp2_with fail
            refine (HS.out _).mono ?_
            rintro e w1 ⟨rfl, hf⟩
            have HF1 := Lib.hid (HF.out.trans0 hf)
            clear hf
            go_wp2_with fail
            go_roundw
            case rel => exact ⟨k + 1, by omega, by go_num, HT2, HF1⟩
            case measure => simp [intOf]; omega
      · have HA := Lib.hid (any_none HT.out (by omega))
        have hge : l.length ≤ k := by omega
        go_wp2
        go_ret
        exact ⟨-1, rfl, by omega, by omega, by rw [HA.out]; simp, HF.out⟩
theorem contains_any (n : Nat) (P : Pt → Bool) (hn : n = 131 ∨ n = 129) (hP : Asks n P) (v : Value) (l : List Pt) (S : Nat → Prop) (w : World) (h : RowIn w S 2 v l.length (encPs l)) :
    Calls Tryd.prog 128 #[v, .func (.func n) #[] #[]] w fun e w' => e = .returned (.bool (l.any P)) ∧ Fr Nob w w' := by
  have HI := Lib.hid (index_any n P hn hP v l S w h)
  obtain ⟨A, cap, rfl, _, _⟩ : ∃ A c, v = .slice A l.length c ∧ l.length ≤ c ∧ c ≤ maxLen := by obtain ⟨_, A, c, h, h1, h2, _⟩ := h; exact ⟨A, c, h, h1, h2⟩
  clear h hP
  go_enter Tryd.func128, Tryd.ntmps128
  go_wp2_with fail
  refine HI.out.mono ?_
  rintro e w1 ⟨r, rfl, hr1, hr2, hr, hf⟩
  have HR := Lib.hid hr
  have HF := Lib.hid hf
  clear hr hf
  go_wp2_with fail
  go_ret
  exact ⟨ret_bool HR.out, HF.out⟩
theorem asks_fits : Asks 131 fun p => !fitP p := fun p w => fits1_any p w
theorem all_any (l : List Pt) : l.all fitP = !l.any (fun p => !fitP p) := by
  induction l with
  | nil => rfl
  | cons a r ih => rw [List.all_cons, List.any_cons, ih]; cases fitP a <;> simp
theorem fits_any (v : Value) (l : List Pt) (S : Nat → Prop) (w : World) (h : RowIn w S 2 v l.length (encPs l)) :
    Calls Tryd.prog 105 #[v] w fun e w' => e = .returned (.bool (l.all fitP)) ∧ Fr Nob w w' := by
  have HI := Lib.hid (contains_any 131 _ (.inl rfl) asks_fits v l S w h)
  have he := all_any l
  obtain ⟨A, cap, rfl, _, _⟩ : ∃ A c, v = .slice A l.length c ∧ l.length ≤ c ∧ c ≤ maxLen := by obtain ⟨_, A, c, h, h1, h2, _⟩ := h; exact ⟨A, c, h, h1, h2⟩
  rw [he]
  clear h he
  generalize l.any (fun p => !fitP p) = q at *
  go_enter Tryd.func105, Tryd.ntmps105
  go_wp2_with fail
  refine HI.out.mono ?_
  rintro e w1 ⟨rfl, hf⟩
  have HF := Lib.hid hf
  clear hf
  go_wp2_with fail
  go_ret
  exact ⟨rfl, HF.out⟩
end Go.Proofs.YtkkejjfmidgciaaDoor
