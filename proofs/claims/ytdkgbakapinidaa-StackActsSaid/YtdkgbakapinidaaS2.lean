/-
  The walks of slices.Clone, of the stack's own New, Len, check, place.
-/
import Derived.Test.YtdkgbakapinidaaS1
import Derived.WalkSpells
namespace Go.Proofs.Ytdkgbakapinidaa
open Go.RowKit
set_option linter.unusedVariables false
set_option linter.unusedSimpArgs false
theorem info37 : (Try.prog.info? 37).map (fun i => (i.zero, i.size, i.bytes)) = some (some (.agg #[.int .i64 0, .bool false, .int .i64 0, .int .i64 0, .string ⟨#[]⟩, .int .i64 0, .int .i64 0, .int .i64 0]), 8, 72) := by kernel_rfl

theorem clone_any (v : Value) (n : Nat) (l : List Ob) (S : Nat → Prop) (w : World) (h : RowIn w S 8 v l.length (encs l)) (hs : l.length * 72 ≤ 140737488351232) :
    Calls Try.prog 23 #[v] w fun e w' => ∃ vo, e = .returned vo ∧ OwnS w' 37 8 vo l.length (encs l) ∧ Fr Nob w w' ∧ NewV w vo := by
  obtain ⟨i0, hi, hz0, hz1, hz2⟩ := info_parts info37
  have hlen := h.len_le
  obtain ⟨A, cap, rfl, h1, h2⟩ : ∃ A c, v = .slice A l.length c ∧ l.length ≤ c ∧ c ≤ maxLen := by obtain ⟨_, A, c, h, h1, h2, _⟩ := h; exact ⟨A, c, h, h1, h2⟩
  have HH := Lib.hid h
  cases A with
  | none =>
    have hc : cap = 0 := by obtain ⟨_, A, c, h, _, _, h3, _⟩ := h; cases h; exact h3 rfl
    subst hc
    have hl : l = [] := List.length_eq_zero_iff.1 (by omega)
    subst hl
    clear h HH
    have kn := fun A l c w => run_slice_is_nil Try.underlying22 A l c w
    go_enter Try.func23, Try.ntmps23
    go_wp2
    go_ret
    exact ⟨_, rfl, OwnS.nil _ _ _, Fr.refl _ _, fun b hb => by simp [Value.ownBlock] at hb⟩
  | some a =>
    clear h
    have kn := fun A l c w => run_slice_is_nil Try.underlying22 A l c w
    have hrow : RowIn (w.alloc (.cells #[] 37)) S 8 (.slice (some a) l.length cap) l.length (encs l) := HH.out.fr (T := Nob) ((Fr.refl _ _).alloc _) (fun _ _ hf => hf)
    have HR := Lib.hid hrow
    clear hrow HH
    go_enter Try.func23, Try.ntmps23
    go_wp2_with (at_builtin; refine wpList_app _ rfl _ _ 22 rfl 37 i0 _ 8 72 Try.underlying22 hi hz0 hz1 hz2 rfl (by decide) _ 0 [] rfl (OwnS.new0 w 37 8) S _ l.length (encs l) rfl HR.out ?c1 ?c2 ?c3 ?_)
    case c1 => exact encs_one l
    case c2 => unfold maxLen at *; omega
    case c3 => omega
    intro v' w1 hown hfr hat _
    go_wp2
    go_ret
    have hN := app_new (w := w) (NewV.at w 0 0) ((Fr.refl _ _).alloc _) hfr (by simpa using hat)
    exact ⟨v', rfl, by simpa using hown, hN.1, hN.2⟩

/-- A stack, at block g; v: its list. -/
def Stk (w : World) (g : Nat) (v : Value) (most over under : Int) (l : List Ob) : Prop :=
  Blk w g #[.int .i64 most, .int .i64 over, .int .i64 under, v] 53 ∧ OwnS w 37 8 v l.length (encs l)
/-- Its blocks. -/
def stB (g : Nat) (v : Value) : Nat → Prop := fun k => k = g ∨ v.ownBlock = some k
structure StkC (w : World) (g : Nat) (v : Value) (most over under : Int) : Prop where
  c0 : w.cell? ⟨g, 0, none⟩ = some (.int .i64 most)
  c1 : w.cell? ⟨g, 1, none⟩ = some (.int .i64 over)
  c2 : w.cell? ⟨g, 2, none⟩ = some (.int .i64 under)
  c3 : w.cell? ⟨g, 3, none⟩ = some v
  f3 : w.frozen? ⟨g, 3, none⟩ = false
theorem Stk.cells {w : World} {g : Nat} {v : Value} {most over under : Int} {l : List Ob} (h : Stk w g v most over under l) : StkC w g v most over under :=
  ⟨h.1.cell 0, h.1.cell 1, h.1.cell 2, h.1.cell 3, h.1.free 3⟩
theorem Stk.form {w : World} {g : Nat} {v : Value} {most over under : Int} {l : List Ob} (h : Stk w g v most over under l) : ∃ A cap, v = .slice A l.length cap ∧ l.length ≤ cap ∧ cap ≤ 9223372036854775807 := by
  obtain ⟨A, cap, hv, h1, h2⟩ := h.2.form
  exact ⟨A, cap, hv, h1, by simp only [maxLen] at h2; omega⟩
theorem Stk.fr {w w' : World} {S : Nat → Prop} {g : Nat} {v : Value} {most over under : Int} {l : List Ob} (h : Stk w g v most over under l) (hf : Fr S w w') (hd : ∀ k, stB g v k → ¬ S k) : Stk w' g v most over under l :=
  ⟨h.1.fr hf (hd g (.inl rfl)), h.2.fr hf fun k hk => hd k (.inr hk)⟩
theorem Stk.drewN {w : World} {g : Nat} {v : Value} {most over under : Int} {l : List Ob} (h : Stk w g v most over under l) (n : Nat) : Stk (w.drewN n) g v most over under l := h

theorem new_any (most over under : Int) (h0 : -9223372036854775808 ≤ most ∧ most ≤ 9223372036854775807) (w : World) :
    Calls Try.prog 6 #[.int .i64 most, .int .i64 over, .int .i64 under] w fun e w' => e = .returned (.pointer (some ⟨w.heap.size, 0, none⟩)) ∧ Stk w' w.heap.size (.slice none 0 0) (if most < 0 then 0 else most) over under [] ∧ Fr Nob w w' := by
  by_cases hm : most < 0
  · rw [if_pos hm]
    go_enter Try.func6, Try.ntmps6
    go_wp2
    go_ret
    exact ⟨rfl, ⟨Blk.new _ _ _, OwnS.nil _ _ _⟩, (Fr.refl _ _).alloc _⟩
  · rw [if_neg hm]
    go_enter Try.func6, Try.ntmps6
    go_wp2
    go_ret
    exact ⟨rfl, ⟨Blk.new _ _ _, OwnS.nil _ _ _⟩, (Fr.refl _ _).alloc _⟩

theorem len_any (g : Nat) (v : Value) (most over under : Int) (l : List Ob) (w : World) (h : Stk w g v most over under l) :
    Calls Try.prog 20 #[.pointer (some ⟨g, 0, none⟩)] w fun e w' => e = .returned (.int .i64 l.length) ∧ w = w' := by
  obtain ⟨A, cap, rfl, h1, h2⟩ := h.form
  obtain ⟨c0, c1, c2, c3, f3⟩ := h.cells
  clear h
  go_enter Try.func20, Try.ntmps20
  go_wp2
  go_ret
  exact ⟨rfl, rfl⟩
theorem len_none (w : World) : Calls Try.prog 20 #[.pointer none] w fun e w' => e = .returned (.int .i64 0) ∧ w = w' := by
  go_enter Try.func20, Try.ntmps20
  go_wp2
  go_ret
  exact ⟨rfl, rfl⟩

def chkF (n : Int) (len : Nat) (under : Int) : Int := if n < 0 then 11 else if len < n then under else 0
theorem check_any (g : Nat) (v : Value) (most over under : Int) (l : List Ob) (n : Int) (w : World) (h : Stk w g v most over under l) :
    Calls Try.prog 21 #[.pointer (some ⟨g, 0, none⟩), .int .i64 n] w fun e w' => e = .returned (.int .i64 (chkF n l.length under)) ∧ w = w' := by
  obtain ⟨A, cap, rfl, h1, h2⟩ := h.form
  obtain ⟨c0, c1, c2, c3, f3⟩ := h.cells
  clear h
  by_cases hn : n < 0
  · rw [show chkF n l.length under = 11 by simp [chkF, hn]]
    go_enter Try.func21, Try.ntmps21
    go_wp2
    go_ret
    exact ⟨rfl, rfl⟩
  by_cases hl : (l.length : Int) < n
  · rw [show chkF n l.length under = under by simp [chkF, hn, hl]]
    go_enter Try.func21, Try.ntmps21
    go_wp2
    go_ret
    exact ⟨rfl, rfl⟩
  · rw [show chkF n l.length under = 0 by simp [chkF, hn, hl]]
    go_enter Try.func21, Try.ntmps21
    go_wp2
    go_ret
    exact ⟨rfl, rfl⟩
theorem check_none (n : Int) (w : World) : Calls Try.prog 21 #[.pointer none, .int .i64 n] w fun e w' => e = .returned (.int .i64 21) ∧ w = w' := by
  go_enter Try.func21, Try.ntmps21
  go_wp2
  go_ret
  exact ⟨rfl, rfl⟩

theorem place_low (g : Nat) (v : Value) (most over under : Int) (l : List Ob) (n : Int) (hn : n < 0) (w : World) (h : Stk w g v most over under l) :
    Calls Try.prog 24 #[.pointer (some ⟨g, 0, none⟩), .int .i64 n] w fun e w' => e = .returned (.tuple #[.int .i64 0, .int .i64 11]) ∧ ∃ m, w' = w.drewN m := by
  obtain ⟨A, cap, rfl, h1, h2⟩ := h.form
  obtain ⟨c0, c1, c2, c3, f3⟩ := h.cells
  clear h
  go_enter Try.func24, Try.ntmps24
  go_wp2
  go_ret2
  exact ⟨rfl, 0, rfl⟩
theorem place_high (g : Nat) (v : Value) (most over under : Int) (l : List Ob) (n : Int) (hn : (l.length : Int) ≤ n) (w : World) (h : Stk w g v most over under l) :
    Calls Try.prog 24 #[.pointer (some ⟨g, 0, none⟩), .int .i64 n] w fun e w' => e = .returned (.tuple #[.int .i64 0, .int .i64 under]) ∧ ∃ m, w' = w.drewN m := by
  obtain ⟨A, cap, rfl, h1, h2⟩ := h.form
  obtain ⟨c0, c1, c2, c3, f3⟩ := h.cells
  clear h
  go_enter Try.func24, Try.ntmps24
  go_wp2
  go_quiet (fail)
  go_wp2
  go_ret2
  exact ⟨rfl, _, rfl⟩
theorem place_in (g : Nat) (v : Value) (most over under : Int) (l : List Ob) (n : Nat) (hn : n < l.length) (w : World) (h : Stk w g v most over under l) :
    Calls Try.prog 24 #[.pointer (some ⟨g, 0, none⟩), .int .i64 n] w fun e w' => e = .returned (.tuple #[.int .i64 ((l.length : Int) - 1 - n), .int .i64 0]) ∧ ∃ m, w' = w.drewN m := by
  obtain ⟨A, cap, rfl, h1, h2⟩ := h.form
  obtain ⟨c0, c1, c2, c3, f3⟩ := h.cells
  clear h
  have hi : (n : Int) < l.length := by omega
  go_enter Try.func24, Try.ntmps24
  go_wp2
  go_ret2
  exact ⟨rfl, 0, rfl⟩
theorem place_none (n : Int) (w : World) : Calls Try.prog 24 #[.pointer none, .int .i64 n] w fun e w' => e = .returned (.tuple #[.int .i64 0, .int .i64 21]) ∧ w = w' := by
  go_enter Try.func24, Try.ntmps24
  go_wp2
  go_ret2
  exact ⟨rfl, rfl⟩
end Go.Proofs.Ytdkgbakapinidaa
