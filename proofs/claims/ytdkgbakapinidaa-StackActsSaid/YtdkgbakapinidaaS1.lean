/-
  Objects of the stack, as Lean values; the walks of same, fits, New, Len, check, place.
-/
import Derived.Test.YtdkgbakapinidaaProg
import Derived.Test.YtdkgbakapinidaaBase
namespace Go.Proofs.Ytdkgbakapinidaa
open Go.RowKit
set_option linter.unusedVariables false
set_option linter.unusedSimpArgs false
structure Ob where
  kind : Int
  exec : Bool
  access : Int
  n : Int
  name : ByteArray
  ref : Int
  frm : Int
  len : Int
  deriving DecidableEq
def Ob.zero : Ob := ⟨0, false, 0, 0, ⟨#[]⟩, 0, 0, 0⟩
def enc (o : Ob) : List Value := [.int .i64 o.kind, .bool o.exec, .int .i64 o.access, .int .i64 o.n, .string o.name, .int .i64 o.ref, .int .i64 o.frm, .int .i64 o.len]
def encs (l : List Ob) : List Value := l.flatMap enc
theorem encs_len (l : List Ob) : (encs l).length = l.length * 8 := by
  induction l with
  | nil => rfl
  | cons a r ih => simp only [encs, List.flatMap_cons, List.length_append, List.length_cons] at ih ⊢; rw [ih]; simp [enc]; omega
theorem encs_append (a b : List Ob) : encs (a ++ b) = encs a ++ encs b := by simp [encs]
theorem encs_at (l : List Ob) : ∀ (k j : Nat), (h : k < l.length) → j < 8 → (encs l)[k * 8 + j]? = (enc l[k])[j]? := by
  induction l with
  | nil => intro k j h; simp at h
  | cons a r ih =>
    intro k j h hj
    have hc : encs (a :: r) = enc a ++ encs r := by simp [encs]
    have ha : (enc a).length = 8 := rfl
    rw [hc]
    cases k with
    | zero => rw [List.getElem?_append_left (by omega)]; simp
    | succ k =>
      rw [List.getElem?_append_right (by omega), ha, show (k + 1) * 8 + j - 8 = k * 8 + j by omega]
      exact ih k j (by simpa using h) hj
theorem encs_one (l : List Ob) : ∀ u ∈ encs l, u.oneCell' = true := by
  intro u hu
  simp only [encs, List.mem_flatMap] at hu
  obtain ⟨o, _, h⟩ := hu
  simp [enc] at h
  rcases h with rfl | rfl | rfl | rfl | rfl | rfl | rfl | rfl <;> rfl

/-- The eight cells of an object. -/
structure ObAt (w : World) (b off : Nat) (o : Ob) : Prop where
  c0 : w.cell? ⟨b, off, none⟩ = some (.int .i64 o.kind)
  c1 : w.cell? ⟨b, off + 1, none⟩ = some (.bool o.exec)
  c2 : w.cell? ⟨b, off + 2, none⟩ = some (.int .i64 o.access)
  c3 : w.cell? ⟨b, off + 3, none⟩ = some (.int .i64 o.n)
  c4 : w.cell? ⟨b, off + 4, none⟩ = some (.string o.name)
  c5 : w.cell? ⟨b, off + 5, none⟩ = some (.int .i64 o.ref)
  c6 : w.cell? ⟨b, off + 6, none⟩ = some (.int .i64 o.frm)
  c7 : w.cell? ⟨b, off + 7, none⟩ = some (.int .i64 o.len)
theorem RowIn.ob {w : World} {S : Nat → Prop} {v : Value} {l : List Ob} (h : RowIn w S 8 v l.length (encs l)) (hn : 0 < l.length) :
    ∃ b off cap, v = .slice (some ⟨b, off, none⟩) l.length cap ∧ l.length ≤ cap ∧ cap ≤ 9223372036854775807 ∧ S b ∧ ∀ k, (hk : k < l.length) → ObAt w b (off + k * 8) l[k] := by
  obtain ⟨b, off, cap, hv, h1, h2, hS, hc⟩ := h.pos (by rw [encs_len]; omega)
  refine ⟨b, off, cap, hv, h1, h2, hS, fun k hk => ?_⟩
  have hj : ∀ j v, j < 8 → (enc l[k])[j]? = some v → w.cell? ⟨b, off + k * 8 + j, none⟩ = some v := fun j v hj hv => by
    rw [Nat.add_assoc]
    exact hc _ _ (by rw [encs_at l k j hk hj]; exact hv)
  exact ⟨hj 0 _ (by omega) rfl, hj 1 _ (by omega) rfl, hj 2 _ (by omega) rfl, hj 3 _ (by omega) rfl, hj 4 _ (by omega) rfl, hj 5 _ (by omega) rfl, hj 6 _ (by omega) rfl, hj 7 _ (by omega) rfl⟩

/-- Are two objects the same? -/
def obB (x y : Ob) : Bool := decide (x = y)
theorem ob_eqIn (x y : Ob) (d : Nat) (w : World) : (Op.equalIn (d + 2) 37 (.agg #[.int .i64 x.kind, .bool x.exec, .int .i64 x.access, .int .i64 x.n, .string x.name, .int .i64 x.ref, .int .i64 x.frm, .int .i64 x.len])
    (.agg #[.int .i64 y.kind, .bool y.exec, .int .i64 y.access, .int .i64 y.n, .string y.name, .int .i64 y.ref, .int .i64 y.frm, .int .i64 y.len])).run Try.prog w = .ok (obB x y) w := by
  have e : obB x y = (x.kind == y.kind && (x.exec == y.exec && (x.access == y.access && (x.n == y.n && (x.name.toList == y.name.toList && (x.ref == y.ref && (x.frm == y.frm && (x.len == y.len && true)))))))) := by
    rw [str_beq]
    unfold obB
    cases x; cases y
    simp only [Ob.mk.injEq]
    rw [Bool.eq_iff_iff]
    simp
  rw [e]
  refine eq_struct Try.underlying37 (by kernel_rfl) ?_
  refine eqf_cons (by rfl) (by go_simp; rfl) (by go_simp; rfl) (by go_simp) ?_
  refine eqf_cons (by rfl) (by go_simp; rfl) (by go_simp; rfl) (by go_simp) ?_
  refine eqf_cons (by rfl) (by go_simp; rfl) (by go_simp; rfl) (by go_simp) ?_
  refine eqf_cons (by rfl) (by go_simp; rfl) (by go_simp; rfl) (by go_simp) ?_
  refine eqf_cons (by rfl) (by go_simp; rfl) (by go_simp; rfl) (by go_simp) ?_
  refine eqf_cons (by rfl) (by go_simp; rfl) (by go_simp; rfl) (by go_simp) ?_
  refine eqf_cons (by rfl) (by go_simp; rfl) (by go_simp; rfl) (by go_simp) ?_
  refine eqf_cons (by rfl) (by go_simp; rfl) (by go_simp; rfl) (by go_simp) ?_
  exact eqf_nil
attribute [local go_sem high] ob_eqIn

set_option maxHeartbeats 400000 in
theorem same_any (va vb : Value) (la lb : List Ob) (S T : Nat → Prop) (w : World) (ha : RowIn w S 8 va la.length (encs la)) (hb : RowIn w T 8 vb lb.length (encs lb)) :
    Calls Try.prog 10 #[va, vb] w fun e w' => e = .returned (.bool (decide (la = lb))) ∧ ∃ n, w' = w.drewN n := by
  by_cases hl : la.length = lb.length
  · by_cases h0 : la.length = 0
    · obtain rfl : la = [] := List.length_eq_zero_iff.1 h0
      obtain rfl : lb = [] := List.length_eq_zero_iff.1 hl.symm
      obtain ⟨_, A, c, rfl, _⟩ := ha
      obtain ⟨_, A', c', rfl, _⟩ := hb
      go_enter Try.func10, Try.ntmps10
      go_wp2
      go_loopw [5] (fun q wr => q = .int .i64 0 ∧ wr = w) (fun _ _ => 0)
      case atStart => exact ⟨rfl, rfl⟩
      case round =>
        obtain ⟨rfl, rfl⟩ := hrel
        go_wp2
        go_ret
        exact ⟨rfl, 0, rfl⟩
    · obtain ⟨ba, oa, ca, rfl, ha1, ha2, _, hA⟩ := ha.ob (by omega)
      obtain ⟨bb, ob, cb, rfl, hb1, hb2, _, hB⟩ := hb.ob (by omega)
      have HA := Lib.hid hA
      have HB := Lib.hid hB
      clear ha hb hA hB
      have hx : ((la.length : Int) == lb.length) = true := by simp [hl]
      have hx2 : ((la.length : Int) != lb.length) = false := by simp [hl]
      have HL := Lib.hid hl
      clear hl h0
      go_enter Try.func10, Try.ntmps10
      go_wp2
      go_loopw [5] (fun q wr => ∃ k n : Nat, k ≤ la.length ∧ q = .int .i64 k ∧ Hid (la.take k = lb.take k) ∧ wr = w.drewN n) (fun q _ => la.length - (intOf q).toNat)
      case atStart => exact ⟨0, 0, by omega, rfl, rfl, rfl⟩
      case round =>
        obtain ⟨k, n, hk, rfl, HT, rfl⟩ := hrel
        by_cases hlt : k < la.length
        · have hlb : k < lb.length := by rw [← HL.out]; exact hlt
          obtain ⟨a0, a1, a2, a3, a4, a5, a6, a7⟩ := HA.out k hlt
          obtain ⟨b0, b1, b2, b3, b4, b5, b6, b7⟩ := HB.out k hlb
          have i1 : (k : Int) < la.length := by omega
          have i2 : (k : Int) < lb.length := by omega
          by_cases hq : la[k] = lb[k]
          · have HN := Lib.hid (take_more HT.out hlt hlb hq)
            have hqb : obB la[k] lb[k] = true := by simp [obB, hq]
            clear hq HT
            generalize la[k] = x at *
            generalize lb[k] = y at *
            go_wp2
            go_quiet (fail)
            go_wp2
            go_roundw
            case rel => exact ⟨k + 1, _, by omega, by go_num, HN, rfl⟩
            case measure => simp [intOf]; omega
          · have HN := Lib.hid (show false = decide (la = lb) by simp; rintro rfl; exact hq rfl)
            have hqb : obB la[k] lb[k] = false := by simp [obB, hq]
            clear hq HT
            generalize la[k] = x at *
            generalize lb[k] = y at *
            go_wp2
            go_quiet (fail)
            go_wp2
            go_ret
            exact ⟨ret_bool HN.out, _, drewN_two _ _ _⟩
        · have HN := Lib.hid (show true = decide (la = lb) by
            have := take_all HT.out (by omega) (by have := HL.out; omega)
            simp [this])
          clear HT
          have hge : la.length ≤ k := by omega
          go_wp2
          go_ret
          exact ⟨ret_bool HN.out, _, rfl⟩
  · obtain ⟨_, A, c, rfl, ha1, ha2, _⟩ := ha
    obtain ⟨_, A', c', rfl, hb1, hb2, _⟩ := hb
    unfold maxLen at ha2 hb2
    have hx : ((la.length : Int) == lb.length) = false := by simp; omega
    have hx2 : ((la.length : Int) != lb.length) = true := by simp; omega
    have hne : decide (la = lb) = false := by simp; rintro rfl; exact hl rfl
    rw [hne]
    clear hne
    go_enter Try.func10, Try.ntmps10
    go_wp2
    go_ret
    exact ⟨rfl, 0, rfl⟩
end Go.Proofs.Ytdkgbakapinidaa
