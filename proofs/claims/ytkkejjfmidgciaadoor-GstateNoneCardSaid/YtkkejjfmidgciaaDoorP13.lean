/-
  '==' of segments; the walk of SameSegs.
-/
import Derived.Test.YtkkejjfmidgciaaDoorP11
import Derived.ChangeKeysEq
namespace Go.Proofs.YtkkejjfmidgciaaDoor
open Go.RowKit
set_option linter.unusedVariables false
set_option linter.unusedSimpArgs false
theorem info23 : (Tryd.prog.info? 56).map (fun i => (i.zero, i.size, i.bytes)) = some (some (.agg #[.int .i64 0, .int .i64 0]), 2, 16) := by kernel_rfl
theorem eqi_nil {P : Program} {d : Nat} {e : TypeId} {c : Nat} {xs ys : Array Value} {w : World} : (Op.eqItems d e c xs ys []).run P w = .ok true w := by simp [Op.eqItems]
theorem eqi_cons {P : Program} {d : Nat} {e : TypeId} {c i : Nat} {is : List Nat} {xs ys : Array Value} {a b : Value} {r s : Bool} {w : World}
    (ha : (part e xs (i * c)).run P w = .ok a w) (hb : (part e ys (i * c)).run P w = .ok b w) (he : (Op.equalIn d e a b).run P w = .ok r w)
    (hr : (Op.eqItems d e c xs ys is).run P w = .ok s w) : (Op.eqItems d e c xs ys (i :: is)).run P w = .ok (r && s) w := by
  rw [Op.eqItems]
  simp only [Sem.run_bind, ha, hb, he, Result.andThen_ok]
  cases r
  · simp
  · simpa using hr
theorem arr_eqIn (x y : Sg) (d : Nat) (w : World) : (Op.equalIn (d + 3) 89 (.agg #[.int .i64 x.a.x, .int .i64 x.a.y, .int .i64 x.b.x, .int .i64 x.b.y, .int .i64 x.c.x, .int .i64 x.c.y])
    (.agg #[.int .i64 y.a.x, .int .i64 y.a.y, .int .i64 y.b.x, .int .i64 y.b.y, .int .i64 y.c.x, .int .i64 y.c.y])).run Tryd.prog w = .ok (decide (x.a = y.a) && (decide (x.b = y.b) && (decide (x.c = y.c) && true))) w := by
  obtain ⟨i0, hi, hz0, hz1, hz2⟩ := info_parts info23
  rw [run_equalIn_array (P := Tryd.prog) (w := w) (d + 2) _ _ Tryd.underlying89 hi, cells23, show List.range 3 = [0, 1, 2] from rfl]
  refine eqi_cons (by go_simp) (by go_simp) (pt_eqIn x.a y.a d w) ?_
  refine eqi_cons (by go_simp) (by go_simp) (pt_eqIn x.b y.b d w) ?_
  refine eqi_cons (by go_simp) (by go_simp) (pt_eqIn x.c y.c d w) ?_
  exact eqi_nil
theorem sg_eqIn (x y : Sg) (d : Nat) (w : World) : (Op.equalIn (d + 4) 91 (.agg #[.int .i64 x.kind, .int .i64 x.a.x, .int .i64 x.a.y, .int .i64 x.b.x, .int .i64 x.b.y, .int .i64 x.c.x, .int .i64 x.c.y])
    (.agg #[.int .i64 y.kind, .int .i64 y.a.x, .int .i64 y.a.y, .int .i64 y.b.x, .int .i64 y.b.y, .int .i64 y.c.x, .int .i64 y.c.y])).run Tryd.prog w = .ok (decide (x = y)) w := by
  have e : decide (x = y) = (x.kind == y.kind && ((decide (x.a = y.a) && (decide (x.b = y.b) && (decide (x.c = y.c) && true))) && true)) := by
    cases x; cases y
    simp only [Sg.mk.injEq]
    rw [Bool.eq_iff_iff]
    simp
  rw [e]
  refine eq_struct Tryd.underlying91 (by kernel_rfl) ?_
  refine eqf_cons (by rfl) (by go_simp; rfl) (by go_simp; rfl) (by go_simp) ?_
  refine eqf_cons (by rfl) (by go_simp) (by go_simp) (arr_eqIn x y d w) ?_
  exact eqf_nil
attribute [local go_sem high] sg_eqIn

set_option maxRecDepth 8000 in
set_option maxHeartbeats 1600000 in
theorem same_any (va vb : Value) (la lb : List Sg) (S T : Nat → Prop) (w : World) (ha : RowIn w S 7 va la.length (encSs la)) (hb : RowIn w T 7 vb lb.length (encSs lb)) :
    Calls Tryd.prog 39 #[va, vb] w fun e w' => e = .returned (.bool (decide (la = lb))) ∧ Fr Nob w w' := by
  by_cases hl : la.length = lb.length
  · by_cases h0 : la.length = 0
    · obtain rfl : la = [] := List.length_eq_zero_iff.1 h0
      obtain rfl : lb = [] := List.length_eq_zero_iff.1 hl.symm
      obtain ⟨_, A, c, rfl, _⟩ := ha
      obtain ⟨_, A', c', rfl, _⟩ := hb
      go_enter Tryd.func39, Tryd.ntmps39
      go_wp2
      go_loopw [5] (fun q wr => q = .int .i64 0 ∧ wr = w) (fun _ _ => 0)
      case atStart => exact ⟨rfl, rfl⟩
      case round =>
        obtain ⟨rfl, rfl⟩ := hrel
        go_wp2
        go_ret
        exact ⟨rfl, Fr.refl _ _⟩
    · obtain ⟨ba, oa, ca, rfl, ha1, ha2, _, hA⟩ := ha.sg (by omega)
      obtain ⟨bb, ob, cb, rfl, hb1, hb2, _, hB⟩ := hb.sg (by omega)
      have HA := Lib.hid hA
      have HB := Lib.hid hB
      clear ha hb hA hB
      have hx : ((la.length : Int) == lb.length) = true := by simp [hl]
      have hx2 : ((la.length : Int) != lb.length) = false := by simp [hl]
      have HL := Lib.hid hl
      clear hl h0
      go_enter Tryd.func39, Tryd.ntmps39
      go_wp2
      go_loopw [5] (fun q wr => ∃ k n : Nat, k ≤ la.length ∧ q = .int .i64 k ∧ Hid (la.take k = lb.take k) ∧ wr = w.drewN n) (fun q _ => la.length - (intOf q).toNat)
      case atStart => exact ⟨0, 0, by omega, rfl, rfl, rfl⟩
      case round =>
        obtain ⟨k, n, hk, rfl, HT, rfl⟩ := hrel
        by_cases hlt : k < la.length
        · have hlb : k < lb.length := by rw [← HL.out]; exact hlt
          obtain ⟨a0, a1, a2, a3, a4, a5, a6⟩ := HA.out k hlt
          obtain ⟨b0, b1, b2, b3, b4, b5, b6⟩ := HB.out k hlb
          have i1 : (k : Int) < la.length := by omega
          have i2 : (k : Int) < lb.length := by omega
          by_cases hq : la[k] = lb[k]
          · have HN := Lib.hid (take_more HT.out hlt hlb hq)
            have hqb : decide (la[k] = lb[k]) = true := by simp [hq]
            clear hq HT
            generalize la[k] = x at *
            generalize lb[k] = y at *
            go_wp2
            go_quiet (fail)
            go_wp2
            go_roundw
            case rel => exact ⟨k + 1, _, by omega, by go_num, HN, rfl⟩
            case measure => simp [intOf]; omega
          · have HN := Lib.hid (show false = decide (la = lb) by simp; rintro rfl; exact hq rfl)
            have hqb : decide (la[k] = lb[k]) = false := by simp [hq]
            clear hq HT
            generalize la[k] = x at *
            generalize lb[k] = y at *
            go_wp2
            go_quiet (fail)
            go_wp2
            go_ret
            exact ⟨ret_bool HN.out, ((Fr.refl Nob w).drewN _).drewN _⟩
        · have HN := Lib.hid (show true = decide (la = lb) by
            have := take_all HT.out (by omega) (by have := HL.out; omega)
            simp [this])
          clear HT
          have hge : la.length ≤ k := by omega
          go_wp2
          go_ret
          exact ⟨ret_bool HN.out, (Fr.refl Nob w).drewN _⟩
  · obtain ⟨_, A, c, rfl, ha1, ha2, _⟩ := ha
    obtain ⟨_, A', c', rfl, hb1, hb2, _⟩ := hb
    unfold maxLen at ha2 hb2
    have hx : ((la.length : Int) == lb.length) = false := by simp; omega
    have hx2 : ((la.length : Int) != lb.length) = true := by simp; omega
    have hne : decide (la = lb) = false := by simp; rintro rfl; exact hl rfl
    rw [hne]
    clear hne
    go_enter Tryd.func39, Tryd.ntmps39
    go_wp2
    go_ret
    exact ⟨rfl, Fr.refl _ _⟩
end Go.Proofs.YtkkejjfmidgciaaDoor
