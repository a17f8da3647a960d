/-
  The walks of the comparisons of what is the same: numbers, pens, clips, states.
-/
import Derived.Test.YtkkejjfmidgciaaDoorG10
import Derived.Test.YtkkejjfmidgciaaDoorP13
import Derived.Deep.RegionHeld3
namespace Go.Proofs.YtkkejjfmidgciaaDoor
open Go.RowKit
set_option linter.unusedVariables false
set_option linter.unusedSimpArgs false
theorem infoI : (Tryd.prog.info? 3).map (fun i => (i.zero, i.size, i.bytes)) = some (some (.int .i64 0), 1, 8) := by kernel_rfl
theorem m6_eqIn (m : M6) (d : Nat) (w : World) : (Op.equalIn (d + 2) 33 (.agg #[.int .i64 m.a, .int .i64 m.b, .int .i64 m.c, .int .i64 m.d, .int .i64 m.e, .int .i64 m.f]) (.agg #[.int .i64 m.a, .int .i64 m.b, .int .i64 m.c, .int .i64 m.d, .int .i64 m.e, .int .i64 m.f])).run Tryd.prog w = .ok true w := by
  obtain ⟨i0, hi, hz0, hz1, hz2⟩ := info_parts infoI
  have e : true = (true && (true && (true && (true && (true && (true && true)))))) := rfl
  rw [run_equalIn_array (P := Tryd.prog) (w := w) (d + 1) _ _ Tryd.underlying33 hi, show Tryd.prog.cellsOf 3 = 1 by kernel_rfl, show List.range 6 = [0, 1, 2, 3, 4, 5] from rfl, e]
  clear e
  refine eqi_cons (by go_simp; rfl) (by go_simp; rfl) (by go_simp) ?_
  refine eqi_cons (by go_simp; rfl) (by go_simp; rfl) (by go_simp) ?_
  refine eqi_cons (by go_simp; rfl) (by go_simp; rfl) (by go_simp) ?_
  refine eqi_cons (by go_simp; rfl) (by go_simp; rfl) (by go_simp) ?_
  refine eqi_cons (by go_simp; rfl) (by go_simp; rfl) (by go_simp) ?_
  refine eqi_cons (by go_simp; rfl) (by go_simp; rfl) (by go_simp) ?_
  exact eqi_nil
theorem a4_eqIn (a b c k : Int) (d : Nat) (w : World) : (Op.equalIn (d + 2) 26 (.agg #[.int .i64 a, .int .i64 b, .int .i64 c, .int .i64 k]) (.agg #[.int .i64 a, .int .i64 b, .int .i64 c, .int .i64 k])).run Tryd.prog w = .ok true w := by
  obtain ⟨i0, hi, hz0, hz1, hz2⟩ := info_parts infoI
  have e : true = (true && (true && (true && (true && true)))) := rfl
  rw [run_equalIn_array (P := Tryd.prog) (w := w) (d + 1) _ _ Tryd.underlying26 hi, show Tryd.prog.cellsOf 3 = 1 by kernel_rfl, show List.range 4 = [0, 1, 2, 3] from rfl, e]
  clear e
  refine eqi_cons (by go_simp; rfl) (by go_simp; rfl) (by go_simp) ?_
  refine eqi_cons (by go_simp; rfl) (by go_simp; rfl) (by go_simp) ?_
  refine eqi_cons (by go_simp; rfl) (by go_simp; rfl) (by go_simp) ?_
  refine eqi_cons (by go_simp; rfl) (by go_simp; rfl) (by go_simp) ?_
  exact eqi_nil
theorem col_eqIn (c : Col) (d : Nat) (w : World) : (Op.equalIn (d + 3) 28 (.agg #[.int .i64 c.sp, .int .i64 c.p0, .int .i64 c.p1, .int .i64 c.p2, .int .i64 c.p3]) (.agg #[.int .i64 c.sp, .int .i64 c.p0, .int .i64 c.p1, .int .i64 c.p2, .int .i64 c.p3])).run Tryd.prog w = .ok true w := by
  have e : true = (true && (true && true)) := rfl
  rw [e]
  clear e
  refine eq_struct Tryd.underlying28 (by kernel_rfl) ?_
  refine eqf_cons (by rfl) (by go_simp; rfl) (by go_simp; rfl) (by go_simp) ?_
  refine eqf_cons (by rfl) (by go_simp) (by go_simp) (a4_eqIn c.p0 c.p1 c.p2 c.p3 d w) ?_
  exact eqf_nil
set_option maxHeartbeats 800000 in
theorem ints_same (va vb : Value) (l : List Int) (S T : Nat → Prop) (w : World) (ha : RowIn w S 1 va l.length (ints l)) (hb : RowIn w T 1 vb l.length (ints l)) :
    Calls Tryd.prog 101 #[va, vb] w fun e w' => e = .returned (.bool true) ∧ Fr Nob w w' := by
  by_cases h0 : l.length = 0
  · obtain rfl : l = [] := List.length_eq_zero_iff.1 h0
    obtain ⟨_, A, c, rfl, _⟩ := ha
    obtain ⟨_, A', c', rfl, _⟩ := hb
    go_enter Tryd.func101, Tryd.ntmps101
    go_wp2
    go_loopw [5] (fun q wr => q = .int .i64 0 ∧ wr = w) (fun _ _ => 0)
    case atStart => exact ⟨rfl, rfl⟩
    case round =>
      obtain ⟨rfl, rfl⟩ := hrel
      go_wp2
      go_ret
      exact ⟨rfl, Fr.refl _ _⟩
  · obtain ⟨ba, oa, ca, rfl, ha1, ha2, _, hA⟩ := ha.int (by omega)
    obtain ⟨bb, ob, cb, rfl, hb1, hb2, _, hB⟩ := hb.int (by omega)
    have HA := Lib.hid hA
    have HB := Lib.hid hB
    clear ha hb hA hB h0
    go_enter Tryd.func101, Tryd.ntmps101
    go_wp2
    go_loopw [5] (fun q wr => ∃ k n : Nat, k ≤ l.length ∧ q = .int .i64 k ∧ wr = w.drewN n) (fun q _ => l.length - (intOf q).toNat)
    case atStart => exact ⟨0, 0, by omega, rfl, rfl⟩
    case round =>
      obtain ⟨k, n, hk, rfl, rfl⟩ := hrel
      by_cases hlt : k < l.length
      · have a0 := HA.out k hlt
        have b0 := HB.out k hlt
        have i1 : (k : Int) < l.length := by omega
        generalize l[k] = x at *
        go_wp2
        go_quiet (fail)
        go_wp2
        go_roundw
        case rel => exact ⟨k + 1, _, by omega, by go_num, rfl⟩
        case measure => simp [intOf]; omega
      · have hge : l.length ≤ k := by omega
        go_wp2
        go_ret
        exact ⟨rfl, (Fr.refl Nob w).drewN _⟩
set_option maxHeartbeats 1600000 in
theorem clips_same (va vb : Value) (l : List Clp) (S T : Nat → Prop) (w : World) (ha : Clps w S va l) (hb : Clps w T vb l) :
    Calls Tryd.prog 58 #[va, vb] w fun e w' => e = .returned (.bool true) ∧ Fr Nob w w' := by
  obtain ⟨xa, hxa, hA⟩ := ha
  obtain ⟨xb, hxb, hB⟩ := hb
  have hla : xa.length = l.length := by rw [← hxa, List.length_map]
  have hlb : xb.length = l.length := by rw [← hxb, List.length_map]
  have hpa : ∀ k (hk : k < l.length) (hx : k < xa.length), xa[k].1 = l[k] := fun k hk hx => by simp [← hxa]
  have hpb : ∀ k (hk : k < l.length) (hx : k < xb.length), xb[k].1 = l[k] := fun k hk hx => by simp [← hxb]
  clear hxa hxb
  by_cases h0 : l.length = 0
  · obtain rfl : xa = [] := List.length_eq_zero_iff.1 (by omega)
    obtain rfl : xb = [] := List.length_eq_zero_iff.1 (by omega)
    obtain ⟨_, A, c, rfl, _⟩ := hA.1
    obtain ⟨_, A', c', rfl, _⟩ := hB.1
    clear hA hB hpa hpb hla hlb
    go_enter Tryd.func58, Tryd.ntmps58
    go_wp2
    go_loopw [5] (fun q wr => q = .int .i64 0 ∧ wr = w) (fun _ _ => 0)
    case atStart => exact ⟨rfl, rfl⟩
    case round =>
      obtain ⟨rfl, rfl⟩ := hrel
      go_wp2
      go_ret
      exact ⟨rfl, Fr.refl _ _⟩
  · obtain ⟨ba, oa, ca, rfl, ha1, ha2, _, hA1⟩ := hA.at (by omega)
    obtain ⟨bb, ob, cb, rfl, hb1, hb2, _, hB1⟩ := hB.at (by omega)
    have HLA := Lib.hid hla
    have HLB := Lib.hid hlb
    rw [hla] at ha1 ⊢
    rw [hlb] at hb1 ⊢
    have HA := Lib.hid hA
    have HB := Lib.hid hB
    have HA1 := Lib.hid hA1
    have HB1 := Lib.hid hB1
    have HPA := Lib.hid hpa
    have HPB := Lib.hid hpb
    clear hA hB hA1 hB1 h0 hpa hpb hla hlb
    go_enter Tryd.func58, Tryd.ntmps58
    go_wp2
    go_loopw [5] (fun q wr => ∃ k : Nat, k ≤ l.length ∧ q = .int .i64 k ∧ Hid (Fr Nob w wr)) (fun q _ => l.length - (intOf q).toNat)
    case atStart => exact ⟨0, by omega, rfl, Fr.refl _ _⟩
    case round =>
      obtain ⟨k, hk, rfl, HF⟩ := hrel
      by_cases hlt : k < l.length
      · have hka : k < xa.length := by rw [HLA.out]; exact hlt
        have hkb : k < xb.length := by rw [HLB.out]; exact hlt
        obtain ⟨a0, a1⟩ := HA1.out k hka
        obtain ⟨b0, b1⟩ := HB1.out k hkb
        replace a0 := cell_nob a0 HF.out
        replace a1 := cell_nob a1 HF.out
        replace b0 := cell_nob b0 HF.out
        replace b1 := cell_nob b1 HF.out
        have HRA := Lib.hid ((HA.out.2 _ (List.getElem_mem hka)).nob HF.out)
        have HRB := Lib.hid ((HB.out.2 _ (List.getElem_mem hkb)).nob HF.out)
        rw [HPA.out k hlt hka] at a1 HRA
        rw [HPB.out k hlt hkb] at b1 HRB
        generalize l[k] = x at *
        generalize (xa[k]).2 = pa at *
        generalize (xb[k]).2 = pb at *
        have i1 : (k : Int) < l.length := by omega
        have hc : ∀ w2, Fr Nob wr w2 → Calls Tryd.prog 39 #[pa, pb] w2 fun e w' => e = .returned (.bool true) ∧ Fr Nob w2 w' := fun w2 hw2 => by
          have := same_any pa pb x.path x.path _ _ w2 (HRA.out.nob hw2) (HRB.out.nob hw2)
          simpa using this
        have HC := Lib.hid hc
        clear hc
        generalize x.eo = eo at *
        have HS := Lib.hid (show ∀ w2, Fr Nob wr w2 → w2.cell? ⟨ba, oa + k * 2, none⟩ = some pa ∧ w2.cell? ⟨ba, oa + k * 2 + 1, none⟩ = some (.bool eo) ∧ w2.cell? ⟨bb, ob + k * 2, none⟩ = some pb ∧ w2.cell? ⟨bb, ob + k * 2 + 1, none⟩ = some (.bool eo) from
          fun w2 h2 => ⟨cell_nob a0 h2, cell_nob a1 h2, cell_nob b0 h2, cell_nob b1 h2⟩)
        go_wp2_with fail
        go_region_held3 (fun w2 => w2.cell? ⟨ba, oa + k * 2, none⟩ = some pa ∧ w2.cell? ⟨ba, oa + k * 2 + 1, none⟩ = some (.bool eo) ∧ w2.cell? ⟨bb, ob + k * 2, none⟩ = some pb ∧ w2.cell? ⟨bb, ob + k * 2 + 1, none⟩ = some (.bool eo))
          ((refine HS.out _ ?_; (repeat (first | exact Fr.refl _ _ | exact H1.out | refine Fr.alloc ?_ _ | refine Fr.drew ?_)); done))
          ((go_at_call 39
            refine (HC.out _ (by repeat (first | exact Fr.refl _ _ | refine Fr.drew ?_))).mono ?_
            rintro e w1 ⟨rfl, hf⟩
            have H1 := Lib.hid (show Fr Nob wr w1 from Fr.trans0 (by repeat (first | exact Fr.refl _ _ | refine Fr.drew ?_)) hf)
            clear hf))
        go_wp2
        go_roundw
        case rel => exact ⟨k + 1, by omega, by go_num, HF.out.trans0 H1.out⟩
        case measure => simp [intOf]; omega
      · have hge : l.length ≤ k := by omega
        go_wp2
        go_ret
        exact ⟨rfl, HF.out⟩
end Go.Proofs.YtkkejjfmidgciaaDoor
