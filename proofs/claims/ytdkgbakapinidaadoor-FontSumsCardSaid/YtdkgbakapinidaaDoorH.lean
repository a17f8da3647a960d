/-
  The walk of the law FontSums.
-/
import Derived.Test.YtdkgbakapinidaaDoorG
namespace Go.Proofs.YtdkgbakapinidaaDoor
open Go.RowKit
set_option linter.unusedVariables false
set_option linter.unusedSimpArgs false
theorem info5 : (Tryd.prog.info? 5).map (fun i => (i.zero, i.size, i.bytes)) = some (some (.int .u8 0), 1, 1) := by kernel_rfl
theorem bytes_one (l : List Int) : ∀ u ∈ bytesV l, u.oneCell' = true := by
  intro u hu; simp [bytesV] at hu; obtain ⟨z, _, rfl⟩ := hu; rfl
theorem bytes_append (a b : List Int) : bytesV (a ++ b) = bytesV a ++ bytesV b := by simp [bytesV]
theorem NamesIn.fr {w w' : World} (h : NamesIn w) (hf : Fr Nob w w') : NamesIn w' := h.below hf.to_below

theorem sums_far (i : Int) (va vb : Value) (a b : List Int) (w : World) (hN : NamesIn w) (S T : Nat → Prop) (ha : RowIn w S 1 va a.length (bytesV a)) (hb : RowIn w T 1 vb b.length (bytesV b)) (h : 3000 < a.length ∨ 3000 < b.length) :
    Calls Tryd.prog 5 #[.int .i64 i, va, vb] w fun e w' => e = .returned (.bool true) ∧ Fr Nob w w' := by
  have la := ha.len_le
  have lb := hb.len_le
  obtain ⟨_, A, c, rfl, _⟩ := ha
  obtain ⟨_, A', c', rfl, _⟩ := hb
  have hn := Lib.hid hN
  clear hN
  by_cases h1 : 3000 < a.length
  · have i1 : (3000 : Int) < a.length := by omega
    clear h
    go_enter Tryd.func5, Tryd.ntmps5
    go_wp2_with fail
    refine (answers_any _ hn.out).mono ?_
    rintro e w1 ⟨rfl, hb1⟩
    have hf := Lib.hid (Fr.of_below Nob hb1)
    clear hb1
    go_wp2_with fail
    go_ret
    exact ⟨rfl, hf.out⟩
  · have i1 : ¬ (3000 : Int) < a.length := by omega
    have i2 : (3000 : Int) < b.length := by omega
    have d1 : decide ((3000 : Int) < a.length) = false := by simpa using i1
    clear h
    go_enter Tryd.func5, Tryd.ntmps5
    go_wp2_with fail
    refine (answers_any _ hn.out).mono ?_
    rintro e w1 ⟨rfl, hb1⟩
    have hf := Lib.hid (Fr.of_below Nob hb1)
    clear hb1
    go_wp2_with fail
    go_ret
    exact ⟨rfl, hf.out⟩

set_option maxHeartbeats 1000000 in
theorem sums_near (i : Int) (va vb : Value) (a b : List Int) (w : World) (hN : NamesIn w) (S T : Nat → Prop) (ha : RowIn w S 1 va a.length (bytesV a)) (hb : RowIn w T 1 vb b.length (bytesV b)) (h1 : a.length ≤ 3000) (h2 : b.length ≤ 3000) :
    Calls Tryd.prog 5 #[.int .i64 i, va, vb] w fun e w' => e = .returned (.bool true) ∧ Fr Nob w w' := by
  obtain ⟨i0, hi, hz0, hz1, hz2⟩ := info_parts info5
  obtain ⟨A, c, rfl, _, _⟩ : ∃ A c, va = .slice A a.length c ∧ a.length ≤ c ∧ c ≤ maxLen := by obtain ⟨_, A, c, h, h1, h2, _⟩ := ha; exact ⟨A, c, h, h1, h2⟩
  obtain ⟨B, c', rfl, _, _⟩ : ∃ A c, vb = .slice A b.length c ∧ b.length ≤ c ∧ c ≤ maxLen := by obtain ⟨_, A, c, h, h1, h2, _⟩ := hb; exact ⟨A, c, h, h1, h2⟩
  have d1 : decide ((3000 : Int) < a.length) = false := by simp; omega
  have d2 : decide ((3000 : Int) < b.length) = false := by simp; omega
  have hn := Lib.hid hN
  have HA := Lib.hid ha
  have HB := Lib.hid hb
  have ba := sum_bound i a
  have bb := sum_bound i b
  have ba1 := ba.1
  have ba2 := ba.2
  have bb1 := bb.1
  have bb2 := bb.2
  obtain ⟨ab, hab⟩ : ∃ ab, ab = a ++ b := ⟨_, rfl⟩
  obtain ⟨ba', hba⟩ : ∃ ba', ba' = b ++ a := ⟨_, rfl⟩
  have hs1 := Lib.hid (show sumF i ab = sumF i a + sumF i b by rw [hab]; exact sum_append i a b)
  have hs2 := Lib.hid (show sumF i ba' = sumF i ab by rw [hab, hba, sum_append, sum_append]; omega)
  have hl1 : ab.length ≤ 6000 := by rw [hab]; simp; omega
  have hl2 : ba'.length ≤ 6000 := by rw [hba]; simp; omega
  replace hab := Lib.hid hab
  replace hba := Lib.hid hba
  clear hN ha hb ba bb
  go_enter Tryd.func5, Tryd.ntmps5
  go_wp2_with (at_builtin; refine wpList_app _ rfl _ _ 26 rfl 5 i0 _ 1 1 Tryd.underlying26 hi hz0 hz1 hz2 rfl (by decide) _ 0 [] rfl (OwnS.new0 w 5 1) _ _ a.length (bytesV a) rfl (HA.out.fr ((Fr.refl Nob w).alloc _) fun _ _ hf => hf) ?a1 ?a2 ?a3 ?_)
  case a1 => exact bytes_one a
  case a2 => unfold maxLen; omega
  case a3 => omega
  intro v1 w1 hown1 hfr1 hat1 _
  have hN1 := app_new (w := w) (v := .slice (some ⟨w.heap.size, 0, none⟩) 0 0) (v' := v1) (fun b hb => by simp [Value.ownBlock] at hb; omega) ((Fr.refl Nob w).alloc (.cells #[] 5)) hfr1 (by simpa using hat1)
  have HF1 := Lib.hid hN1.1
  have HV1 := Lib.hid hN1.2
  have HO1 := Lib.hid (show OwnS w1 5 1 v1 a.length (bytesV a) by simpa using hown1)
  clear hown1 hfr1 hat1 hN1
  obtain ⟨A1, k1, rfl, _, _⟩ := HO1.out.form
  go_wp2_with (at_builtin; refine wpList_app _ rfl _ _ 26 rfl 5 i0 _ 1 1 Tryd.underlying26 hi hz0 hz1 hz2 rfl (by decide) _ a.length (bytesV a) rfl HO1.out _ _ b.length (bytesV b) rfl (HB.out.fr HF1.out fun _ _ hf => hf) ?b1 ?b2 ?b3 ?_)
  case b1 => exact bytes_one b
  case b2 => unfold maxLen; omega
  case b3 => omega
  intro v2 w2 hown2 hfr2 hat2 _
  have hN2 := app_new HV1.out HF1.out hfr2 (by simpa using hat2)
  have HF2 := Lib.hid hN2.1
  have HV2 := Lib.hid hN2.2
  have HO2 := Lib.hid (show OwnS w2 5 1 v2 ab.length (bytesV ab) by rw [hab.out, bytes_append, List.length_append]; exact hown2)
  clear hown2 hfr2 hat2 hN2
  obtain ⟨A2, k2, rfl, _, _⟩ := HO2.out.form
  go_wp2_with (at_builtin; refine wpList_app _ rfl _ _ 26 rfl 5 i0 _ 1 1 Tryd.underlying26 hi hz0 hz1 hz2 rfl (by decide) _ 0 [] rfl (OwnS.new0 w2 5 1) _ _ b.length (bytesV b) rfl (HB.out.fr (HF2.out.alloc _) fun _ _ hf => hf) ?e1 ?e2 ?e3 ?_)
  case e1 => exact bytes_one b
  case e2 => unfold maxLen; omega
  case e3 => omega
  intro v3 w3 hown3 hfr3 hat3 _
  have hN3 := app_new (w := w2) (v := .slice (some ⟨w2.heap.size, 0, none⟩) 0 0) (v' := v3) (fun b hb => by simp [Value.ownBlock] at hb; omega) ((Fr.refl Nob w2).alloc (.cells #[] 5)) hfr3 (by simpa using hat3)
  have HG3 := Lib.hid hN3.1
  have HF3 := Lib.hid (HF2.out.trans0 hN3.1)
  have HV3 := Lib.hid hN3.2
  have HO3 := Lib.hid (show OwnS w3 5 1 v3 b.length (bytesV b) by simpa using hown3)
  clear hown3 hfr3 hat3 hN3
  obtain ⟨A3, k3, rfl, _, _⟩ := HO3.out.form
  go_wp2_with (at_builtin; refine wpList_app _ rfl _ _ 26 rfl 5 i0 _ 1 1 Tryd.underlying26 hi hz0 hz1 hz2 rfl (by decide) _ b.length (bytesV b) rfl HO3.out _ _ a.length (bytesV a) rfl (HA.out.fr HF3.out fun _ _ hf => hf) ?f1 ?f2 ?f3 ?_)
  case f1 => exact bytes_one a
  case f2 => unfold maxLen; omega
  case f3 => omega
  intro v4 w4 hown4 hfr4 hat4 _
  have hN4 := app_new HV3.out HG3.out hfr4 (by simpa using hat4)
  have HG4 := Lib.hid hN4.1
  have HF4 := Lib.hid (HF2.out.trans0 hN4.1)
  have HO4 := Lib.hid (show OwnS w4 5 1 v4 ba'.length (bytesV ba') by rw [hba.out, bytes_append, List.length_append]; exact hown4)
  clear hown4 hfr4 hat4 hN4
  have HR2 := Lib.hid (HO2.out.row.fr HG4.out fun _ _ hf => hf)
  have HR4 := Lib.hid HO4.out.row
  obtain ⟨A4, k4, rfl, _, _⟩ := HO4.out.form
  go_wp2_with fail
  refine (sum_any i ab _ _ _ HR2.out hl1).mono ?_
  rintro e w5 ⟨rfl, hf5⟩
  have H5 := Lib.hid hf5
  clear hf5
  go_wp2_with fail
  refine (answers_any _ ((hn.out.fr HF4.out).fr H5.out)).mono ?_
  rintro e w6 ⟨rfl, hf6⟩
  have H6 := Lib.hid (H5.out.trans0 (Fr.of_below Nob hf6))
  clear hf6
  go_wp2_with fail
  refine (rsum_any i ab _ _ _ (HR2.out.fr H6.out fun _ _ hf => hf) hl1).mono ?_
  rintro e w7 ⟨rfl, hf7⟩
  have H7 := Lib.hid (H6.out.trans0 hf7)
  clear hf7
  have e1 : (sumF i ab == sumF i ab) = true := by simp
  go_wp2_with fail
  refine (sum_any i a _ _ _ (HA.out.fr (HF4.out.trans0 H7.out) fun _ _ hf => hf) (by omega)).mono ?_
  rintro e w8 ⟨rfl, hf8⟩
  have H8 := Lib.hid (H7.out.trans0 hf8)
  clear hf8
  go_wp2_with fail
  refine (sum_any i b _ _ _ (HB.out.fr (HF4.out.trans0 H8.out) fun _ _ hf => hf) (by omega)).mono ?_
  rintro e w9 ⟨rfl, hf9⟩
  have H9 := Lib.hid (H8.out.trans0 hf9)
  clear hf9
  have e2 : (sumF i ab == sumF i a + sumF i b) = true := by rw [hs1.out]; simp
  go_wp2_with fail
  refine (sum_any i ba' _ _ _ (HR4.out.fr H9.out fun _ _ hf => hf) hl2).mono ?_
  rintro e w10 ⟨rfl, hf10⟩
  have H10 := Lib.hid (H9.out.trans0 hf10)
  clear hf10
  rw [hs2.out]
  go_wp2_with fail
  go_ret
  exact ⟨rfl, HF4.out.trans0 H10.out⟩

theorem sums_walk (i : Int) (va vb : Value) (a b : List Int) (w : World) (hN : NamesIn w) (S T : Nat → Prop) (ha : RowIn w S 1 va a.length (bytesV a)) (hb : RowIn w T 1 vb b.length (bytesV b)) :
    Calls Tryd.prog 5 #[.int .i64 i, va, vb] w fun e w' => e = .returned (.bool true) ∧ Fr Nob w w' := by
  by_cases h1 : a.length ≤ 3000
  · by_cases h2 : b.length ≤ 3000
    · exact sums_near i va vb a b w hN S T ha hb h1 h2
    · exact sums_far i va vb a b w hN S T ha hb (.inr (by omega))
  · exact sums_far i va vb a b w hN S T ha hb (.inl (by omega))
theorem read_bytes {H : Type} {enc' : TypeId × Value → H} {w : World} {base : Nat} {spare : Nat → Bool} {held : Bool} {fuel : Nat} {v : Value} {x : DataW H × List MemPlace}
    (h : DataW.trod enc' Tryd.prog w base spare held fuel 26 [v] = some x) : ∃ l : List Int, RowIn w (Lt w) 1 v l.length (bytesV l) := by
  obtain ⟨xs, h1, h2⟩ := read_slice Tryd.underlying26 1 (by kernel_rfl) (by omega) (fun (z : Int) cs => cs = [.int .u8 z]) (fun n cs y h => by
    obtain ⟨z, hz, _⟩ := DataW.trod_int Tryd.underlying5 h
    exact ⟨z, hz⟩) h
  have e : xs.flatMap (·.2) = bytesV (xs.map (·.1)) := by
    clear h1
    induction xs with
    | nil => rfl
    | cons a r ih =>
      rw [List.flatMap_cons, (h2 a (by simp)).1, ih fun y hy => h2 y (by simp [hy])]
      simp [bytesV]
  rw [e] at h1
  exact ⟨xs.map (·.1), by simpa using h1⟩
end Go.Proofs.YtdkgbakapinidaaDoor
