/-
  Words of my own for all seats: what an argument that is a slice reads as; the row of a law out of its walk. No program, no conditions.
-/
import Derived.Test.YtdkgbakapinidaaBase
import Derived.ProofKit
import Derived.Deep.Slices
import Derived.ShutString
import Derived.ChangeOld
import Derived.SizedLaws
namespace Go.Proofs.Ytdkgbakapinidaa
open Go.RowKit
set_option linter.unusedVariables false
set_option linter.unusedSimpArgs false
theorem flat_len {α β : Type} (f : α → List β) (size : Nat) : ∀ (l : List α), (∀ x ∈ l, (f x).length = size) → (l.flatMap f).length = l.length * size
  | [], _ => by simp
  | a :: r, h => by
    rw [List.flatMap_cons, List.length_append, h a (by simp), flat_len f size r (fun x hx => h x (by simp [hx])), List.length_cons, Nat.succ_mul]; omega
theorem flat_at {α β : Type} (f : α → List β) (size : Nat) : ∀ (l : List α), (∀ x ∈ l, (f x).length = size) → ∀ (k j : Nat) (hk : k < l.length), j < size → (l.flatMap f)[k * size + j]? = (f l[k])[j]?
  | [], _, k, j, hk, _ => by simp at hk
  | a :: r, h, k, j, hk, hj => by
    rw [List.flatMap_cons]
    have ha : (f a).length = size := h a (by simp)
    cases k with
    | zero => rw [List.getElem?_append_left (by omega)]; simp
    | succ k =>
      rw [List.getElem?_append_right (by rw [ha, Nat.succ_mul]; omega), ha, show (k + 1) * size + j - size = k * size + j by rw [Nat.succ_mul]; omega]
      exact flat_at f size r (fun x hx => h x (by simp [hx])) k j (by simpa using hk) hj

theorem read_slice {H T : Type} {enc : TypeId × Value → H} {P : Program} {w : World} {base : Nat} {spare : Nat → Bool} {held : Bool} {t e : TypeId} {fuel : Nat} {v : Value} {x : DataW H × List MemPlace}
    (ht : P.underlying t = some (.slice e)) (size : Nat) (hc : P.cellsOf e = size) (hs : 0 < size) (R : T → List Value → Prop)
    (hR : ∀ n cs y, DataW.trod enc P w base spare held n e cs = some y → ∃ t, R t cs)
    (h : DataW.trod enc P w base spare held fuel t [v] = some x) :
    ∃ xs : List (T × List Value), RowIn w (Lt w) size v xs.length (xs.flatMap (·.2)) ∧ (∀ y ∈ xs, R y.1 y.2 ∧ y.2.length = size) := by
  subst hc
  rcases Go.Deep.open_slice ht h with ⟨hcs, _⟩ | ⟨a, len, cap, m, n, D, Pl, hcs, _, hl, hm, hmm, _, hx⟩
  · obtain rfl : v = .slice none 0 0 := by simpa using hcs
    exact ⟨[], RowIn.nil w _ _, fun y hy => by simp at hy⟩
  · obtain rfl : v = .slice (some a) len cap := by simpa using hcs
    have hlm : len ≤ m := by rw [hmm]; split <;> omega
    have hy : ∀ i : Fin len, ∃ y : T × List Value, R y.1 y.2 ∧ y.2.length = P.cellsOf e ∧ ∀ j, j < P.cellsOf e → w.cell? ((a.add (i.val * P.cellsOf e)).add j) = y.2[j]? := fun i => by
      obtain ⟨cs', h1, h2⟩ := hx i.val (by omega)
      obtain ⟨_, h3, h4⟩ := World.cells?_some h1
      obtain ⟨t, ht⟩ := hR _ _ _ h2
      exact ⟨(t, cs'), ht, h3, h4⟩
    let F : Fin len → T × List Value := fun i => Classical.choose (hy i)
    have hF : ∀ i, R (F i).1 (F i).2 ∧ (F i).2.length = P.cellsOf e ∧ ∀ j, j < P.cellsOf e → w.cell? ((a.add (i.val * P.cellsOf e)).add j) = (F i).2[j]? := fun i => Classical.choose_spec (hy i)
    have hmem : ∀ y ∈ List.ofFn F, R y.1 y.2 ∧ y.2.length = P.cellsOf e := fun y hy => by
      obtain ⟨i, rfl⟩ := List.mem_ofFn.1 hy
      exact ⟨(hF i).1, (hF i).2.1⟩
    have hlenF : (List.ofFn F).length = len := List.length_ofFn
    refine ⟨List.ofFn F, ?_, hmem⟩
    rw [hlenF]
    have hfl := flat_len (·.2) (P.cellsOf e) (List.ofFn F) fun y hy => (hmem y hy).2
    refine ⟨by rw [hfl, hlenF], some a, cap, rfl, hl, hm, (fun hh => by cases hh), fun k u hu => ?_⟩
    have hk : k < len * P.cellsOf e := by
      have := (List.getElem?_eq_some_iff.1 hu).1
      rw [hfl, hlenF] at this
      exact this
    have hq : k / P.cellsOf e < len := (Nat.div_lt_iff_lt_mul hs).2 hk
    have hr : k % P.cellsOf e < P.cellsOf e := Nat.mod_lt _ hs
    have hkk : k = k / P.cellsOf e * P.cellsOf e + k % P.cellsOf e := by rw [Nat.mul_comm]; exact (Nat.div_add_mod _ _).symm
    rw [hkk, flat_at (·.2) (P.cellsOf e) (List.ofFn F) (fun y hy => (hmem y hy).2) _ _ (by rw [hlenF]; exact hq) hr] at hu
    rw [List.getElem_ofFn] at hu
    have hcell := (hF ⟨k / P.cellsOf e, hq⟩).2.2 _ hr
    have hlen0 : 0 < len := Nat.lt_of_le_of_lt (Nat.zero_le _) hq
    have hcell0 := (hF ⟨0, hlen0⟩).2.2 0 hs
    simp only [Nat.zero_mul] at hcell0
    have hcu : w.cell? ((a.add (k / P.cellsOf e * P.cellsOf e)).add (k % P.cellsOf e)) = some u := hcell.trans hu
    rw [Go.Deep.add_add, ← hkk] at hcu
    have hspot : a.spot = none := by
      have h0 : w.cell? a ≠ none := by
        have e0 : (a.add 0).add 0 = a := by simp [Addr.add]
        rw [e0] at hcell0
        rw [hcell0, List.getElem?_eq_getElem (by rw [(hF ⟨0, hlen0⟩).2.1]; exact hs)]
        simp
      unfold World.cell? at h0
      cases hsp : a.spot with
      | none => rfl
      | some s =>
        exfalso
        apply h0
        split
        · simp [hsp]
        · rfl
    obtain ⟨b, off, sp⟩ := a
    simp only at hspot
    subst hspot
    rw [add_plain] at hcu
    exact ⟨b, off, rfl, World.block_lt_of_cell? w _ hcu, hcu⟩

/-- The reach, of a slice that is an argument. -/
theorem sized_row {H : Type} {enc : TypeId × Value → H} {P : Program} {W : World} {base : Nat} {spare : Nat → Bool} {held : Bool} {t e : TypeId} {A : Option Addr} {len cap : Nat} {d : DataW H} {ps : List MemPlace} {ts : List TypeId} {ds : List (DataW H)} {j : Nat}
    (hsz : (DataW.weightsEach P ts ds).all (· ≤ reachBytes) = true) (ht : ts[j]? = some t) (hd : ds[j]? = some d) (hu : P.underlying t = some (.slice e)) {B : Nat} (hB : P.bytesOf e = B)
    (h : DataW.Trod enc P W base spare held t (.slice A len cap) d ps) : len * B ≤ 140737488351232 := by
  obtain ⟨fuel, hf⟩ := h
  rcases Go.Deep.open_slice hu hf with ⟨hcs, _⟩ | ⟨a, l, c, m, n, D, Pl, hcs, _, hl, hm, hmm, hx, _⟩
  · simp [Value.cells] at hcs
    obtain ⟨rfl, rfl, rfl⟩ := hcs
    simp
  · simp [Value.cells] at hcs
    obtain ⟨rfl, rfl, rfl⟩ := hcs
    obtain ⟨hx, _⟩ := Prod.mk.inj hx
    subst hx
    have z := sized_slice hsz ht hd hu
    rw [hB] at z
    have hlm : len ≤ m := by rw [hmm]; split <;> omega
    have h1 : ((List.range len).map D).length + ((List.range (m - len)).map fun j => D (len + j)).length = m := by simp; omega
    rw [h1] at z
    exact Nat.le_trans (Nat.mul_le_mul_right _ hlm) z
theorem RowIn.slice {w : World} {S : Nat → Prop} {size n : Nat} {v : Value} {cs : List Value} (h : RowIn w S size v n cs) : ∃ A cap, v = .slice A n cap := by
  obtain ⟨_, A, cap, hv, _⟩ := h
  exact ⟨A, cap, hv⟩
theorem wf64 {n : Int} (h : (Lit.int .i64 n).wf = true) : -9223372036854775808 ≤ n ∧ n ≤ 9223372036854775807 := by simpa [Lit.wf, IntKind.min, IntKind.max, IntKind.signed, IntKind.bits] using h
theorem wf32 {n : Int} (h : (Lit.int .i32 n).wf = true) : -2147483648 ≤ n ∧ n ≤ 2147483647 := by simpa [Lit.wf, IntKind.min, IntKind.max, IntKind.signed, IntKind.bits] using h
theorem wf16 {n : Int} (h : (Lit.int .i16 n).wf = true) : -32768 ≤ n ∧ n ≤ 32767 := by simpa [Lit.wf, IntKind.min, IntKind.max, IntKind.signed, IntKind.bits] using h
theorem wfu8 {n : Int} (h : (Lit.int .u8 n).wf = true) : 0 ≤ n ∧ n ≤ 255 := by simpa [Lit.wf, IntKind.min, IntKind.max, IntKind.signed, IntKind.bits] using h
theorem wfu16 {n : Int} (h : (Lit.int .u16 n).wf = true) : 0 ≤ n ∧ n ≤ 65535 := by simpa [Lit.wf, IntKind.min, IntKind.max, IntKind.signed, IntKind.bits] using h
/-- One cell of a struct. -/
theorem one_of_drop {cs : List Value} {k : Nat} {v : Value} (h : (cs.drop k).take 1 = [v]) : cs[k]? = some v := by
  have := congrArg (fun l => l[0]?) h
  simpa [List.getElem?_take, List.getElem?_drop] using this

section
variable {H : Type} {enc : TypeId × Value → H} {P : Program} {w : World} {base : Nat} {spare : Nat → Bool} {held : Bool} {n k i : Nat} {t : TypeId} {cs : List Value} {xs : List (DataW H × List MemPlace)}
theorem field_int {kd : IntKind} (h : DataW.trod enc P w base spare held n t ((cs.drop k).take (P.cellsOf t)) = xs[i]?) (hi : i < xs.length) (hu : P.underlying t = some (.int kd)) (hc : P.cellsOf t = 1) :
    ∃ z, cs[k]? = some (.int kd z) ∧ (Lit.int kd z).wf = true := by
  rw [List.getElem?_eq_getElem hi] at h
  obtain ⟨z, hz, _, hw⟩ := DataW.trod_int hu h
  rw [hc] at hz
  exact ⟨z, one_of_drop hz, hw⟩
theorem field_bool (h : DataW.trod enc P w base spare held n t ((cs.drop k).take (P.cellsOf t)) = xs[i]?) (hi : i < xs.length) (hu : P.underlying t = some .bool) (hc : P.cellsOf t = 1) :
    ∃ z, cs[k]? = some (.bool z) := by
  rw [List.getElem?_eq_getElem hi] at h
  obtain ⟨z, hz, _⟩ := DataW.trod_bool hu h
  rw [hc] at hz
  exact ⟨z, one_of_drop hz⟩
theorem field_string (h : DataW.trod enc P w base spare held n t ((cs.drop k).take (P.cellsOf t)) = xs[i]?) (hi : i < xs.length) (hu : P.underlying t = some .string) (hc : P.cellsOf t = 1) :
    ∃ z, cs[k]? = some (.string z) := by
  rw [List.getElem?_eq_getElem hi] at h
  obtain ⟨z, hz, _⟩ := DataW.trod_string hu h
  rw [hc] at hz
  exact ⟨z, one_of_drop hz⟩
theorem field_one (h : DataW.trod enc P w base spare held n t ((cs.drop k).take (P.cellsOf t)) = xs[i]?) (hi : i < xs.length) (hk : k < cs.length) (hc : P.cellsOf t = 1) :
    DataW.trod enc P w base spare held n t [cs[k]] = some xs[i] := by
  rw [List.getElem?_eq_getElem hi, hc] at h
  have : (cs.drop k).take 1 = [cs[k]] := by rw [List.take_one, List.head?_drop, List.getElem?_eq_getElem hk]; rfl
  rwa [this] at h
end
end Go.Proofs.Ytdkgbakapinidaa
