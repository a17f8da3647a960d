/-
  Segments and paths as Lean values; the walks of Clone, last, add.
-/
import Derived.Test.YtkkejjfmidgciaaDoorP2
import Derived.WalkSpells
namespace Go.Proofs.YtkkejjfmidgciaaDoor
open Go.RowKit
set_option linter.unusedVariables false
set_option linter.unusedSimpArgs false
structure Sg where
  kind : Int
  a : Pt
  b : Pt
  c : Pt
deriving DecidableEq
def oo : Pt := ⟨0, 0⟩
def encS (s : Sg) : List Value := [.int .i64 s.kind, .int .i64 s.a.x, .int .i64 s.a.y, .int .i64 s.b.x, .int .i64 s.b.y, .int .i64 s.c.x, .int .i64 s.c.y]
def encSs (l : List Sg) : List Value := l.flatMap encS
theorem encSs_cons (a : Sg) (r : List Sg) : encSs (a :: r) = encS a ++ encSs r := by simp [encSs]
theorem encSs_len (l : List Sg) : (encSs l).length = l.length * 7 := by
  induction l with
  | nil => rfl
  | cons a r ih => rw [encSs_cons, List.length_append, List.length_cons, ih]; simp [encS]; omega
theorem encSs_append (a b : List Sg) : encSs (a ++ b) = encSs a ++ encSs b := by simp [encSs]
theorem encSs_one (l : List Sg) : ∀ u ∈ encSs l, u.oneCell' = true := by
  intro u hu
  simp only [encSs, List.mem_flatMap, encS] at hu
  obtain ⟨x, _, hx⟩ := hu
  simp only [List.mem_cons, List.not_mem_nil, or_false] at hx
  rcases hx with rfl | rfl | rfl | rfl | rfl | rfl | rfl <;> rfl
theorem encSs_at (l : List Sg) (k j : Nat) (hk : k < l.length) (hj : j < 7) : (encSs l)[k * 7 + j]? = (encS l[k])[j]? := by
  induction l generalizing k with
  | nil => simp at hk
  | cons a r ih =>
    rw [encSs_cons]
    cases k with
    | zero => rw [List.getElem?_append_left (by simp [encS]; omega)]; simp
    | succ k =>
      rw [List.getElem?_append_right (by simp [encS]; omega), show (k + 1) * 7 + j - (encS a).length = k * 7 + j by simp [encS]; omega]
      exact ih k (by simpa using hk)
structure SgAt (w : World) (b off : Nat) (o : Sg) : Prop where
  c0 : w.cell? ⟨b, off, none⟩ = some (.int .i64 o.kind)
  c1 : w.cell? ⟨b, off + 1, none⟩ = some (.int .i64 o.a.x)
  c2 : w.cell? ⟨b, off + 2, none⟩ = some (.int .i64 o.a.y)
  c3 : w.cell? ⟨b, off + 3, none⟩ = some (.int .i64 o.b.x)
  c4 : w.cell? ⟨b, off + 4, none⟩ = some (.int .i64 o.b.y)
  c5 : w.cell? ⟨b, off + 5, none⟩ = some (.int .i64 o.c.x)
  c6 : w.cell? ⟨b, off + 6, none⟩ = some (.int .i64 o.c.y)
theorem SgAt.fr {S : Nat → Prop} {w w' : World} {b off : Nat} {o : Sg} (h : SgAt w b off o) (hf : Fr S w w') (hn : ¬ S b) : SgAt w' b off o :=
  ⟨cell_fr h.c0 hf hn, cell_fr h.c1 hf hn, cell_fr h.c2 hf hn, cell_fr h.c3 hf hn, cell_fr h.c4 hf hn, cell_fr h.c5 hf hn, cell_fr h.c6 hf hn⟩
theorem RowIn.sg {w : World} {S : Nat → Prop} {v : Value} {l : List Sg} (h : RowIn w S 7 v l.length (encSs l)) (hn : 0 < l.length) :
    ∃ b off cap, v = .slice (some ⟨b, off, none⟩) l.length cap ∧ l.length ≤ cap ∧ cap ≤ 9223372036854775807 ∧ S b ∧ ∀ k (hk : k < l.length), SgAt w b (off + k * 7) l[k] := by
  obtain ⟨b, off, cap, hv, h1, h2, hS, hc⟩ := h.pos (by rw [encSs_len]; omega)
  refine ⟨b, off, cap, hv, h1, h2, hS, fun k hk => ?_⟩
  have hj : ∀ j v, j < 7 → (encS l[k])[j]? = some v → w.cell? ⟨b, off + k * 7 + j, none⟩ = some v := fun j v hj hv => by
    rw [Nat.add_assoc]
    exact hc _ _ (by rw [encSs_at l k j hk hj]; exact hv)
  exact ⟨hj 0 _ (by omega) rfl, hj 1 _ (by omega) rfl, hj 2 _ (by omega) rfl, hj 3 _ (by omega) rfl, hj 4 _ (by omega) rfl, hj 5 _ (by omega) rfl, hj 6 _ (by omega) rfl⟩
theorem OwnS.sg {w : World} {v : Value} {l : List Sg} {n : Nat} (h : OwnS w 91 7 v n (encSs l)) (hl : l.length = n) (hn : 0 < l.length) :
    ∃ b cap, v = .slice (some ⟨b, 0, none⟩) n cap ∧ n ≤ cap ∧ cap ≤ 9223372036854775807 ∧ ∀ k (hk : k < l.length), SgAt w b (k * 7) l[k] := by
  subst hl
  obtain ⟨b, off, cap, hv, h1, h2, _, hc⟩ := h.row.sg hn
  rcases h.2 with ⟨h0, _⟩ | ⟨g, cap', cur, h0, _⟩
  · rw [hv] at h0; cases h0
  · rw [hv] at h0
    cases h0
    refine ⟨b, cap, hv, h1, h2, fun k hk => ?_⟩
    have := hc k hk
    rwa [Nat.zero_add] at this

theorem info43 : (Tryd.prog.info? 91).map (fun i => (i.zero, i.size, i.bytes)) = some (some (.agg #[.int .i64 0, .int .i64 0, .int .i64 0, .int .i64 0, .int .i64 0, .int .i64 0, .int .i64 0]), 7, 56) := by kernel_rfl

theorem clone_any (v : Value) (l : List Sg) (S : Nat → Prop) (w : World) (h : RowIn w S 7 v l.length (encSs l)) (hs : l.length * 56 ≤ 140737488351232) :
    Calls Tryd.prog 84 #[v] w fun e w' => ∃ vo, e = .returned vo ∧ OwnS w' 91 7 vo l.length (encSs l) ∧ Fr Nob w w' ∧ NewV w vo := by
  obtain ⟨i0, hi, hz0, hz1, hz2⟩ := info_parts info43
  have hlen := h.len_le
  obtain ⟨A, cap, rfl, h1, h2⟩ : ∃ A c, v = .slice A l.length c ∧ l.length ≤ c ∧ c ≤ maxLen := by obtain ⟨_, A, c, h, h1, h2, _⟩ := h; exact ⟨A, c, h, h1, h2⟩
  have HH := Lib.hid h
  cases A with
  | none =>
    have hc : cap = 0 := by obtain ⟨_, A, c, h, _, _, h3, _⟩ := h; cases h; exact h3 rfl
    subst hc
    have hl : l = [] := List.length_eq_zero_iff.1 (by omega)
    subst hl
    clear h HH
    have kn := fun A l c w => run_slice_is_nil Tryd.underlying25 A l c w
    go_enter Tryd.func84, Tryd.ntmps84
    go_wp2
    go_ret
    exact ⟨_, rfl, OwnS.nil _ _ _, Fr.refl _ _, fun b hb => by simp [Value.ownBlock] at hb⟩
  | some a =>
    clear h
    have kn := fun A l c w => run_slice_is_nil Tryd.underlying25 A l c w
    have hrow : RowIn (w.alloc (.cells #[] 91)) S 7 (.slice (some a) l.length cap) l.length (encSs l) := HH.out.fr (T := Nob) ((Fr.refl _ _).alloc _) (fun _ _ hf => hf)
    have HR := Lib.hid hrow
    clear hrow HH
    go_enter Tryd.func84, Tryd.ntmps84
    go_wp2_with (at_builtin; refine wpList_app _ rfl _ _ 25 rfl 91 i0 _ 7 56 Tryd.underlying25 hi hz0 hz1 hz2 rfl (by decide) _ 0 [] rfl (OwnS.new0 w 91 7) S _ l.length (encSs l) rfl HR.out ?c1 ?c2 ?c3 ?_)
    case c1 => exact encSs_one l
    case c2 => unfold maxLen at *; omega
    case c3 => omega
    intro v' w1 hown hfr hat _
    go_wp2
    go_ret
    have hN := app_new (w := w) (NewV.at w 0 0) ((Fr.refl _ _).alloc _) hfr (by simpa using hat)
    exact ⟨v', rfl, by simpa using hown, hN.1, hN.2⟩

/-- A path. -/
structure PS where
  most : Int
  list : List Sg
  start : Pt
  now : Pt
def Pth (w : World) (g : Nat) (v : Value) (p : PS) : Prop :=
  Blk w g #[.int .i64 p.most, v, .int .i64 p.start.x, .int .i64 p.start.y, .int .i64 p.now.x, .int .i64 p.now.y] 131 ∧ OwnS w 91 7 v p.list.length (encSs p.list)
/-- Its blocks. -/
def ptB (g : Nat) (v : Value) : Nat → Prop := fun k => k = g ∨ v.ownBlock = some k
structure PthC (w : World) (g : Nat) (v : Value) (p : PS) : Prop where
  c0 : w.cell? ⟨g, 0, none⟩ = some (.int .i64 p.most)
  c1 : w.cell? ⟨g, 1, none⟩ = some v
  c2 : w.cell? ⟨g, 2, none⟩ = some (.int .i64 p.start.x)
  c3 : w.cell? ⟨g, 3, none⟩ = some (.int .i64 p.start.y)
  c4 : w.cell? ⟨g, 4, none⟩ = some (.int .i64 p.now.x)
  c5 : w.cell? ⟨g, 5, none⟩ = some (.int .i64 p.now.y)
theorem Pth.cells {w : World} {g : Nat} {v : Value} {p : PS} (h : Pth w g v p) : PthC w g v p :=
  ⟨h.1.cell 0, h.1.cell 1, h.1.cell 2, h.1.cell 3, h.1.cell 4, h.1.cell 5⟩
theorem Pth.form {w : World} {g : Nat} {v : Value} {p : PS} (h : Pth w g v p) : ∃ A cap, v = .slice A p.list.length cap ∧ p.list.length ≤ cap ∧ cap ≤ 9223372036854775807 := by
  obtain ⟨A, cap, hv, h1, h2⟩ := h.2.form
  exact ⟨A, cap, hv, h1, by simp only [maxLen] at h2; omega⟩
theorem Pth.fr {w w' : World} {S : Nat → Prop} {g : Nat} {v : Value} {p : PS} (h : Pth w g v p) (hf : Fr S w w') (hd : ∀ k, ptB g v k → ¬ S k) : Pth w' g v p :=
  ⟨h.1.fr hf (hd g (.inl rfl)), h.2.fr hf fun k hk => hd k (.inr hk)⟩
theorem Pth.nob {w w' : World} {g : Nat} {v : Value} {p : PS} (h : Pth w g v p) (hf : Fr Nob w w') : Pth w' g v p := h.fr hf fun _ _ hf => hf
theorem Pth.lt {w : World} {g : Nat} {v : Value} {p : PS} (h : Pth w g v p) : ∀ k, ptB g v k → k < w.heap.size := by
  rintro k (rfl | hk)
  · exact h.1.lt
  · exact h.2.lt k hk
/-- What a step leaves of a path: its new state, the frame, where its list lies. -/
def PthTo (w : World) (g : Nat) (v : Value) (p : PS) (w' : World) : Prop :=
  ∃ v', Pth w' g v' p ∧ Fr (ptB g v) w w' ∧ ∀ b, v'.ownBlock = some b → v.ownBlock = some b ∨ w.heap.size ≤ b
theorem PthTo.same {w : World} {g : Nat} {v : Value} {p : PS} (h : Pth w g v p) {w' : World} (hf : Fr Nob w w') : PthTo w g v p w' :=
  ⟨v, h.nob hf, hf.mono fun _ hf => hf.elim, fun b hb => .inl hb⟩
/-- The kind of the last one. -/
def lastK (l : List Sg) : Int := if h : 0 < l.length then l[l.length - 1].kind else 0

theorem last_any (g : Nat) (v : Value) (p : PS) (w : World) (h : Pth w g v p) :
    Calls Tryd.prog 106 #[.pointer (some ⟨g, 0, none⟩)] w fun e w' => e = .returned (.int .i64 (lastK p.list)) ∧ Fr Nob w w' := by
  have hcc := h.cells.c1
  obtain ⟨A, cap, rfl, h1, h2⟩ := h.form
  by_cases h0 : 0 < p.list.length
  · rw [show lastK p.list = p.list[p.list.length - 1].kind by simp [lastK, h0]]
    obtain ⟨b, cap', hv, _, _, hc⟩ := h.2.sg rfl h0
    cases hv
    have k0 := (hc (p.list.length - 1) (by omega)).c0
    clear hc h
    generalize p.list[p.list.length - 1].kind = s at k0 ⊢
    generalize hn : p.list.length = n at *
    obtain ⟨m, rfl⟩ : ∃ m, n = m + 1 := ⟨n - 1, by omega⟩
    have e1 : m + 1 - 1 = m := rfl
    simp only [e1] at k0
    clear hn
    have e0 : ((m + 1 : Nat) : Int) - 1 = m := by omega
    have e2 : (((m + 1 : Nat) : Int) == 0) = false := by simp; omega
    have i1 : (m : Int) < (m + 1 : Nat) := by omega
    go_enter Tryd.func106, Tryd.ntmps106
    go_wp2
    go_quiet (fail)
    go_wp2
    go_ret
    exact ⟨rfl, (Fr.refl _ _).drewN _⟩
  · rw [show lastK p.list = 0 by simp [lastK, h0]]
    obtain hz : p.list.length = 0 := by omega
    clear h
    rw [hz] at hcc
    clear hz h0 h1
    go_enter Tryd.func106, Tryd.ntmps106
    go_wp2
    go_ret
    exact ⟨rfl, Fr.refl _ _⟩
end Go.Proofs.YtkkejjfmidgciaaDoor
