/-
  A path and the reference's path, side by side in memory; the walks of Copy, of the law's both.
-/
import Derived.Test.YtkkejjfmidgciaaQ7
import Derived.Test.YtkkejjfmidgciaaP8
namespace Go.Proofs.Ytkkejjfmidgciaa
open Go.RowKit
set_option linter.unusedVariables false
set_option linter.unusedSimpArgs false
set_option maxRecDepth 8000 in
set_option maxHeartbeats 1600000 in
theorem copy_any (g : Nat) (v : Value) (p : PS) (w : World) (h : Pth w g v p) (hb : PB p) :
    Calls Try.prog 16 #[.pointer (some ⟨g, 0, none⟩)] w fun e w' => ∃ g' v', e = .returned (.pointer (some ⟨g', 0, none⟩)) ∧ Pth w' g' v' p ∧ Fr Nob w w' ∧ ∀ k, ptB g' v' k → w.heap.size ≤ k := by
  have hS : ∀ w', Fr Nob w w' → w'.cell? ⟨g, 0, none⟩ = some (.int .i64 p.most) ∧ w'.cell? ⟨g, 1, none⟩ = some v ∧ w'.cell? ⟨g, 2, none⟩ = some (.int .i64 p.start.x) ∧ w'.cell? ⟨g, 3, none⟩ = some (.int .i64 p.start.y) ∧ w'.cell? ⟨g, 4, none⟩ = some (.int .i64 p.now.x) ∧ w'.cell? ⟨g, 5, none⟩ = some (.int .i64 p.now.y) := fun w' hw' => by
    have hc := (h.nob hw').cells
    exact ⟨hc.c0, hc.c1, hc.c2, hc.c3, hc.c4, hc.c5⟩
  have HS := Lib.hid hS
  have HH := Lib.hid h
  have hl := hb.len
  obtain ⟨A, cap, rfl, h1, h2⟩ := h.form
  clear h hb hS
  go_enter Try.func16, Try.ntmps16
  go_wp2_with fail
  obtain ⟨c0, c1, c2, c3, c4, c5⟩ := HS.out w (Fr.refl _ _)
  go_region_held3 (fun w' => w'.cell? ⟨g, 0, none⟩ = some (.int .i64 p.most) ∧ w'.cell? ⟨g, 1, none⟩ = some (.slice A p.list.length cap) ∧ w'.cell? ⟨g, 2, none⟩ = some (.int .i64 p.start.x) ∧ w'.cell? ⟨g, 3, none⟩ = some (.int .i64 p.start.y) ∧ w'.cell? ⟨g, 4, none⟩ = some (.int .i64 p.now.x) ∧ w'.cell? ⟨g, 5, none⟩ = some (.int .i64 p.now.y))
    ((refine HS.out _ ?_; (repeat (first | exact Fr.refl _ _ | exact H1.out | refine Fr.alloc ?_ _ | refine Fr.drew ?_)); done))
    ((go_at_call 39
      refine (clone_any _ p.list _ _ (HH.out.2.row.fr (show Fr Nob w _ by repeat (first | exact Fr.refl _ _ | refine Fr.alloc ?_ _ | refine Fr.drew ?_)) fun _ _ hh => hh) (by omega)).mono ?_
      rintro e w1 ⟨vo, rfl, ho, hf, hn⟩
      have H1 := Lib.hid (show Fr Nob w w1 from Fr.trans0 (by repeat (first | exact Fr.refl _ _ | refine Fr.alloc ?_ _ | refine Fr.drew ?_)) hf)
      have HO := Lib.hid ho
      have HN := Lib.hid (show NewV w vo from hn.le (by simp))
      obtain ⟨A1, cap1, rfl, _, _⟩ := ho.form
      clear ho hf hn))
  go_wp2_with fail
  go_ret
  refine ⟨_, _, rfl, ⟨Blk.new w1 _ _, HO.out.nob ((Fr.refl Nob w1).alloc _)⟩, H1.out.alloc _, ?_⟩
  rintro k (rfl | hk)
  · exact H1.out.size
  · exact HN.out k hk
/-- Both paths; F: their blocks. -/
structure DuoX (w : World) (F : Nat → Prop) (pg mg : Nat) (p : PS) (most : Int) (l : List Sg) (v rv : Value) (S : Nat → Prop) : Prop where
  path : Pth w pg v p
  ref : Rq w S mg 0 rv most l
  fp : ∀ k, ptB pg v k → F k
  fm : F mg
  fs : ∀ k, S k → F k
  sep : ∀ k, ptB pg v k → ¬ S k ∧ k ≠ mg
  lt : ∀ k, F k → k < w.heap.size
def Duo (w : World) (F : Nat → Prop) (pg mg : Nat) (p : PS) (most : Int) (l : List Sg) : Prop := ∃ v rv S, DuoX w F pg mg p most l v rv S
/-- What was there, and new blocks. -/
def Ext (F : Nat → Prop) (w w' : World) : Nat → Prop := fun k => F k ∨ Bt w w' k
theorem Duo.nob {w w' : World} {F : Nat → Prop} {pg mg : Nat} {p : PS} {most : Int} {l : List Sg} (h : Duo w F pg mg p most l) (hf : Fr Nob w w') : Duo w' F pg mg p most l := by
  obtain ⟨v, rv, S, h⟩ := h
  exact ⟨v, rv, S, h.path.nob hf, h.ref.nob hf, h.fp, h.fm, h.fs, h.sep, fun k hk => Nat.lt_of_lt_of_le (h.lt k hk) hf.size⟩
theorem Duo.frT {w w' : World} {F T : Nat → Prop} {pg mg : Nat} {p : PS} {most : Int} {l : List Sg} (h : Duo w F pg mg p most l) (hf : Fr T w w') (hT : ∀ k, F k → ¬ T k) : Duo w' F pg mg p most l := by
  obtain ⟨v, rv, S, h⟩ := h
  exact ⟨v, rv, S, h.path.fr hf fun k hk => hT k (h.fp k hk), h.ref.fr hf (hT _ h.fm) fun k hk => hT k (h.fs k hk), h.fp, h.fm, h.fs, h.sep, fun k hk => Nat.lt_of_lt_of_le (h.lt k hk) hf.size⟩
theorem Duo.grow {w : World} {F F' : Nat → Prop} {pg mg : Nat} {p : PS} {most : Int} {l : List Sg} (h : Duo w F pg mg p most l) (hF : ∀ k, F k → F' k) (hl : ∀ k, F' k → k < w.heap.size) : Duo w F' pg mg p most l := by
  obtain ⟨v, rv, S, h⟩ := h
  exact ⟨v, rv, S, h.path, h.ref, fun k hk => hF k (h.fp k hk), hF _ h.fm, fun k hk => hF k (h.fs k hk), h.sep, hl⟩
theorem Duo.flt {w : World} {F : Nat → Prop} {pg mg : Nat} {p : PS} {most : Int} {l : List Sg} (h : Duo w F pg mg p most l) : ∀ k, F k → k < w.heap.size := by
  obtain ⟨v, rv, S, h⟩ := h
  exact h.lt
/-- A call of the path. -/
theorem Duo.step {w : World} {F : Nat → Prop} {pg mg : Nat} {p : PS} {most : Int} {l : List Sg} (h : Duo w F pg mg p most l) : ∃ v, Pth w pg v p ∧ ∀ p' w', PthTo w pg v p' w' → Duo w' (Ext F w w') pg mg p' most l ∧ Fr F w w' := by
  obtain ⟨v, rv, S, h⟩ := h
  refine ⟨v, h.path, fun p' w' ht => ?_⟩
  obtain ⟨v', hp, hf, hv⟩ := ht
  have hb : ∀ k, ptB pg v' k → ptB pg v k ∨ w.heap.size ≤ k := by
    rintro k (rfl | hk)
    · exact .inl (.inl rfl)
    · rcases hv k hk with e | e
      · exact .inl (.inr e)
      · exact .inr e
  refine ⟨⟨v', rv, S, hp, h.ref.fr hf (fun hk => (h.sep _ hk).2 rfl) (fun k hS hk => (h.sep k hk).1 hS), fun k hk => ?_, .inl h.fm, fun k hk => .inl (h.fs k hk), fun k hk => ?_, fun k hk => ?_⟩, hf.mono h.fp⟩
  · rcases hb k hk with e | e
    · exact .inl (h.fp k e)
    · exact .inr ⟨e, hp.lt k hk⟩
  · rcases hb k hk with e | e
    · exact h.sep k e
    · exact ⟨fun hS => by have := h.lt k (h.fs k hS); omega, by rintro rfl; have := h.lt _ h.fm; omega⟩
  · rcases hk with e | e
    · exact Nat.lt_of_lt_of_le (h.lt k e) hf.size
    · exact e.2
/-- A call of the reference's path. -/
theorem Duo.rstep {w : World} {F : Nat → Prop} {pg mg : Nat} {p : PS} {most : Int} {l : List Sg} (h : Duo w F pg mg p most l) : ∃ S rv, Rq w S mg 0 rv most l ∧ ∀ l' w', RqTo w S mg 0 l' w' → Duo w' (Ext F w w') pg mg p most l' ∧ Fr F w w' := by
  obtain ⟨v, rv, S, h⟩ := h
  refine ⟨S, rv, h.ref, fun l' w' ht => ?_⟩
  obtain ⟨rv', hr⟩ := ht.rq h.ref
  have hf := ht.fr
  refine ⟨⟨v, rv', _, h.path.fr hf fun k hk e => (h.sep k hk).2 e, hr, fun k hk => .inl (h.fp k hk), .inl h.fm, fun k hk => ?_, fun k hk => ⟨?_, (h.sep k hk).2⟩, fun k hk => ?_⟩, hf.mono fun k hk => hk ▸ h.fm⟩
  · rcases hk with e | e
    · exact .inl (h.fs k e)
    · exact .inr e
  · rintro (e | e)
    · exact (h.sep k hk).1 e
    · have := h.lt k (h.fp k hk); have := e.1; omega
  · rcases hk with e | e
    · exact Nat.lt_of_lt_of_le (h.lt k e) hf.size
    · exact e.2
theorem ext_ext {F : Nat → Prop} {a b c : World} (h1 : a.heap.size ≤ b.heap.size) (h2 : b.heap.size ≤ c.heap.size) : ∀ k, Ext (Ext F a b) b c k → Ext F a c k := by
  rintro k ((h | h) | h)
  · exact .inl h
  · exact .inr ⟨h.1, Nat.lt_of_lt_of_le h.2 h2⟩
  · exact .inr ⟨Nat.le_trans h1 h.1, h.2⟩
theorem ext_lt {w w' : World} {F : Nat → Prop} (h : ∀ k, F k → k < w.heap.size) (hs : w.heap.size ≤ w'.heap.size) : ∀ k, Ext F w w' k → k < w'.heap.size := by
  rintro k (h1 | h1)
  · exact Nat.lt_of_lt_of_le (h k h1) hs
  · exact h1.2
theorem Duo.call {w : World} {F : Nat → Prop} {pg mg : Nat} {p p' : PS} {most : Int} {l : List Sg} {f : Nat} {args : Array Value} {E : Ending} (h : Duo w F pg mg p most l)
    (hc : ∀ v, Pth w pg v p → Calls Try.prog f args w fun e w' => e = E ∧ PthTo w pg v p' w') : Calls Try.prog f args w fun e w' => e = E ∧ Duo w' (Ext F w w') pg mg p' most l ∧ Fr F w w' := by
  obtain ⟨v, hp, hs⟩ := h.step
  exact (hc v hp).mono fun e w' ⟨he, ht⟩ => ⟨he, hs _ _ ht⟩
theorem Duo.rcall {w : World} {F : Nat → Prop} {pg mg : Nat} {p : PS} {most : Int} {l l' : List Sg} {f : Nat} {args : Array Value} {E : Ending} (h : Duo w F pg mg p most l)
    (hc : ∀ S rv, Rq w S mg 0 rv most l → Calls Try.prog f args w fun e w' => e = E ∧ RqTo w S mg 0 l' w') : Calls Try.prog f args w fun e w' => e = E ∧ Duo w' (Ext F w w') pg mg p most l' ∧ Fr F w w' := by
  obtain ⟨S, rv, hp, hs⟩ := h.rstep
  exact (hc S rv hp).mono fun e w' ⟨he, ht⟩ => ⟨he, hs _ _ ht⟩
/-- What the two calls leave. -/
def BothPost (w : World) (F : Nat → Prop) (pg mg : Nat) (p : PS) (e : Ending) (w' : World) : Prop :=
  ∃ p' c, e = .returned (.tuple #[.int .i64 c, .int .i64 c]) ∧ Duo w' (Ext F w w') pg mg p' p.most p'.list ∧ Fr F w w' ∧ Good p' ∧ p'.most = p.most ∧ p'.list.length ≤ p.list.length + 2
theorem BothPost.of {w wa w1 wb w2 w3 : World} {F : Nat → Prop} {pg mg : Nat} {p : PS} {q : Int × PS} {r : Int × List Sg} (hl : Like p q r) (hlt : ∀ k, F k → k < w.heap.size) (h0 : Fr Nob w wa) (h1 : Fr F wa w1) (hb : Fr Nob w1 wb) (h2 : Fr (Ext F wa w1) wb w2) (h3 : Fr Nob w2 w3)
    (hd : Duo w2 (Ext (Ext F wa w1) wb w2) pg mg q.2 p.most r.2) : BothPost w F pg mg p (.returned (.tuple #[.int .i64 q.1, .int .i64 r.1])) w3 := by
  have z0 := h0.size
  have z1 := h1.size
  have z2 := hb.size
  have z3 := h2.size
  have z4 := h3.size
  refine ⟨q.2, q.1, by rw [hl.e], ?_, ?_, hl.good, hl.most, hl.len⟩
  · rw [← hl.l] at hd
    refine (hd.nob h3).grow (fun k hk => ?_) (ext_lt hlt (by omega))
    rcases hk with (h | h) | h
    · exact .inl h
    · exact .inr ⟨Nat.le_trans z0 h.1, Nat.lt_of_lt_of_le h.2 (by omega)⟩
    · exact .inr ⟨Nat.le_trans (by omega) h.1, Nat.lt_of_lt_of_le h.2 z4⟩
  · refine ((((h0.mono (T := F) fun _ hh => hh.elim).trans h1 fun k hk => .inl hk).trans (hb.mono (T := F) fun _ hh => hh.elim) fun k hk => .inl hk).trans h2 fun k hk => ?_).trans0 h3
    rcases hk with h | h
    · exact .inl h
    · exact .inr (Nat.le_trans z0 h.1)
end Go.Proofs.Ytkkejjfmidgciaa
