/-
  The reference's path, wherever it lies; the walks of its start, Current.
-/
import Derived.Test.YtkkejjfmidgciaaQ0
namespace Go.Proofs.Ytkkejjfmidgciaa
open Go.RowKit
set_option linter.unusedVariables false
set_option linter.unusedSimpArgs false
/-- The reference's path, at the cell o of block g; v: its list, which lies in the blocks of S. -/
structure Rq (w : World) (S : Nat → Prop) (g o : Nat) (v : Value) (most : Int) (l : List Sg) : Prop where
  c0 : w.cell? ⟨g, o, none⟩ = some (.int .i64 most)
  c1 : w.cell? ⟨g, o + 1, none⟩ = some v
  f1 : w.frozen? ⟨g, o + 1, none⟩ = false
  row : RowIn w S 7 v l.length (encSs l)
  ng : ¬ S g
theorem frozen_fr {S : Nat → Prop} {w w' : World} {a : Addr} {v : Value} {b : Bool} (hc : w.cell? a = some v) (h : w.frozen? a = b) (hf : Fr S w w') (hn : ¬ S a.block) : w'.frozen? a = b := by
  have hb := hf.block _ (World.block_lt_of_cell? w _ hc) hn
  unfold World.frozen? at h ⊢
  rw [hb]; exact h
theorem Rq.fr {w w' : World} {S T : Nat → Prop} {g o : Nat} {v : Value} {most : Int} {l : List Sg} (h : Rq w S g o v most l) (hf : Fr T w w') (hg : ¬ T g) (hS : ∀ k, S k → ¬ T k) : Rq w' S g o v most l :=
  ⟨cell_fr h.c0 hf hg, cell_fr h.c1 hf hg, frozen_fr h.c1 h.f1 hf hg, h.row.fr hf hS, h.ng⟩
theorem Rq.nob {w w' : World} {S : Nat → Prop} {g o : Nat} {v : Value} {most : Int} {l : List Sg} (h : Rq w S g o v most l) (hf : Fr Nob w w') : Rq w' S g o v most l := h.fr hf (fun hh => hh) fun _ _ hh => hh
theorem Rq.lt {w : World} {S : Nat → Prop} {g o : Nat} {v : Value} {most : Int} {l : List Sg} (h : Rq w S g o v most l) : g < w.heap.size := World.block_lt_of_cell? w _ h.c0
theorem setCell_self {w : World} {b o : Nat} {v : Value} (h : w.cell? ⟨b, o, none⟩ = some v) : w.setCell ⟨b, o, none⟩ v = w := by
  have hlt := World.block_lt_of_cell? w _ h
  unfold World.cell? at h
  unfold World.setCell
  simp only [Option.isSome_none, Bool.false_eq_true, if_false]
  have hw : ∀ H, H = w.heap → ({ w with heap := H } : World) = w := by rintro _ rfl; rfl
  refine hw _ (Array.ext (by simp) fun i h1 h2 => ?_)
  rw [Array.getElem_modify]
  split
  · next hi =>
    subst hi
    have hb : w.heap[b]? = some w.heap[b] := Array.getElem?_eq_getElem h2
    simp only [hb] at h
    generalize w.heap[b] = x at *
    cases x with
    | cells cs e f =>
      simp only at h ⊢
      have hc : cs[o]? = some v := by simpa using h
      congr 1
      refine Array.ext (by simp) fun j q1 q2 => ?_
      rw [Array.getElem_setIfInBounds]
      split
      · next hj => subst hj; rw [Array.getElem?_eq_getElem q2] at hc; exact (Option.some.inj hc).symm
      · rfl
    | _ => rfl
  · rfl
/-- What a call leaves of the reference's path: new memory, its list's cell. -/
def RqTo (w : World) (S : Nat → Prop) (g o : Nat) (l : List Sg) (w' : World) : Prop :=
  ∃ v w1, Fr Nob w w1 ∧ w' = w1.setCell ⟨g, o + 1, none⟩ v ∧ RowIn w1 (fun k => S k ∨ Bt w w1 k) 7 v l.length (encSs l)
theorem RqTo.same {w w' : World} {S : Nat → Prop} {g o : Nat} {v : Value} {most : Int} {l : List Sg} (h : Rq w S g o v most l) (hf : Fr Nob w w') : RqTo w S g o l w' :=
  ⟨v, w', hf, (setCell_self (h.nob hf).c1).symm, (h.nob hf).row.mono fun k hk => .inl hk⟩
theorem RqTo.after {w w1 w' : World} {S : Nat → Prop} {g o : Nat} {l : List Sg} (h : RqTo w1 S g o l w') (hf : Fr Nob w w1) : RqTo w S g o l w' := by
  obtain ⟨v, w2, h1, h2, h3⟩ := h
  refine ⟨v, w2, hf.trans0 h1, h2, h3.mono fun k hk => ?_⟩
  rcases hk with hk | hk
  · exact .inl hk
  · exact .inr ⟨Nat.le_trans hf.size hk.1, hk.2⟩
theorem RqTo.fr {w w' : World} {S : Nat → Prop} {g o : Nat} {l : List Sg} (h : RqTo w S g o l w') : Fr (fun k => k = g) w w' := by
  obtain ⟨v, w2, h1, rfl, _⟩ := h
  exact (h1.mono (T := fun k => k = g) fun _ hh => hh.elim).setCell (p := ⟨g, o + 1, none⟩) (.inl rfl) _
theorem RqTo.rq {w w' : World} {S : Nat → Prop} {g o : Nat} {v : Value} {most : Int} {l l' : List Sg} (h : Rq w S g o v most l) (ht : RqTo w S g o l' w') : ∃ v', Rq w' (fun k => S k ∨ Bt w w' k) g o v' most l' := by
  obtain ⟨v', w2, h1, rfl, h3⟩ := ht
  have hr := h.nob h1
  have hg := h.lt
  have hng : ¬ (S g ∨ Bt w w2 g) := by rintro (e | e); exact h.ng e; have := e.1; omega
  have hf : Fr (fun k => k = g) w2 (w2.setCell ⟨g, o + 1, none⟩ v') := (Fr.refl (fun k => k = g) w2).setCell (p := ⟨g, o + 1, none⟩) (.inl rfl) v'
  have hz : (w2.setCell ⟨g, o + 1, none⟩ v').heap.size = w2.heap.size := by simp [World.setCell]
  have e2 : ∀ k, (S k ∨ Bt w (w2.setCell ⟨g, o + 1, none⟩ v') k) ↔ (S k ∨ Bt w w2 k) := fun k => by unfold Bt; rw [hz]
  refine ⟨v', ?_, World.cell?_setCell_same _ _ _ hr.c1, ?_, (h3.fr hf fun k hk e => by subst e; exact hng hk).mono fun k hk => (e2 k).2 hk, fun hk => hng ((e2 g).1 hk)⟩
  · rw [World.cell?_setCell_other (h := by intro e; have := congrArg Addr.off e; simp at this)]; exact hr.c0
  · rw [World.frozen?_setCell]; exact hr.f1
/-- Where the last MoveTo of the first k was. -/
def startK (l : List Sg) : Nat → Pt
  | 0 => oo
  | k + 1 => if (l.getD k sgZ).kind = 1 then (l.getD k sgZ).a else startK l k
def startF (l : List Sg) : Pt := startK l l.length
set_option maxRecDepth 8000 in
set_option maxHeartbeats 1600000 in
theorem rstart_any (S : Nat → Prop) (g o : Nat) (v : Value) (most : Int) (l : List Sg) (w : World) (h : Rq w S g o v most l) :
    Calls Try.prog 49 #[.pointer (some ⟨g, o, none⟩)] w fun e w' => e = .returned (ptV (startF l)) ∧ Fr Nob w w' := by
  obtain ⟨wa, hwa⟩ : ∃ wa, w.alloc (.cells #[.int .i64 0, .int .i64 0] 23) = wa := ⟨_, rfl⟩
  have hf : Fr Nob w wa := by rw [← hwa]; exact (Fr.refl Nob w).alloc _
  have hb : Blk wa w.heap.size #[.int .i64 0, .int .i64 0] 23 := by rw [← hwa]; exact Blk.new w _ _
  have hr := h.nob hf
  have c1 := hr.c1
  have y0 := hb.cell 0
  have y1 := hb.cell 1
  have f0 := hb.free 0
  have f1 := hb.free 1
  simp only [List.getElem?_toArray, List.getElem?_cons_succ, List.getElem?_cons_zero] at y0 y1
  have hlen := h.row.len_le
  have HF := Lib.hid hf
  have HB := Lib.hid hb
  have HR := Lib.hid hr
  have hgw : g ≠ w.heap.size := by have := h.lt; omega
  obtain ⟨A, cap, rfl, ha1, ha2⟩ := h.row.form
  have hsg : ∀ k (hk : k < l.length), ∃ b off cap', (Value.slice A l.length cap = .slice (some ⟨b, off, none⟩) l.length cap') ∧ SgAt wa b (off + k * 7) l[k] := fun k hk => by
    obtain ⟨b, off, cap', hv, _, _, _, hc⟩ := hr.row.sg (by omega)
    exact ⟨b, off, cap', hv, hc k hk⟩
  have HSG := Lib.hid hsg
  obtain ⟨P, hP⟩ : ∃ P, startF l = P := ⟨_, rfl⟩
  rw [hP]
  have HP := Lib.hid hP
  clear h hr hb hf hsg hP
  unfold maxLen at ha2
  unfold ptV
  go_enter Try.func49, Try.ntmps49
  go_wp2_with fail
  go_loopw [3] (fun q wr => ∃ k : Nat, k ≤ l.length ∧ q = .int .i64 ((k : Int) - 1) ∧ Hid (startK l k = P) ∧ wr = wa) (fun q _ => (intOf q + 1).toNat)
  case atStart => exact ⟨l.length, by omega, rfl, HP.out, rfl⟩
  case round =>
    obtain ⟨k, hk, rfl, HK, rfl⟩ := hrel
    rcases Nat.eq_zero_or_pos k with h0 | h0
    · subst h0
      have hP : P = oo := by rw [← HK.out]; rfl
      subst hP
      have hbn := (HB.out.set 0 (.int .i64 0)).set 1 (.int .i64 0)
      have HBN := Lib.hid hbn
      clear HK HP hbn
      unfold oo
      go_wp2_with fail
      exact bodyPost_ret (results_c rfl _ _ _ 23 _ _ rfl HBN.out Try.underlying23 rfl (by kernel_rfl)) rfl ⟨rfl, (HF.out.setCell (p := ⟨w.heap.size, 0, none⟩) (.inr (Nat.le_refl _)) _).setCell (p := ⟨w.heap.size, 1, none⟩) (.inr (Nat.le_refl _)) _⟩
    · obtain ⟨m, rfl⟩ : ∃ m, k = m + 1 := ⟨k - 1, by omega⟩
      have hml : m < l.length := by omega
      obtain ⟨b, off, cap', hv, hc⟩ := HSG.out m hml
      cases hv
      have hK : (if l[m].kind = 1 then l[m].a else startK l m) = P := by
        have := HK.out
        unfold startK at this
        rwa [getD_at hml] at this
      generalize l[m] = sg at *
      obtain ⟨s0, s1, s2, s3, s4, s5, s6⟩ := hc
      have e0 : ((m + 1 : Nat) : Int) - 1 = m := by omega
      have i1 : (m : Int) < l.length := by omega
      have d1 : decide ((0 : Int) ≤ m) = true := decide_eq_true (by omega)
      rw [e0]
      by_cases hk1 : sg.kind = 1
      · rw [if_pos hk1] at hK
        subst hK
        rw [hk1] at s0
        have hbn := (HB.out.set 0 (.int .i64 sg.a.x)).set 1 (.int .i64 sg.a.y)
        have HBN := Lib.hid hbn
        clear hbn HK HP hk1
        go_wp2_with fail
        exact bodyPost_ret (results_c rfl _ _ _ 23 _ _ rfl HBN.out Try.underlying23 rfl (by kernel_rfl)) rfl ⟨rfl, (HF.out.setCell (p := ⟨w.heap.size, 0, none⟩) (.inr (Nat.le_refl _)) _).setCell (p := ⟨w.heap.size, 1, none⟩) (.inr (Nat.le_refl _)) _⟩
      · rw [if_neg hk1] at hK
        have hb1 : (sg.kind == 1) = false := by simpa using hk1
        have HKn := Lib.hid hK
        clear hK HK hk1
        go_wp2_with fail
        go_roundw
        case rel => exact ⟨m, by omega, by go_num, HKn.out, trivial⟩
        case measure => simp [intOf]
end Go.Proofs.Ytkkejjfmidgciaa
