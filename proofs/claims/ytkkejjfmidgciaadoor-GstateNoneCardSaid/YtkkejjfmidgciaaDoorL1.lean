/-
  A region that draws its order, whose last operation waits for all others: it comes last; the others go under a condition that the last one need not keep. No program, no conditions.
-/
import Derived.Test.YtkkejjfmidgciaaDoorH1
import Derived.Deep.RegionHeld3
namespace Go.Proofs.YtkkejjfmidgciaaDoor
open Go.RowKit
set_option linter.unusedVariables false
set_option linter.unusedSimpArgs false
theorem wp_post {P : Program} {o : Oper} {a : Act} {w : World} {K : Act → World → Prop} {Q Q' : Exit → Act → World → Prop} (hp : ∀ c a w, Q' (.panic c) a w → Q (.panic c) a w) (ho : ∀ a w, Q' .outgrown a w → Q .outgrown a w)
    (h : o.wp P a w K Q') : o.wp P a w K Q := by
  unfold Oper.wp at *
  generalize (execOp a.eval o).run P w = r at *
  cases r with
  | ok n w' =>
    cases n <;> simp only [Oper.upon] at h ⊢ <;>
      first
        | exact h
        | (refine Calls.mono h fun e w'' he => ?_
           cases e with
           | returned v => exact he
           | panicked c => exact hp _ _ _ he
           | outgrown => exact he.imp fun a ⟨w, h⟩ => ⟨w, ho _ _ h⟩)
  | halt x w' =>
    cases x <;> simp only [Oper.upon] at h ⊢
    case panic v => exact hp _ _ _ h
/-- The last operation waits for all others. -/
def lastB (md : Region.Mode) (l : List Oper) (o : Oper) : Bool :=
  l.all (fun x => x.guard.isNone) && o.guard.isNone && (l.zipIdx.all fun p => p.1.after.all fun e => !Region.binds md e || decide (e.on < p.2)) &&
    (o.after.all fun e => !Region.binds md e || decide (e.on < l.length)) && ((List.range l.length).all fun i => (o.after.any fun e => Region.binds md e && e.on == i) || l.zipIdx.any fun p => decide (i < p.2) && p.1.after.any fun e => Region.binds md e && e.on == i)
theorem lastB_spec {md : Region.Mode} {l : List Oper} {o : Oper} (h : lastB md l o = true) :
    (∀ (i : Nat) (x : Oper), l[i]? = some x → x.guard = none) ∧ o.guard = none ∧ (∀ (i : Nat) (x : Oper), l[i]? = some x → ∀ e ∈ x.after, Region.binds md e = true → e.on < i) ∧
    (∀ e ∈ o.after, Region.binds md e = true → e.on < l.length) ∧ ∀ i : Nat, i < l.length → (∃ e ∈ o.after, Region.binds md e = true ∧ e.on = i) ∨ ∃ k x, i < k ∧ l[k]? = some x ∧ ∃ e ∈ x.after, Region.binds md e = true ∧ e.on = i := by
  simp only [lastB, Bool.and_eq_true] at h
  obtain ⟨⟨⟨⟨h1, h2⟩, h3⟩, h4⟩, h5⟩ := h
  refine ⟨fun i x hx => ?_, by simpa using h2, fun i x hx e he hb => ?_, fun e he hb => ?_, fun i hi => ?_⟩
  · have := List.all_eq_true.1 h1 x (List.mem_of_getElem? hx)
    simpa using this
  · have := List.all_eq_true.1 h3 (x, i) (List.mem_zipIdx_iff_getElem?.2 (by simpa using hx))
    have := (Array.all_eq_true_iff_forall_mem.1 this) e he
    simp only [Bool.or_eq_true, Bool.not_eq_true', decide_eq_true_eq] at this
    rcases this with h | h
    · rw [h] at hb; cases hb
    · exact h
  · have := (Array.all_eq_true_iff_forall_mem.1 h4) e he
    simp only [Bool.or_eq_true, Bool.not_eq_true', decide_eq_true_eq] at this
    rcases this with h | h
    · rw [h] at hb; cases hb
    · exact h
  · have := List.all_eq_true.1 h5 i (List.mem_range.2 hi)
    rcases Bool.or_eq_true_iff.1 this with this | this
    · obtain ⟨k, hk, hb⟩ := Array.any_eq_true.1 this
      have he := Array.getElem_mem hk
      generalize o.after[k] = e at *
      simp only [Bool.and_eq_true, beq_iff_eq] at hb
      exact .inl ⟨e, he, hb.1, hb.2⟩
    · obtain ⟨⟨x, j⟩, hx, hb⟩ := List.any_eq_true.1 this
      simp only [Bool.and_eq_true, decide_eq_true_eq] at hb
      obtain ⟨k, hk, hb2⟩ := Array.any_eq_true.1 hb.2
      have he := Array.getElem_mem hk
      generalize x.after[k] = e at *
      simp only [Bool.and_eq_true, beq_iff_eq] at hb2
      exact .inr ⟨j, x, hb.1, by simpa using List.mem_zipIdx_iff_getElem?.1 hx, e, he, hb2.1, hb2.2⟩
/-- What is listed has all that it waits for listed. -/
def ClosedL (md : Region.Mode) (l : List Oper) (listed : Array Bool) : Prop := ∀ (j : Nat) (x : Oper), l[j]? = some x → listed.getD j true = true → ∀ e ∈ x.after, Region.binds md e = true → listed.getD e.on true = true
theorem push_getD {listed : Array Bool} {j : Nat} {d : Bool} (h : j < listed.size) (b : Bool) : (listed.push b).getD j d = listed.getD j d := by
  simp [Array.getD_eq_getD_getElem?, Array.getElem?_push, Nat.ne_of_lt h]
theorem wpAny_snoc {P : Program} {md : Region.Mode} {l : List Oper} {o : Oper} {Q Q' : Exit → Act → World → Prop} (hB : lastB md l o = true)
    (hn : ∀ a w, Q' .normal a w → o.wp P a w (fun a' w' => Q .normal a' w') Q) (hp : ∀ c a w, Q' (.panic c) a w → Q (.panic c) a w) (ho : ∀ a w, Q' .outgrown a w → Q .outgrown a w) :
    ∀ (fuel : Nat) (listed : Array Bool) (a : Act) (w : World), listed.size = l.length → ClosedL md l listed → wpAny P md l.toArray Q' fuel listed a w → wpAny P md (l ++ [o]).toArray Q (fuel + 1) (listed.push false) a w := by
  obtain ⟨g1, g2, g3, g4, g5⟩ := lastB_spec hB
  have getL : ∀ i, i < l.length → (l ++ [o]).toArray[i]? = l.toArray[i]? := fun i hi => by simp [List.getElem?_append_left hi]
  have getO : (l ++ [o]).toArray[l.length]? = some o := by simp
  -- which may come up
  have small : ∀ (listed : Array Bool) i, listed.size = l.length → i < l.length → (i ∈ Region.ready md (l ++ [o]).toArray (listed.push false) ↔ i ∈ Region.ready md l.toArray listed) := fun listed i hs hi => by
    rw [mem_ready, mem_ready, getL i hi, push_getD (by omega)]
    refine and_congr Iff.rfl ⟨fun ⟨oj, h1, h2⟩ => ⟨oj, h1, fun e he hb => ?_⟩, fun ⟨oj, h1, h2⟩ => ⟨oj, h1, fun e he hb => ?_⟩⟩
    · have hlt := g3 i oj (by simpa using h1) e he hb
      have := h2 e he hb
      rwa [push_getD (by omega)] at this
    · have hlt := g3 i oj (by simpa using h1) e he hb
      rw [push_getD (by omega)]
      exact h2 e he hb
  have big : ∀ (listed : Array Bool) i, listed.size = l.length → ClosedL md l listed → i ∈ Region.ready md (l ++ [o]).toArray (listed.push false) → ¬ i < l.length → i = l.length ∧ ∀ j, j < l.length → listed.getD j true = true := fun listed i hs hc hi hn => by
    obtain ⟨h1, oj, h2, h3⟩ := mem_ready.1 hi
    have hil : i = l.length := by
      have := (Array.getElem?_eq_some_iff.1 h2).1
      simp at this
      omega
    subst hil
    rw [getO] at h2
    cases h2
    have key : ∀ d j, l.length ≤ j + d → j < l.length → listed.getD j true = true := by
      intro d
      induction d with
      | zero => intro j hd hj; omega
      | succ d ih =>
        intro j hd hj
        rcases g5 j hj with ⟨e, he, hb, rfl⟩ | ⟨k, x, hjk, hx, e, he, hb, rfl⟩
        · have := h3 e he hb
          rw [push_getD (by omega)] at this
          simp only [Array.getD_eq_getD_getElem?, Array.getElem?_eq_getElem (show e.on < listed.size by omega), Option.getD_some] at this ⊢
          exact this
        · exact hc k x hx (ih k (by omega) (List.getElem?_eq_some_iff.1 hx).1) e he hb
    exact ⟨rfl, fun j hj => key l.length j (by omega) hj⟩
  have allL : ∀ (listed : Array Bool), listed.size = l.length → Region.ready md l.toArray listed = [] → ∀ j, j < l.length → listed.getD j true = true := fun listed hs hr j => by
    induction j using Nat.strongRecOn with
    | ind j ih =>
      intro hj
      by_cases hl : listed.getD j true = true
      · exact hl
      · exfalso
        have : j ∈ Region.ready md l.toArray listed := mem_ready.2 ⟨by simpa using hl, l[j], by simp [hj], fun e he hb => by
          have hlt := g3 j l[j] (List.getElem?_eq_getElem hj) e he hb
          have := ih e.on hlt (by omega)
          simp only [Array.getD_eq_getD_getElem?, Array.getElem?_eq_getElem (show e.on < listed.size by omega), Option.getD_some] at this ⊢
          exact this⟩
        rw [hr] at this
        cases this
  have none : ∀ (listed : Array Bool), listed.size = l.length → (∀ j, j < l.length → listed.getD j true = true) → Region.ready md l.toArray listed = [] := fun listed hs h => by
    refine List.eq_nil_iff_forall_not_mem.2 fun i hi => ?_
    obtain ⟨h1, oj, h2, _⟩ := mem_ready.1 hi
    have hil : i < l.length := by have := (Array.getElem?_eq_some_iff.1 h2).1; simpa using this
    rw [h i hil] at h1
    cases h1
  have endR : ∀ (listed : Array Bool), listed.size = l.length → (∀ j, j < l.length → listed.getD j true = true) → Region.ready md (l ++ [o]).toArray ((listed.push false).setIfInBounds l.length true) = [] := fun listed hs h => by
    refine List.eq_nil_iff_forall_not_mem.2 fun i hi => ?_
    obtain ⟨h1, oj, h2, _⟩ := mem_ready.1 hi
    have hil : i < l.length + 1 := by have := (Array.getElem?_eq_some_iff.1 h2).1; simpa using this
    by_cases he : i = l.length
    · subst he
      simp [Array.getD_eq_getD_getElem?, ← hs] at h1
    · have := h i (by omega)
      rw [← push_getD (by omega) false] at this
      simp only [Array.getD_eq_getD_getElem?, Array.getElem?_setIfInBounds_ne (show l.length ≠ i by omega)] at h1 this
      rw [this] at h1
      cases h1
  have nonNil : ∀ (listed : Array Bool), listed.size = l.length → (∀ j, j < l.length → listed.getD j true = true) → l.length ∈ Region.ready md (l ++ [o]).toArray (listed.push false) := fun listed hs h => by
    refine mem_ready.2 ⟨by simp [Array.getD_eq_getD_getElem?, ← hs], o, getO, fun e he hb => ?_⟩
    have hlt := g4 e he hb
    have := h e.on hlt
    rw [push_getD (by omega)]
    simp only [Array.getD_eq_getD_getElem?, Array.getElem?_eq_getElem (show e.on < listed.size by omega), Option.getD_some] at this ⊢
    exact this
  have fin : ∀ (fuel : Nat) (listed : Array Bool) (a : Act) (w : World), listed.size = l.length → ClosedL md l listed → (∀ j, j < l.length → listed.getD j true = true) → Q' .normal a w → wpAny P md (l ++ [o]).toArray Q (fuel + 1) (listed.push false) a w := fun fuel listed a w hs hc h hq => by
    refine ⟨fun hr => ?_, fun i hi => ?_⟩
    · have := nonNil listed hs h; rw [hr] at this; cases this
    · by_cases hil : i < l.length
      · have := (small listed i hs hil).1 hi
        rw [none listed hs h] at this
        cases this
      · obtain ⟨rfl, _⟩ := big listed i hs hc hi hil
        unfold wpOp
        rw [getO]
        simp only [Region.wanted, g2, if_true]
        refine .inl (Oper.wp_mono (fun a' w' hq' => ?_) (hn a w hq))
        cases fuel with
        | zero => exact ⟨endR listed hs h, hq'⟩
        | succ fuel => exact ⟨fun _ => hq', fun i hi => by rw [endR listed hs h] at hi; cases hi⟩
  intro fuel
  induction fuel with
  | zero =>
    intro listed a w hs hc h
    exact fin 0 listed a w hs hc (allL listed hs h.1) h.2
  | succ fuel ih =>
    intro listed a w hs hc h
    by_cases hr : Region.ready md l.toArray listed = []
    · exact fin (fuel + 1) listed a w hs hc (allL listed hs hr) (h.1 hr)
    · refine ⟨fun hr' => ?_, fun i hi => ?_⟩
      · exfalso
        obtain ⟨i, hi⟩ := List.exists_mem_of_ne_nil _ hr
        have hil : i < l.length := by
          obtain ⟨_, oj, h2, _⟩ := mem_ready.1 hi
          have := (Array.getElem?_eq_some_iff.1 h2).1; simpa using this
        have := (small listed i hs hil).2 hi
        rw [hr'] at this
        cases this
      · by_cases hil : i < l.length
        · have h1 := h.2 i ((small listed i hs hil).1 hi)
          have hget : l.toArray[i]? = some l[i] := by simp [hil]
          unfold wpOp at h1 ⊢
          rw [getL i hil]
          rw [hget] at h1 ⊢
          have hg := g1 i l[i] (List.getElem?_eq_getElem hil)
          simp only [Region.wanted, hg, if_true] at h1 ⊢
          have he : (listed.push false).setIfInBounds i true = (listed.setIfInBounds i true).push false := by
            apply Array.toList_inj.1
            simp only [Array.toList_setIfInBounds, Array.toList_push]
            exact List.set_append_left _ _ (by simpa [hs] using hil)
          rcases h1 with h1 | ⟨h1, h2⟩
          · refine .inl (Oper.wp_mono (fun a' w' hq => ?_) (wp_post hp ho h1))
            rw [he]
            refine ih _ a' w' (by simpa using hs) (fun j x hx hj e he hb => ?_) hq
            obtain ⟨_, oj, h4, h5⟩ := mem_ready.1 ((small listed i hs hil).1 hi)
            have hjl := (List.getElem?_eq_some_iff.1 hx).1
            have hlt := g3 j x hx e he hb
            have hset : ∀ k, k < l.length → (listed.setIfInBounds i true).getD k true = if k = i then true else listed.getD k true := fun k hk => by
              by_cases hki : k = i
              · subst hki; simp [Array.getD_eq_getD_getElem?, hs, hk]
              · simp only [Array.getD_eq_getD_getElem?, Array.getElem?_setIfInBounds_ne (show i ≠ k from fun e => hki e.symm), hki, if_false]
            rw [hset _ (by omega)]
            rw [hset _ hjl] at hj
            by_cases hei : e.on = i
            · rw [if_pos hei]
            · rw [if_neg hei]
              by_cases hji : j = i
              · subst hji
                have e1 : oj = x := by simpa [hx] using h4.symm
                subst e1
                have := h5 e he hb
                simp only [Array.getD_eq_getD_getElem?, Array.getElem?_eq_getElem (show e.on < listed.size by omega), Option.getD_some] at this ⊢
                exact this
              · rw [if_neg hji] at hj
                exact hc j x hx hj e he hb
          · exact .inr ⟨h1, h2.imp fun a ⟨w, h⟩ => ⟨w, ho _ _ h⟩⟩
        · exfalso
          obtain ⟨rfl, hall⟩ := big listed i hs hc hi hil
          exact hr (none listed hs hall)
/-- What is owed ahead of the last operation. -/
def LastQ (P : Program) (o : Oper) (Q : Exit → Act → World → Prop) : Exit → Act → World → Prop
  | .normal, a, w => o.wp P a w (fun a' w' => Q .normal a' w') Q
  | .panic _, _, _ => False
  | e, a, w => Q e a w
theorem wp_region_last {P : Program} {id : Nat} {l : List Oper} {o : Oper} {Q : Exit → Act → World → Prop} {a : Act} {w : World} (S : World → Prop) (hm : P.follows .mixedOrders = true) (hB : lastB .any l o = true) (hS : S w.drew)
    (h : S w.drew → wpAnyH P .any l.toArray (LastQ P o Q) S l.length (Array.replicate l.length false) a w.drew) : (Code.region id (l ++ [o]).toArray true).wp P Q a w := by
  refine wp_region_any hm ?_
  have := wpAny_snoc (Q := Q) (Q' := LastQ P o Q) hB (fun a w hq => hq) (fun c a w hf => (hf : False).elim) (fun a w hq => hq) l.length (Array.replicate l.length false) a w.drew (by simp) (fun j x hx hj => by have := (List.getElem?_eq_some_iff.1 hx).1; simp [Array.getD_eq_getD_getElem?, this] at hj) (wpAny_of_held _ _ _ _ (h hS))
  have e1 : (l ++ [o]).toArray.size = l.length + 1 := by simp
  have e2 : Array.replicate (l.length + 1) false = (Array.replicate l.length false).push false := by simp [Array.replicate_succ]
  rw [e1, e2]
  exact this
theorem wp_region_last' {P : Program} {id : Nat} {ops l : List Oper} {o : Oper} {Q : Exit → Act → World → Prop} {a : Act} {w : World} (n : Nat) (hn : ops.length = n + 1) (ho : ops[n]? = some o) (hl : ops.take n = l) (S : World → Prop) (hm : P.follows .mixedOrders = true) (hB : lastB .any l o = true) (hS : S w.drew)
    (h : S w.drew → wpAnyH P .any l.toArray (LastQ P o Q) S l.length (Array.replicate l.length false) a w.drew) : (Code.region id ops.toArray true).wp P Q a w := by
  have e : ops = l ++ [o] := by
    rw [← hl]
    have h1 := List.take_succ_eq_append_getElem (l := ops) (i := n) (by omega)
    rw [List.take_of_length_le (by omega)] at h1
    rw [List.getElem?_eq_getElem (by omega)] at ho
    rw [← Option.some.inj ho]
    exact h1
  rw [e]
  exact wp_region_last S hm hB hS h
/-- One operation that comes up alone. -/
theorem held_one {P : Program} {md : Region.Mode} {ops : Array Oper} {Q : Exit → Act → World → Prop} {S : World → Prop} {fuel : Nat} {listed : Array Bool} {a : Act} {w : World} (i : Nat) {o : Oper} (ho : ops[i]? = some o) (hr : Region.ready md ops listed = [i]) (hg : o.guard = none)
    (h : ∀ K : Act → World → Prop, (∀ a w, S w → wpAnyH P md ops Q S fuel (listed.setIfInBounds i true) a w → K a w) → Oper.wp P o a w K Q) : wpAnyH P md ops Q S (fuel + 1) listed a w := by
  refine wpAnyH_all hr (by simp) fun j hj => ?_
  rw [List.mem_singleton] at hj
  subst hj
  unfold wpOp
  rw [ho]
  simp only [Region.wanted, hg, if_true]
  exact .inl (h _ fun a w h1 h2 => ⟨h1, h2⟩)
end Go.Proofs.YtkkejjfmidgciaaDoor
