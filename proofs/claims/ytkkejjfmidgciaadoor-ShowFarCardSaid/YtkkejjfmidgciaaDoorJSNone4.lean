/-
  Texts joined in build order: A region that draws its order, whose last operation waits for all others: it comes last; the others go under a condition that the last one need not keep. No program, no conditions. The walk of copied. The walks of slices.ContainsFunc over numbers, of check, shape. How states lie behind a change: labels anew, fields anew. No walk. A level more is saved: how states lie then. No walk. The walk of Save.
-/
import Derived.Test.YtkkejjfmidgciaaDoorJSNone3
import Derived.Deep.RegionHeld3
/- A region that draws its order, whose last operation waits for all others: it comes last; the others go under a condition that the last one need not keep. No program, no conditions. -/
namespace Go.Proofs.YtkkejjfmidgciaaDoor
open Go.RowKit
set_option linter.unusedVariables false
set_option linter.unusedSimpArgs false
theorem wp_post {P : Program} {o : Oper} {a : Act} {w : World} {K : Act → World → Prop} {Q Q' : Exit → Act → World → Prop} (hp : ∀ c a w, Q' (.panic c) a w → Q (.panic c) a w) (ho : ∀ a w, Q' .outgrown a w → Q .outgrown a w)
    (h : o.wp P a w K Q') : o.wp P a w K Q := by
  unfold Oper.wp at *
  generalize (execOp a.eval o).run P w = r at *
  cases r with
  | ok n w' =>
    cases n <;> simp only [Oper.upon] at h ⊢ <;>
      first
        | exact h
        | (refine Calls.mono h fun e w'' he => ?_
           cases e with
           | returned v => exact he
           | panicked c => exact hp _ _ _ he
           | outgrown => exact he.imp fun a ⟨w, h⟩ => ⟨w, ho _ _ h⟩)
  | halt x w' =>
    cases x <;> simp only [Oper.upon] at h ⊢
    case panic v => exact hp _ _ _ h
/-- The last operation waits for all others. -/
def lastB (md : Region.Mode) (l : List Oper) (o : Oper) : Bool :=
  l.all (fun x => x.guard.isNone) && o.guard.isNone && (l.zipIdx.all fun p => p.1.after.all fun e => !Region.binds md e || decide (e.on < p.2)) &&
    (o.after.all fun e => !Region.binds md e || decide (e.on < l.length)) && ((List.range l.length).all fun i => (o.after.any fun e => Region.binds md e && e.on == i) || l.zipIdx.any fun p => decide (i < p.2) && p.1.after.any fun e => Region.binds md e && e.on == i)
theorem lastB_spec {md : Region.Mode} {l : List Oper} {o : Oper} (h : lastB md l o = true) :
    (∀ (i : Nat) (x : Oper), l[i]? = some x → x.guard = none) ∧ o.guard = none ∧ (∀ (i : Nat) (x : Oper), l[i]? = some x → ∀ e ∈ x.after, Region.binds md e = true → e.on < i) ∧
    (∀ e ∈ o.after, Region.binds md e = true → e.on < l.length) ∧ ∀ i : Nat, i < l.length → (∃ e ∈ o.after, Region.binds md e = true ∧ e.on = i) ∨ ∃ k x, i < k ∧ l[k]? = some x ∧ ∃ e ∈ x.after, Region.binds md e = true ∧ e.on = i := by
  simp only [lastB, Bool.and_eq_true] at h
  obtain ⟨⟨⟨⟨h1, h2⟩, h3⟩, h4⟩, h5⟩ := h
  refine ⟨fun i x hx => ?_, by simpa using h2, fun i x hx e he hb => ?_, fun e he hb => ?_, fun i hi => ?_⟩
  · have := List.all_eq_true.1 h1 x (List.mem_of_getElem? hx)
    simpa using this
  · have := List.all_eq_true.1 h3 (x, i) (List.mem_zipIdx_iff_getElem?.2 (by simpa using hx))
    have := (Array.all_eq_true_iff_forall_mem.1 this) e he
    simp only [Bool.or_eq_true, Bool.not_eq_true', decide_eq_true_eq] at this
    rcases this with h | h
    · rw [h] at hb; cases hb
    · exact h
  · have := (Array.all_eq_true_iff_forall_mem.1 h4) e he
    simp only [Bool.or_eq_true, Bool.not_eq_true', decide_eq_true_eq] at this
    rcases this with h | h
    · rw [h] at hb; cases hb
    · exact h
  · have := List.all_eq_true.1 h5 i (List.mem_range.2 hi)
    rcases Bool.or_eq_true_iff.1 this with this | this
    · obtain ⟨k, hk, hb⟩ := Array.any_eq_true.1 this
      have he := Array.getElem_mem hk
      generalize o.after[k] = e at *
      simp only [Bool.and_eq_true, beq_iff_eq] at hb
      exact .inl ⟨e, he, hb.1, hb.2⟩
    · obtain ⟨⟨x, j⟩, hx, hb⟩ := List.any_eq_true.1 this
      simp only [Bool.and_eq_true, decide_eq_true_eq] at hb
      obtain ⟨k, hk, hb2⟩ := Array.any_eq_true.1 hb.2
      have he := Array.getElem_mem hk
      generalize x.after[k] = e at *
      simp only [Bool.and_eq_true, beq_iff_eq] at hb2
      exact .inr ⟨j, x, hb.1, by simpa using List.mem_zipIdx_iff_getElem?.1 hx, e, he, hb2.1, hb2.2⟩
/-- What is listed has all that it waits for listed. -/
def ClosedL (md : Region.Mode) (l : List Oper) (listed : Array Bool) : Prop := ∀ (j : Nat) (x : Oper), l[j]? = some x → listed.getD j true = true → ∀ e ∈ x.after, Region.binds md e = true → listed.getD e.on true = true
theorem push_getD {listed : Array Bool} {j : Nat} {d : Bool} (h : j < listed.size) (b : Bool) : (listed.push b).getD j d = listed.getD j d := by
  simp [Array.getD_eq_getD_getElem?, Array.getElem?_push, Nat.ne_of_lt h]
theorem wpAny_snoc {P : Program} {md : Region.Mode} {l : List Oper} {o : Oper} {Q Q' : Exit → Act → World → Prop} (hB : lastB md l o = true)
    (hn : ∀ a w, Q' .normal a w → o.wp P a w (fun a' w' => Q .normal a' w') Q) (hp : ∀ c a w, Q' (.panic c) a w → Q (.panic c) a w) (ho : ∀ a w, Q' .outgrown a w → Q .outgrown a w) :
    ∀ (fuel : Nat) (listed : Array Bool) (a : Act) (w : World), listed.size = l.length → ClosedL md l listed → wpAny P md l.toArray Q' fuel listed a w → wpAny P md (l ++ [o]).toArray Q (fuel + 1) (listed.push false) a w := by
  obtain ⟨g1, g2, g3, g4, g5⟩ := lastB_spec hB
  have getL : ∀ i, i < l.length → (l ++ [o]).toArray[i]? = l.toArray[i]? := fun i hi => by simp [List.getElem?_append_left hi]
  have getO : (l ++ [o]).toArray[l.length]? = some o := by simp
  -- which may come up
  have small : ∀ (listed : Array Bool) i, listed.size = l.length → i < l.length → (i ∈ Region.ready md (l ++ [o]).toArray (listed.push false) ↔ i ∈ Region.ready md l.toArray listed) := fun listed i hs hi => by
    rw [mem_ready, mem_ready, getL i hi, push_getD (by omega)]
    refine and_congr Iff.rfl ⟨fun ⟨oj, h1, h2⟩ => ⟨oj, h1, fun e he hb => ?_⟩, fun ⟨oj, h1, h2⟩ => ⟨oj, h1, fun e he hb => ?_⟩⟩
    · have hlt := g3 i oj (by simpa using h1) e he hb
      have := h2 e he hb
      rwa [push_getD (by omega)] at this
    · have hlt := g3 i oj (by simpa using h1) e he hb
      rw [push_getD (by omega)]
      exact h2 e he hb
  have big : ∀ (listed : Array Bool) i, listed.size = l.length → ClosedL md l listed → i ∈ Region.ready md (l ++ [o]).toArray (listed.push false) → ¬ i < l.length → i = l.length ∧ ∀ j, j < l.length → listed.getD j true = true := fun listed i hs hc hi hn => by
    obtain ⟨h1, oj, h2, h3⟩ := mem_ready.1 hi
    have hil : i = l.length := by
      have := (Array.getElem?_eq_some_iff.1 h2).1
      simp at this
      omega
    subst hil
    rw [getO] at h2
    cases h2
    have key : ∀ d j, l.length ≤ j + d → j < l.length → listed.getD j true = true := by
      intro d
      induction d with
      | zero => intro j hd hj; omega
      | succ d ih =>
        intro j hd hj
        rcases g5 j hj with ⟨e, he, hb, rfl⟩ | ⟨k, x, hjk, hx, e, he, hb, rfl⟩
        · have := h3 e he hb
          rw [push_getD (by omega)] at this
          simp only [Array.getD_eq_getD_getElem?, Array.getElem?_eq_getElem (show e.on < listed.size by omega), Option.getD_some] at this ⊢
          exact this
        · exact hc k x hx (ih k (by omega) (List.getElem?_eq_some_iff.1 hx).1) e he hb
    exact ⟨rfl, fun j hj => key l.length j (by omega) hj⟩
  have allL : ∀ (listed : Array Bool), listed.size = l.length → Region.ready md l.toArray listed = [] → ∀ j, j < l.length → listed.getD j true = true := fun listed hs hr j => by
    induction j using Nat.strongRecOn with
    | ind j ih =>
      intro hj
      by_cases hl : listed.getD j true = true
      · exact hl
      · exfalso
        have : j ∈ Region.ready md l.toArray listed := mem_ready.2 ⟨by simpa using hl, l[j], by simp [hj], fun e he hb => by
          have hlt := g3 j l[j] (List.getElem?_eq_getElem hj) e he hb
          have := ih e.on hlt (by omega)
          simp only [Array.getD_eq_getD_getElem?, Array.getElem?_eq_getElem (show e.on < listed.size by omega), Option.getD_some] at this ⊢
          exact this⟩
        rw [hr] at this
        cases this
  have none : ∀ (listed : Array Bool), listed.size = l.length → (∀ j, j < l.length → listed.getD j true = true) → Region.ready md l.toArray listed = [] := fun listed hs h => by
    refine List.eq_nil_iff_forall_not_mem.2 fun i hi => ?_
    obtain ⟨h1, oj, h2, _⟩ := mem_ready.1 hi
    have hil : i < l.length := by have := (Array.getElem?_eq_some_iff.1 h2).1; simpa using this
    rw [h i hil] at h1
    cases h1
  have endR : ∀ (listed : Array Bool), listed.size = l.length → (∀ j, j < l.length → listed.getD j true = true) → Region.ready md (l ++ [o]).toArray ((listed.push false).setIfInBounds l.length true) = [] := fun listed hs h => by
    refine List.eq_nil_iff_forall_not_mem.2 fun i hi => ?_
    obtain ⟨h1, oj, h2, _⟩ := mem_ready.1 hi
    have hil : i < l.length + 1 := by have := (Array.getElem?_eq_some_iff.1 h2).1; simpa using this
    by_cases he : i = l.length
    · subst he
      simp [Array.getD_eq_getD_getElem?, ← hs] at h1
    · have := h i (by omega)
      rw [← push_getD (by omega) false] at this
      simp only [Array.getD_eq_getD_getElem?, Array.getElem?_setIfInBounds_ne (show l.length ≠ i by omega)] at h1 this
      rw [this] at h1
      cases h1
  have nonNil : ∀ (listed : Array Bool), listed.size = l.length → (∀ j, j < l.length → listed.getD j true = true) → l.length ∈ Region.ready md (l ++ [o]).toArray (listed.push false) := fun listed hs h => by
    refine mem_ready.2 ⟨by simp [Array.getD_eq_getD_getElem?, ← hs], o, getO, fun e he hb => ?_⟩
    have hlt := g4 e he hb
    have := h e.on hlt
    rw [push_getD (by omega)]
    simp only [Array.getD_eq_getD_getElem?, Array.getElem?_eq_getElem (show e.on < listed.size by omega), Option.getD_some] at this ⊢
    exact this
  have fin : ∀ (fuel : Nat) (listed : Array Bool) (a : Act) (w : World), listed.size = l.length → ClosedL md l listed → (∀ j, j < l.length → listed.getD j true = true) → Q' .normal a w → wpAny P md (l ++ [o]).toArray Q (fuel + 1) (listed.push false) a w := fun fuel listed a w hs hc h hq => by
    refine ⟨fun hr => ?_, fun i hi => ?_⟩
    · have := nonNil listed hs h; rw [hr] at this; cases this
    · by_cases hil : i < l.length
      · have := (small listed i hs hil).1 hi
        rw [none listed hs h] at this
        cases this
      · obtain ⟨rfl, _⟩ := big listed i hs hc hi hil
        unfold wpOp
        rw [getO]
        simp only [Region.wanted, g2, if_true]
        refine .inl (Oper.wp_mono (fun a' w' hq' => ?_) (hn a w hq))
        cases fuel with
        | zero => exact ⟨endR listed hs h, hq'⟩
        | succ fuel => exact ⟨fun _ => hq', fun i hi => by rw [endR listed hs h] at hi; cases hi⟩
  intro fuel
  induction fuel with
  | zero =>
    intro listed a w hs hc h
    exact fin 0 listed a w hs hc (allL listed hs h.1) h.2
  | succ fuel ih =>
    intro listed a w hs hc h
    by_cases hr : Region.ready md l.toArray listed = []
    · exact fin (fuel + 1) listed a w hs hc (allL listed hs hr) (h.1 hr)
    · refine ⟨fun hr' => ?_, fun i hi => ?_⟩
      · exfalso
        obtain ⟨i, hi⟩ := List.exists_mem_of_ne_nil _ hr
        have hil : i < l.length := by
          obtain ⟨_, oj, h2, _⟩ := mem_ready.1 hi
          have := (Array.getElem?_eq_some_iff.1 h2).1; simpa using this
        have := (small listed i hs hil).2 hi
        rw [hr'] at this
        cases this
      · by_cases hil : i < l.length
        · have h1 := h.2 i ((small listed i hs hil).1 hi)
          have hget : l.toArray[i]? = some l[i] := by simp [hil]
          unfold wpOp at h1 ⊢
          rw [getL i hil]
          rw [hget] at h1 ⊢
          have hg := g1 i l[i] (List.getElem?_eq_getElem hil)
          simp only [Region.wanted, hg, if_true] at h1 ⊢
          have he : (listed.push false).setIfInBounds i true = (listed.setIfInBounds i true).push false := by
            apply Array.toList_inj.1
            simp only [Array.toList_setIfInBounds, Array.toList_push]
            exact List.set_append_left _ _ (by simpa [hs] using hil)
          rcases h1 with h1 | ⟨h1, h2⟩
          · refine .inl (Oper.wp_mono (fun a' w' hq => ?_) (wp_post hp ho h1))
            rw [he]
            refine ih _ a' w' (by simpa using hs) (fun j x hx hj e he hb => ?_) hq
            obtain ⟨_, oj, h4, h5⟩ := mem_ready.1 ((small listed i hs hil).1 hi)
            have hjl := (List.getElem?_eq_some_iff.1 hx).1
            have hlt := g3 j x hx e he hb
            have hset : ∀ k, k < l.length → (listed.setIfInBounds i true).getD k true = if k = i then true else listed.getD k true := fun k hk => by
              by_cases hki : k = i
              · subst hki; simp [Array.getD_eq_getD_getElem?, hs, hk]
              · simp only [Array.getD_eq_getD_getElem?, Array.getElem?_setIfInBounds_ne (show i ≠ k from fun e => hki e.symm), hki, if_false]
            rw [hset _ (by omega)]
            rw [hset _ hjl] at hj
            by_cases hei : e.on = i
            · rw [if_pos hei]
            · rw [if_neg hei]
              by_cases hji : j = i
              · subst hji
                have e1 : oj = x := by simpa [hx] using h4.symm
                subst e1
                have := h5 e he hb
                simp only [Array.getD_eq_getD_getElem?, Array.getElem?_eq_getElem (show e.on < listed.size by omega), Option.getD_some] at this ⊢
                exact this
              · rw [if_neg hji] at hj
                exact hc j x hx hj e he hb
          · exact .inr ⟨h1, h2.imp fun a ⟨w, h⟩ => ⟨w, ho _ _ h⟩⟩
        · exfalso
          obtain ⟨rfl, hall⟩ := big listed i hs hc hi hil
          exact hr (none listed hs hall)
/-- What is owed ahead of the last operation. -/
def LastQ (P : Program) (o : Oper) (Q : Exit → Act → World → Prop) : Exit → Act → World → Prop
  | .normal, a, w => o.wp P a w (fun a' w' => Q .normal a' w') Q
  | .panic _, _, _ => False
  | e, a, w => Q e a w
theorem wp_region_last {P : Program} {id : Nat} {l : List Oper} {o : Oper} {Q : Exit → Act → World → Prop} {a : Act} {w : World} (S : World → Prop) (hm : P.follows .mixedOrders = true) (hB : lastB .any l o = true) (hS : S w.drew)
    (h : S w.drew → wpAnyH P .any l.toArray (LastQ P o Q) S l.length (Array.replicate l.length false) a w.drew) : (Code.region id (l ++ [o]).toArray true).wp P Q a w := by
  refine wp_region_any hm ?_
  have := wpAny_snoc (Q := Q) (Q' := LastQ P o Q) hB (fun a w hq => hq) (fun c a w hf => (hf : False).elim) (fun a w hq => hq) l.length (Array.replicate l.length false) a w.drew (by simp) (fun j x hx hj => by have := (List.getElem?_eq_some_iff.1 hx).1; simp [Array.getD_eq_getD_getElem?, this] at hj) (wpAny_of_held _ _ _ _ (h hS))
  have e1 : (l ++ [o]).toArray.size = l.length + 1 := by simp
  have e2 : Array.replicate (l.length + 1) false = (Array.replicate l.length false).push false := by simp [Array.replicate_succ]
  rw [e1, e2]
  exact this
theorem wp_region_last' {P : Program} {id : Nat} {ops l : List Oper} {o : Oper} {Q : Exit → Act → World → Prop} {a : Act} {w : World} (n : Nat) (hn : ops.length = n + 1) (ho : ops[n]? = some o) (hl : ops.take n = l) (S : World → Prop) (hm : P.follows .mixedOrders = true) (hB : lastB .any l o = true) (hS : S w.drew)
    (h : S w.drew → wpAnyH P .any l.toArray (LastQ P o Q) S l.length (Array.replicate l.length false) a w.drew) : (Code.region id ops.toArray true).wp P Q a w := by
  have e : ops = l ++ [o] := by
    rw [← hl]
    have h1 := List.take_succ_eq_append_getElem (l := ops) (i := n) (by omega)
    rw [List.take_of_length_le (by omega)] at h1
    rw [List.getElem?_eq_getElem (by omega)] at ho
    rw [← Option.some.inj ho]
    exact h1
  rw [e]
  exact wp_region_last S hm hB hS h
/-- One operation that comes up alone. -/
theorem held_one {P : Program} {md : Region.Mode} {ops : Array Oper} {Q : Exit → Act → World → Prop} {S : World → Prop} {fuel : Nat} {listed : Array Bool} {a : Act} {w : World} (i : Nat) {o : Oper} (ho : ops[i]? = some o) (hr : Region.ready md ops listed = [i]) (hg : o.guard = none)
    (h : ∀ K : Act → World → Prop, (∀ a w, S w → wpAnyH P md ops Q S fuel (listed.setIfInBounds i true) a w → K a w) → Oper.wp P o a w K Q) : wpAnyH P md ops Q S (fuel + 1) listed a w := by
  refine wpAnyH_all hr (by simp) fun j hj => ?_
  rw [List.mem_singleton] at hj
  subst hj
  unfold wpOp
  rw [ho]
  simp only [Region.wanted, hg, if_true]
  exact .inl (h _ fun a w h1 h2 => ⟨h1, h2⟩)
end Go.Proofs.YtkkejjfmidgciaaDoor
/- The walk of copied. -/
namespace Go.Proofs.YtkkejjfmidgciaaDoor
open Go.RowKit
set_option linter.unusedVariables false
set_option linter.unusedSimpArgs false
theorem run_storeAtRow {P : Program} {w : World} (ty : TypeId) (g o : Nat) (cells : List Value) (t : TypeId) (old : Array Value) (hg : Blk w g old t) (hfit : o + cells.length ≤ old.size) (hi : (P.info? ty).map (·.size) = some cells.length) (h1 : ∀ u ∈ cells, u.oneCell' = true) :
    (Instr.storeAt ty (.pointer (some ⟨g, o, none⟩)) (.agg cells.toArray)).run P w = .ok () (w.setRow g (over old o cells)) := by
  simp only [Instr.storeAt, Instr.sureAddr, Sem.run_bind, Sem.run_pure, Result.andThen_ok, run_putAt ty g o cells t old hg hfit hi h1]
theorem sizeL : (Tryd.prog.info? 121).map (·.size) = some 27 := by kernel_rfl
theorem encL_one (l : Lv) (x : LvG) (hd : ∃ A n c, x.dv = .slice A n c) (hc : ∃ A n c, x.cv = .slice A n c) : ∀ u ∈ encL l x, u.oneCell' = true := by
  intro u hu
  rcases List.mem_append.1 hu with hu | hu
  · exact encG_one _ _ _ hd hc u hu
  · rw [List.mem_singleton] at hu; subst hu; rfl
/-- A copy of a level: where it lies. -/
structure LvNew (w w' : World) (l : Lv) (x : LvG) (m : Nat) : Prop where
  lo : w.heap.size ≤ m
  hi : m ≤ w'.heap.size
  g : GIn w' (fun k => w.heap.size ≤ k ∧ k < m) x.dv x.cv l.st
  p : Pth w' x.pg x.pv l.p
  b : ∀ k, ptB x.pg x.pv k → m ≤ k
  f : Fr Nob w w'
theorem LvNew.nob {w w' w'' : World} {l : Lv} {x : LvG} {m : Nat} (h : LvNew w w' l x m) (hf : Fr Nob w' w'') : LvNew w w'' l x m :=
  ⟨h.lo, Nat.le_trans h.hi hf.size, h.g.nob hf, h.p.nob hf, h.b, h.f.trans0 hf⟩
theorem LvNew.after {w0 w w' : World} {l : Lv} {x : LvG} {m : Nat} (h : LvNew w w' l x m) (hf : Fr Nob w0 w) : LvNew w0 w' l x m :=
  ⟨Nat.le_trans hf.size h.lo, h.hi, h.g.mono fun k hk => ⟨Nat.le_trans hf.size hk.1, hk.2⟩, h.p, h.b, hf.trans0 h.f⟩
theorem LvNew.fr {w w' w'' : World} {l : Lv} {x : LvG} {m : Nat} {T : Nat → Prop} (h : LvNew w w' l x m) (hf : Fr T w' w'') (hg : ∀ k, T k → ¬ (w.heap.size ≤ k ∧ k < m)) (hp : ∀ k, T k → ¬ ptB x.pg x.pv k) (hn : ∀ k, T k → w.heap.size ≤ k) : LvNew w w'' l x m :=
  ⟨h.lo, Nat.le_trans h.hi hf.size, h.g.fr hf fun k hk ht => hg k ht hk, h.p.fr hf fun k hk ht => hp k ht hk, h.b, h.f.trans hf fun k hk => .inr (hn k hk)⟩
set_option maxRecDepth 8000 in
set_option maxHeartbeats 6400000 in
theorem copied_any (l : Lv) (x : LvG) (S Q : Nat → Prop) (w : World) (h : LvIn w S Q l x) (hb : SmallG l.st) (hp : PB l.p) :
    Calls Tryd.prog 85 #[.agg (encL l x).toArray] w fun e w' => ∃ x' m, e = .returned (.agg (encL l x').toArray) ∧ LvNew w w' l x' m := by
  have hf0 : Fr Nob w ((w.alloc (.cells (encL l x).toArray 121)).alloc (.cells #[.int .i64 0, .int .i64 0, .int .i64 0, .int .i64 0, .int .i64 0, .int .i64 0, .int .i64 0, .int .i64 0, .int .i64 0, .int .i64 0, .int .i64 0, .int .i64 0, .int .i64 0, .int .i64 0, .int .i64 0, .slice none 0 0, .int .i64 0, .int .i64 0, .int .i64 0, .int .i64 0, .int .i64 0, .int .i64 0, .int .i64 0, .int .i64 0, .slice none 0 0, .bool false, .pointer none] 121)) := ((Fr.refl Nob w).alloc _).alloc _
  have hB0 : Blk ((w.alloc (.cells (encL l x).toArray 121)).alloc (.cells #[.int .i64 0, .int .i64 0, .int .i64 0, .int .i64 0, .int .i64 0, .int .i64 0, .int .i64 0, .int .i64 0, .int .i64 0, .int .i64 0, .int .i64 0, .int .i64 0, .int .i64 0, .int .i64 0, .int .i64 0, .slice none 0 0, .int .i64 0, .int .i64 0, .int .i64 0, .int .i64 0, .int .i64 0, .int .i64 0, .int .i64 0, .int .i64 0, .slice none 0 0, .bool false, .pointer none] 121)) w.heap.size (encL l x).toArray 121 := (Blk.new w _ _).alloc _
  have HZ0 := Lib.hid (show Blk ((w.alloc (.cells (encL l x).toArray 121)).alloc (.cells #[.int .i64 0, .int .i64 0, .int .i64 0, .int .i64 0, .int .i64 0, .int .i64 0, .int .i64 0, .int .i64 0, .int .i64 0, .int .i64 0, .int .i64 0, .int .i64 0, .int .i64 0, .int .i64 0, .int .i64 0, .slice none 0 0, .int .i64 0, .int .i64 0, .int .i64 0, .int .i64 0, .int .i64 0, .int .i64 0, .int .i64 0, .int .i64 0, .slice none 0 0, .bool false, .pointer none] 121)) (w.heap.size + 1) #[.int .i64 0, .int .i64 0, .int .i64 0, .int .i64 0, .int .i64 0, .int .i64 0, .int .i64 0, .int .i64 0, .int .i64 0, .int .i64 0, .int .i64 0, .int .i64 0, .int .i64 0, .int .i64 0, .int .i64 0, .slice none 0 0, .int .i64 0, .int .i64 0, .int .i64 0, .int .i64 0, .int .i64 0, .int .i64 0, .int .i64 0, .int .i64 0, .slice none 0 0, .bool false, .pointer none] 121 from Blk.new1 w _ _ _)
  have HL := Lib.hid (h.fr (T := Nob) hf0 (fun _ _ hh => hh) fun _ _ hh => hh)
  have HF0 := Lib.hid hf0
  have HSG := Lib.hid hb
  have HPB := Lib.hid hp
  have hS : ∀ w', Fr Nob ((w.alloc (.cells (encL l x).toArray 121)).alloc (.cells #[.int .i64 0, .int .i64 0, .int .i64 0, .int .i64 0, .int .i64 0, .int .i64 0, .int .i64 0, .int .i64 0, .int .i64 0, .int .i64 0, .int .i64 0, .int .i64 0, .int .i64 0, .int .i64 0, .int .i64 0, .slice none 0 0, .int .i64 0, .int .i64 0, .int .i64 0, .int .i64 0, .int .i64 0, .int .i64 0, .int .i64 0, .int .i64 0, .slice none 0 0, .bool false, .pointer none] 121)) w' → (fun w' => w'.rangeAt w.heap.size 0 (encG l.st x.dv x.cv) ∧ w'.cell? ⟨w.heap.size, 26, none⟩ = some (.pointer (some ⟨x.pg, 0, none⟩))) w' := fun w' hw' => by
    have hb := hB0.nob hw'
    exact ⟨hb.range 0 _ rfl, hb.cell 26⟩
  have HS := Lib.hid hS
  clear h hb hp hf0 hB0 hS
  go_enter Tryd.func85, Tryd.ntmps85
  go_wp2_with fail
  generalize (w.alloc (.cells (encL l x).toArray 121)).alloc (.cells #[.int .i64 0, .int .i64 0, .int .i64 0, .int .i64 0, .int .i64 0, .int .i64 0, .int .i64 0, .int .i64 0, .int .i64 0, .int .i64 0, .int .i64 0, .int .i64 0, .int .i64 0, .int .i64 0, .int .i64 0, .slice none 0 0, .int .i64 0, .int .i64 0, .int .i64 0, .int .i64 0, .int .i64 0, .int .i64 0, .int .i64 0, .int .i64 0, .slice none 0 0, .bool false, .pointer none] 121) = wa at *
  refine wp_region_last' (ops := _) (o := _) (l := _) 7 rfl rfl rfl (fun w' => w'.rangeAt w.heap.size 0 (encG l.st x.dv x.cv) ∧ w'.cell? ⟨w.heap.size, 26, none⟩ = some (.pointer (some ⟨x.pg, 0, none⟩))) (by kernel_rfl) (by kernel_rfl) (HS.out _ (Fr.drew (Fr.refl Nob wa))) fun hH => ?_
  simp only [List.take_succ_cons, List.take_zero]
  refine wpAnyH_take (i := 0) (v := ?va1) rfl (by kernel_rfl) (by kernel_rfl) (by kernel_rfl) (fun _ _ _ h => h) (Or.inl ⟨by rfl, ?ha1⟩) hH ?ra1
  case ha1 => (intro w hSw; (try dsimp only at hSw); go_simp; (try with_reducible rfl))
  simp only [Act.put, List.getElem_toArray, List.getElem_cons_succ, List.getElem_cons_zero, List.setIfInBounds_toArray, List.set_cons_zero, List.set_cons_succ]
  refine wpAnyH_take (i := 1) (v := _) rfl (by kernel_rfl) (by kernel_rfl) (by kernel_rfl) (fun _ _ _ h => h) (yieldsIf_load_mid (by rfl) 79 (.tmp 3) rfl w.heap.size 0 rfl (encG l.st x.dv x.cv) _ (fun w hw => hw.1) Tryd.underlying79 rfl sizeG) hH ?_
  simp only [Act.put, List.getElem_toArray, List.getElem_cons_succ, List.getElem_cons_zero, List.setIfInBounds_toArray, List.set_cons_zero, List.set_cons_succ]
  refine wpAnyH_take (i := 3) (v := ?va3) rfl (by kernel_rfl) (by kernel_rfl) (by kernel_rfl) (fun _ _ _ h => h) (Or.inl ⟨by rfl, ?ha3⟩) hH ?ra3
  case ha3 => (intro w hSw; (try dsimp only at hSw); go_simp; (try with_reducible rfl))
  simp only [Act.put, List.getElem_toArray, List.getElem_cons_succ, List.getElem_cons_zero, List.setIfInBounds_toArray, List.set_cons_zero, List.set_cons_succ]
  refine wpAnyH_take (i := 4) (v := ?va4) rfl (by kernel_rfl) (by kernel_rfl) (by kernel_rfl) (fun _ _ _ h => h) (Or.inl ⟨by rfl, ?ha4⟩) hH ?ra4
  case ha4 => (intro w hSw; (try dsimp only at hSw); obtain ⟨_, hSw⟩ := hSw; go_simp; (try with_reducible rfl))
  simp only [Act.put, List.getElem_toArray, List.getElem_cons_succ, List.getElem_cons_zero, List.setIfInBounds_toArray, List.set_cons_zero, List.set_cons_succ]
  refine held_one 2 rfl (by kernel_rfl) rfl fun K hK => ?_
  replace hK := Lib.hid hK
  clear hH
  go_simp
  refine (own_any l.st x.dv x.cv _ _ (HL.out.g.nob (by repeat (first | exact Fr.refl _ _ | refine Fr.alloc ?_ _ | refine Fr.drew ?_))) HSG.out).mono ?_
  unfold gV
  simp only [encG]
  rintro e w1 ⟨dv, cv, rfl, hg, hf1⟩
  have N1 := Lib.hid (show Fr Nob wa w1 from Fr.trans0 (by repeat (first | exact Fr.refl _ _ | refine Fr.alloc ?_ _ | refine Fr.drew ?_)) hf1)
  have HG1 := Lib.hid (show GIn w1 (fun k => wa.heap.size ≤ k ∧ k < w1.heap.size) dv cv l.st from hg.mono fun k hk => ⟨Nat.le_trans (by simp) hk.1, hk.2⟩)
  obtain ⟨Ad, cd, rfl, _⟩ := hg.d.form
  obtain ⟨Ac, cc, rfl, _⟩ := hg.c.form
  clear hg hf1
  dsimp only
  have hH := HS.out w1 N1.out
  refine hK.out _ _ hH ?_
  clear hK K
  refine held_one 5 rfl (by kernel_rfl) rfl fun K hK => ?_
  replace hK := Lib.hid hK
  clear hH
  go_simp
  refine (copy_any x.pg x.pv l.p _ ((HL.out.p.nob N1.out).nob (by repeat (first | exact Fr.refl _ _ | refine Fr.alloc ?_ _ | refine Fr.drew ?_))) HPB.out).mono ?_
  rintro e w2 ⟨pg', pv', rfl, hp, hf2, hn2⟩
  have N2 := Lib.hid (show Fr Nob w1 w2 from Fr.trans0 (by repeat (first | exact Fr.refl _ _ | refine Fr.alloc ?_ _ | refine Fr.drew ?_)) hf2)
  have HP2 := Lib.hid hp
  have HN2 := Lib.hid (show ∀ k, ptB pg' pv' k → w1.heap.size ≤ k from fun k hk => Nat.le_trans (by simp) (hn2 k hk))
  have HZ2 := Lib.hid (HZ0.out.nob (N1.out.trans0 N2.out))
  clear hp hf2 hn2
  dsimp only
  have hH := HS.out w2 (N1.out.trans0 N2.out)
  refine hK.out _ _ hH ?_
  clear hK K
  refine wpAnyH_take (i := 6) (v := ?va7) rfl (by kernel_rfl) (by kernel_rfl) (by kernel_rfl) (fun _ _ _ h => h) (Or.inl ⟨by rfl, ?ha7⟩) hH ?ra7
  case ha7 => (intro w hSw; (try dsimp only at hSw); go_simp; (try with_reducible rfl))
  simp only [Act.put, List.getElem_toArray, List.getElem_cons_succ, List.getElem_cons_zero, List.setIfInBounds_toArray, List.set_cons_zero, List.set_cons_succ]
  refine wpAnyH_done (by kernel_rfl) ?_ _
  clear hH
  simp only [LastQ, List.getElem_cons_succ, List.getElem_cons_zero]
  refine wp_putAt 121 (.tmp 2) (.tmp 9) rfl (w.heap.size + 1) 0 (encL l ⟨.slice Ad l.st.dash.length cd, .slice Ac l.st.clips.length cc, pv', pg'⟩) (by rfl) (by rfl) 121 _ HZ2.out (Nat.le_refl 27) sizeL (encL_one _ _ ⟨_, _, _, rfl⟩ ⟨_, _, _, rfl⟩) ?_
  intro w3 hb3 hf3
  rw [over_all #[.int .i64 0, .int .i64 0, .int .i64 0, .int .i64 0, .int .i64 0, .int .i64 0, .int .i64 0, .int .i64 0, .int .i64 0, .int .i64 0, .int .i64 0, .int .i64 0, .int .i64 0, .int .i64 0, .int .i64 0, .slice none 0 0, .int .i64 0, .int .i64 0, .int .i64 0, .int .i64 0, .int .i64 0, .int .i64 0, .int .i64 0, .int .i64 0, .slice none 0 0, .bool false, .pointer none] (encL l ⟨.slice Ad l.st.dash.length cd, .slice Ac l.st.clips.length cc, pv', pg'⟩) rfl] at hb3
  have HB3 := Lib.hid hb3
  have H3 := Lib.hid hf3
  clear hb3 hf3
  go_wp2_with fail
  have z1 := HF0.out.size
  have z2 := N1.out.size
  have z3 := N2.out.size
  have z4 := H3.out.size
  have z5 := HZ0.out.lt
  refine bodyPost_ret (results_cl rfl _ _ (w.heap.size + 1) 121 _ _ (by rfl) HB3.out Tryd.underlying121 rfl sizeL) rfl ⟨⟨.slice Ad l.st.dash.length cd, .slice Ac l.st.clips.length cc, pv', pg'⟩, w1.heap.size, rfl, by omega, by omega, ?_, ?_, ?_, ?_⟩
  · refine ((HG1.out.nob N2.out).fr H3.out fun k hk e => ?_).mono fun k hk => ⟨by have := hk.1; omega, hk.2⟩
    have := hk.1; subst e; omega
  · exact HP2.out.fr H3.out fun k hk e => by have := HN2.out k hk; subst e; omega
  · exact HN2.out
  · exact ((HF0.out.trans0 N1.out).trans0 N2.out).trans H3.out fun k hk => .inr (by rw [hk]; omega)
end Go.Proofs.YtkkejjfmidgciaaDoor
/- The walks of slices.ContainsFunc over numbers, of check, shape. -/
namespace Go.Proofs.YtkkejjfmidgciaaDoor
open Go.RowKit
set_option linter.unusedVariables false
set_option linter.unusedSimpArgs false
/-- A function of a number that answers one bool. -/
def AsksI (n : Nat) (P : Int → Bool) : Prop := ∀ (p : Int) (w : World), Calls Tryd.prog n #[.int .i64 p] w fun e w' => e = .returned (.bool (P p)) ∧ w = w'
theorem anyI_none {l : List Int} {P : Int → Bool} {k : Nat} (h : ∀ j (hj : j < l.length), j < k → P l[j] = false) (hk : l.length ≤ k) : l.any P = false := by
  rw [List.any_eq_false]
  intro x hx
  obtain ⟨i, hi, rfl⟩ := List.mem_iff_getElem.1 hx
  rw [h i hi (by omega)]; simp
theorem anyI_some {l : List Int} {P : Int → Bool} {k : Nat} (hk : k < l.length) (h : P l[k] = true) : l.any P = true := by
  rw [List.any_eq_true]; exact ⟨_, List.getElem_mem hk, h⟩
theorem RowIn.int {w : World} {S : Nat → Prop} {v : Value} {l : List Int} (h : RowIn w S 1 v l.length (ints l)) (hn : 0 < l.length) :
    ∃ b off cap, v = .slice (some ⟨b, off, none⟩) l.length cap ∧ l.length ≤ cap ∧ cap ≤ 9223372036854775807 ∧ S b ∧ ∀ k (hk : k < l.length), w.cell? ⟨b, off + k, none⟩ = some (.int .i64 l[k]) := by
  obtain ⟨b, off, cap, hv, h1, h2, hS, hc⟩ := h.pos (by rw [ints_len]; omega)
  exact ⟨b, off, cap, hv, h1, h2, hS, fun k hk => hc k _ (ints_at hk)⟩
set_option maxHeartbeats 400000 in
theorem indexi_any (n : Nat) (P : Int → Bool) (hn : n = 130 ∨ n = 116) (hP : AsksI n P) (v : Value) (l : List Int) (S : Nat → Prop) (w : World) (h : RowIn w S 1 v l.length (ints l)) :
    Calls Tryd.prog 140 #[v, .func (.func n) #[] #[]] w fun e w' => ∃ r : Int, e = .returned (.int .i64 r) ∧ -1 ≤ r ∧ r ≤ 9223372036854775807 ∧ decide (0 ≤ r) = l.any P ∧ w = w' := by
  have HP := Lib.hid hP
  clear hP
  by_cases h0 : l.length = 0
  · obtain rfl : l = [] := List.length_eq_zero_iff.1 h0
    obtain ⟨_, A, c, rfl, _⟩ := h
    go_enter Tryd.func140, Tryd.ntmps140
    go_wp2
    go_loopw [8] (fun q wr => q = .int .i64 0 ∧ wr = w) (fun _ _ => 0)
    case atStart => exact ⟨rfl, rfl⟩
    case round =>
      obtain ⟨rfl, rfl⟩ := hrel
      go_wp2
      go_ret
      exact ⟨-1, rfl, by omega, by omega, rfl, rfl⟩
  · obtain ⟨b, off, cap, rfl, h1, h2, _, hA⟩ := h.int (by omega)
    have HA := Lib.hid hA
    clear h hA
    go_enter Tryd.func140, Tryd.ntmps140
    go_wp2
    go_loopw [8] (fun q wr => ∃ k : Nat, k ≤ l.length ∧ q = .int .i64 k ∧ Hid (∀ j (hj : j < l.length), j < k → P l[j] = false) ∧ wr = w) (fun q _ => l.length - (intOf q).toNat)
    case atStart => exact ⟨0, by omega, rfl, fun j _ h => by omega, rfl⟩
    case round =>
      obtain ⟨k, hk, rfl, HT, rfl⟩ := hrel
      by_cases hlt : k < l.length
      · have a0 := HA.out k hlt
        have i1 : (k : Int) < l.length := by omega
        have step : ∀ w, Calls Tryd.prog n #[.int .i64 l[k]] w fun e w' => e = .returned (.bool (P l[k])) ∧ w = w' := fun w => HP.out l[k] w
        have HS := Lib.hid step
        clear step
        by_cases hp : P l[k]
        · have HA := Lib.hid (anyI_some hlt hp)
          rw [hp] at HS
          clear hp
          rcases hn with rfl | rfl
          all_goals
            go_wp2_with fail
            refine (HS.out _).mono ?_
            rintro e w1 ⟨rfl, rfl⟩
            go_wp2_with fail
            go_ret
            exact ⟨k, rfl, by omega, by omega, by rw [HA.out]; simp, rfl⟩
        · have hp' : P l[k] = false := by simpa using hp
          have HT2 := Lib.hid (show ∀ j (hj : j < l.length), j < k + 1 → P l[j] = false by
            intro j hj hjk
            rcases Nat.lt_or_ge j k with h | h
            · exact HT.out j hj h
            · obtain rfl : j = k := by omega
              exact hp')
          rw [hp'] at HS
          clear hp hp'
          rcases hn with rfl | rfl
          all_goals
            go_wp2_with fail
            refine (HS.out _).mono ?_
            rintro e w1 ⟨rfl, rfl⟩
            go_wp2_with fail
            go_roundw
            case rel => exact ⟨k + 1, by omega, by go_num, HT2, trivial⟩
            case measure => simp [intOf]; omega
      · have HA := Lib.hid (anyI_none HT.out (by omega))
        have hge : l.length ≤ k := by omega
        go_wp2
        go_ret
        exact ⟨-1, rfl, by omega, by omega, by rw [HA.out]; simp, rfl⟩
theorem conti_any (n : Nat) (P : Int → Bool) (hn : n = 130 ∨ n = 116) (hP : AsksI n P) (v : Value) (l : List Int) (S : Nat → Prop) (w : World) (h : RowIn w S 1 v l.length (ints l)) :
    Calls Tryd.prog 115 #[v, .func (.func n) #[] #[]] w fun e w' => e = .returned (.bool (l.any P)) ∧ w = w' := by
  have HI := Lib.hid (indexi_any n P hn hP v l S w h)
  obtain ⟨A, cap, rfl, _, _⟩ := h.form
  clear h hP
  go_enter Tryd.func115, Tryd.ntmps115
  go_wp2_with fail
  refine HI.out.mono ?_
  rintro e w1 ⟨r, rfl, hr1, hr2, hr, rfl⟩
  have HR := Lib.hid hr
  clear hr
  go_wp2_with fail
  go_ret
  exact ⟨ret_bool HR.out, rfl⟩
theorem asks_check : AsksI 130 fun n => !fitZ n := fun p w => by
  go_enter Tryd.func130, Tryd.ntmps130
  go_wp2_with fail
  refine (fix_fits p w).mono ?_
  rintro e w1 ⟨rfl, rfl⟩
  go_wp2_with fail
  go_ret
  exact ⟨rfl, rfl⟩
theorem asks_dash : AsksI 116 fun n => decide (n < 0) := fun p w => by
  go_enter Tryd.func116, Tryd.ntmps116
  go_wp2_with fail
  go_ret
  exact ⟨rfl, rfl⟩
theorem allI_any (l : List Int) : l.all fitZ = !l.any (fun n => !fitZ n) := by
  induction l with
  | nil => rfl
  | cons a r ih => rw [List.all_cons, List.any_cons, ih]; cases fitZ a <;> simp
def chkI (l : List Int) : Int := if l.all fitZ then 0 else 11
theorem check_none (A : Option Addr) (n c : Nat) (w : World) : Calls Tryd.prog 103 #[.pointer none, .slice A n c] w fun e w' => e = .returned (.int .i64 21) ∧ w = w' := by
  go_enter Tryd.func103, Tryd.ntmps103
  go_wp2
  go_ret
  exact ⟨rfl, rfl⟩
theorem check_any (g : Addr) (l : List Int) (v : Value) (S : Nat → Prop) (w : World) (h : RowIn w S 1 v l.length (ints l)) :
    Calls Tryd.prog 103 #[.pointer (some g), v] w fun e w' => e = .returned (.int .i64 (chkI l)) ∧ w = w' := by
  have HI := Lib.hid (conti_any 130 _ (.inl rfl) asks_check v l S w h)
  obtain ⟨A, cap, rfl, _, _⟩ := h.form
  clear h
  cases hb : l.all fitZ with
  | true =>
    have e1 : l.any (fun n => !fitZ n) = false := by have := allI_any l; rw [hb] at this; simpa using this.symm
    rw [e1] at HI
    rw [show chkI l = 0 by unfold chkI; rw [hb]; rfl]
    clear hb e1
    go_enter Tryd.func103, Tryd.ntmps103
    go_wp2_with fail
    refine HI.out.mono ?_
    rintro e w1 ⟨rfl, rfl⟩
    go_wp2_with fail
    go_ret
    exact ⟨rfl, rfl⟩
  | false =>
    have e1 : l.any (fun n => !fitZ n) = true := by have := allI_any l; rw [hb] at this; simpa using this.symm
    rw [e1] at HI
    rw [show chkI l = 11 by unfold chkI; rw [hb]; rfl]
    clear hb e1
    go_enter Tryd.func103, Tryd.ntmps103
    go_wp2_with fail
    refine HI.out.mono ?_
    rintro e w1 ⟨rfl, rfl⟩
    go_wp2_with fail
    go_ret
    exact ⟨rfl, rfl⟩
end Go.Proofs.YtkkejjfmidgciaaDoor
/- How states lie behind a change: labels anew, fields anew. No walk. -/
namespace Go.Proofs.YtkkejjfmidgciaaDoor
open Go.RowKit
set_option linter.unusedVariables false
set_option linter.unusedSimpArgs false
theorem LvIn.lab {w : World} {F F' : Nat → Prop} {lab lab' : Nat → Nat} {n : Nat} {l : Lv} {x : LvG} (h : LvIn w (fun k => F k ∧ lab k = 0) (fun k => F k ∧ lab k = n) l x) (hF : ∀ k, F k → k < w.heap.size → F' k) (hL : ∀ k, k < w.heap.size → lab' k = lab k) :
    LvIn w (fun k => F' k ∧ lab' k = 0) (fun k => F' k ∧ lab' k = n) l x :=
  h.lts.mono (fun k hk => ⟨hF k hk.1.1 hk.2, by rw [hL k hk.2]; exact hk.1.2⟩) fun k hk _ => ⟨hF k hk.1.1 hk.2, by rw [hL k hk.2]; exact hk.1.2⟩
/-- Blocks that are not there may be told anew. -/
theorem GsX.lab {w : World} {g : Nat} {F F' : Nat → Prop} {s : GS} {lab : Nat → Nat} {x : LvG} {sv : Value} {xs : List (Lv × LvG)} (h : GsX w g F s lab x sv xs) (lab' : Nat → Nat) (hF : ∀ k, F k → k < w.heap.size → F' k) (hL : ∀ k, k < w.heap.size → lab' k = lab k) :
    GsX w g F' s lab' x sv xs :=
  ⟨h.l, h.b, ⟨hF g h.g1.1 h.b.lt, by rw [hL g h.b.lt]; exact h.g1.2⟩, h.o, fun k hk => ⟨hF k (h.o1 k hk).1 (h.o.lt k hk), by rw [hL k (h.o.lt k hk)]; exact (h.o1 k hk).2⟩, h.c.lab hF hL, fun i hi => (h.s i hi).lab hF hL⟩
/-- The state that is has other fields. -/
theorem GsX.upd {w w' : World} {g : Nat} {F : Nat → Prop} {s : GS} {lab : Nat → Nat} {x : LvG} {sv : Value} {xs : List (Lv × LvG)} (h : GsX w g F s lab x sv xs) (st : Gst) (dv cv : Value)
    (hb : Blk w' g #[.int .i64 st.ctm.a, .int .i64 st.ctm.b, .int .i64 st.ctm.c, .int .i64 st.ctm.d, .int .i64 st.ctm.e, .int .i64 st.ctm.f, .int .i64 st.col.sp, .int .i64 st.col.p0, .int .i64 st.col.p1, .int .i64 st.col.p2, .int .i64 st.col.p3, .int .i64 st.width, .int .i64 st.cap, .int .i64 st.join, .int .i64 st.miter, dv, .int .i64 st.phase, .int .i64 st.font, .int .i64 st.fm.a, .int .i64 st.fm.b, .int .i64 st.fm.c, .int .i64 st.fm.d, .int .i64 st.fm.e, .int .i64 st.fm.f, cv, .bool st.dark, .pointer (some ⟨x.pg, 0, none⟩), .int .i64 s.most, .int .i64 s.segs, sv] 124) (hf : Fr (fun k => k = g) w w') (hG : GIn w' (fun k => F k ∧ lab k = 0) dv cv st) :
    GsX w' g F { s with cur := { s.cur with st := st } } lab { x with dv := dv, cv := cv } sv xs :=
  ⟨h.l, hb, h.g1, h.o.fr hf fun k hk e => h.o.ne h.b (by decide) k hk e, h.o1,
    ⟨hG, h.c.p.fr hf fun k hk e => by have := (h.c.b k hk).2; rw [e, h.g1.2] at this; omega, h.c.b⟩,
    fun i hi => (h.s i hi).fr hf (fun k hk e => by have := hk.2; rw [e, h.g1.2] at this; omega) fun k hk e => by have := hk.2; rw [e, h.g1.2] at this; omega⟩
/-- What is in memory of the state that is, once the states' block is written. -/
theorem GsX.gin {w w' : World} {g : Nat} {F : Nat → Prop} {s : GS} {lab : Nat → Nat} {x : LvG} {sv : Value} {xs : List (Lv × LvG)} (h : GsX w g F s lab x sv xs) (hf : Fr (fun k => k = g) w w') : GIn w' (fun k => F k ∧ lab k = 0) x.dv x.cv s.cur.st :=
  h.c.g.fr hf fun k hk e => by have := hk.2; rw [e, h.g1.2] at this; omega
/-- The path that is has gone a step. -/
theorem GsX.path {w w' : World} {g : Nat} {F : Nat → Prop} {s : GS} {lab : Nat → Nat} {x : LvG} {sv : Value} {xs : List (Lv × LvG)} (h : GsX w g F s lab x sv xs) (p' : PS) (ht : PthTo w x.pg x.pv p' w') : GsTo w g F { s with cur := { s.cur with p := p' } } w' := by
  obtain ⟨v', hp, hf, hv⟩ := ht
  have h2 := h.lab (F' := Ext F w w') (fun k => if k < w.heap.size then lab k else 2) (fun k hk _ => .inl hk) fun k hk => by simp [hk]
  have hfp : ∀ k, ptB x.pg x.pv k → (if k < w.heap.size then lab k else 2) = 2 := fun k hk => by rw [if_pos (h.c.p.lt k hk)]; exact (h.c.b k hk).2
  refine ⟨⟨_, { x with pv := v' }, sv, xs, h.l, h.b.fr hf fun hk => ?_, h2.g1, h.o.fr hf fun k hk hp => ?_, h2.o1, ⟨h2.c.g.fr hf fun k hk hp => ?_, hp, ?_⟩, fun i hi => (h2.s i hi).fr hf (fun k hk hp => ?_) fun k hk hp => ?_⟩, hf.mono fun k hk => (h.c.b k hk).1⟩
  · have := (h.c.b g hk).2; rw [h.g1.2] at this; omega
  · have := (h.c.b k hp).2; rw [(h.o1 k hk).2] at this; omega
  · have := hfp k hp; have h3 := hk.2; omega
  · rintro k (rfl | hk)
    · exact h2.c.b _ (.inl rfl)
    · rcases hv k hk with e | e
      · exact h2.c.b k (.inr e)
      · exact ⟨.inr ⟨e, hp.lt k (.inr hk)⟩, by simp; intro h; omega⟩
  · have := hfp k hp; have h3 := hk.2; omega
  · have := hfp k hp; have h3 := hk.2; omega
end Go.Proofs.YtkkejjfmidgciaaDoor
/- A level more is saved: how states lie then. No walk. -/
namespace Go.Proofs.YtkkejjfmidgciaaDoor
open Go.RowKit
set_option linter.unusedVariables false
set_option linter.unusedSimpArgs false
theorem encLs_append (a b : List (Lv × LvG)) : encLs (a ++ b) = encLs a ++ encLs b := by simp [encLs]
theorem encLs_one (a : Lv × LvG) : encLs [a] = encL a.1 a.2 := by simp [encLs]
theorem encL_len (l : Lv) (x : LvG) : (encL l x).length = 27 := rfl
theorem encLs_len (xs : List (Lv × LvG)) : (encLs xs).length = xs.length * 27 := by
  induction xs with
  | nil => rfl
  | cons a r ih => rw [show encLs (a :: r) = encL a.1 a.2 ++ encLs r from rfl, List.length_append, ih, encL_len, List.length_cons]; omega
theorem encLs_at (xs : List (Lv × LvG)) (k : Nat) (hk : k < xs.length) : ((encLs xs).drop (k * 27)).take 27 = encL xs[k].1 xs[k].2 := by
  induction xs generalizing k with
  | nil => simp at hk
  | cons a r ih =>
    rw [show encLs (a :: r) = encL a.1 a.2 ++ encLs r from rfl]
    cases k with
    | zero => rw [Nat.zero_mul, List.drop_zero, List.take_append_of_le_length (by rw [encL_len]; exact Nat.le_refl _), List.take_of_length_le (by rw [encL_len]; exact Nat.le_refl _)]; rfl
    | succ k =>
      rw [List.drop_append, List.drop_of_length_le (by rw [encL_len]; omega), encL_len, List.nil_append, show (k + 1) * 27 - 27 = k * 27 by omega]
      exact ih k (by simpa using hk)
theorem encLs_take (xs : List (Lv × LvG)) (k : Nat) (hk : k ≤ xs.length) : (encLs xs).take (k * 27) = encLs (xs.take k) := by
  conv => lhs; rw [← List.take_append_drop k xs, encLs_append]
  rw [List.take_append_of_le_length (by rw [encLs_len, List.length_take]; omega), List.take_of_length_le (by rw [encLs_len, List.length_take]; omega)]
theorem GsX.len {w : World} {g : Nat} {F : Nat → Prop} {s : GS} {lab : Nat → Nat} {x : LvG} {sv : Value} {xs : List (Lv × LvG)} (h : GsX w g F s lab x sv xs) : xs.length = s.saved.length := by rw [← h.l, List.length_map]
/-- The list of what is saved does not lie where the states do. -/
theorem GsX.ne {w : World} {g : Nat} {F : Nat → Prop} {s : GS} {lab : Nat → Nat} {x : LvG} {sv : Value} {xs : List (Lv × LvG)} (h : GsX w g F s lab x sv xs) : ¬ inB sv g := fun e => h.o.ne h.b (by decide) g e rfl
/-- One level more. -/
theorem GsX.push {w w1 w4 w5 : World} {g : Nat} {F : Nat → Prop} {s : GS} {lab : Nat → Nat} {x x' : LvG} {sv v' : Value} {xs : List (Lv × LvG)} {l : Lv} {m : Nat} (h : GsX w g F s lab x sv xs) (hN : LvNew w w1 l x' m) (o : Obj)
    (hf4 : Fr (inB sv) (w1.alloc o) w4) (hO : OwnS w4 121 27 v' (xs.length + 1) (encLs xs ++ encL l x')) (hat : v'.ownBlock = sv.ownBlock ∨ v'.ownBlock = some (w1.alloc o).heap.size) (hf5 : Fr (fun k => k = g) w4 w5)
    (hb : Blk w5 g #[.int .i64 s.cur.st.ctm.a, .int .i64 s.cur.st.ctm.b, .int .i64 s.cur.st.ctm.c, .int .i64 s.cur.st.ctm.d, .int .i64 s.cur.st.ctm.e, .int .i64 s.cur.st.ctm.f, .int .i64 s.cur.st.col.sp, .int .i64 s.cur.st.col.p0, .int .i64 s.cur.st.col.p1, .int .i64 s.cur.st.col.p2, .int .i64 s.cur.st.col.p3, .int .i64 s.cur.st.width, .int .i64 s.cur.st.cap, .int .i64 s.cur.st.join, .int .i64 s.cur.st.miter, x.dv, .int .i64 s.cur.st.phase, .int .i64 s.cur.st.font, .int .i64 s.cur.st.fm.a, .int .i64 s.cur.st.fm.b, .int .i64 s.cur.st.fm.c, .int .i64 s.cur.st.fm.d, .int .i64 s.cur.st.fm.e, .int .i64 s.cur.st.fm.f, x.cv, .bool s.cur.st.dark, .pointer (some ⟨x.pg, 0, none⟩), .int .i64 s.most, .int .i64 s.segs, v'] 124) : GsTo w g F { s with saved := s.saved ++ [l] } w5 := by
  have hfa : Fr Nob w (w1.alloc o) := hN.f.alloc _
  have hf5' : Fr (fun k => k = g ∨ inB sv k) w w5 := (hfa.mono (fun _ hh => hh.elim)).trans ((hf4.mono (T := fun k => k = g ∨ inB sv k) fun k hk => .inr hk).trans (hf5.mono (T := fun k => k = g ∨ inB sv k) fun k hk => .inl hk) fun k hk => .inl hk) fun k hk => .inl hk
  have h2 := h.lab (F' := Ext F w w5) (fun k => if k < w.heap.size then lab k else if k < m then 0 else if k < w1.heap.size then xs.length + 3 else 1) (fun k hk _ => .inl hk) fun k hk => by simp [hk]
  have hlt : ∀ k, k = g ∨ inB sv k → k < w.heap.size := fun k hk => hk.elim (fun e => e ▸ h.b.lt) fun e => h.o.lt k e
  have hlab : ∀ k, k = g ∨ inB sv k → (if k < w.heap.size then lab k else if k < m then 0 else if k < w1.heap.size then xs.length + 3 else 1) = 1 := fun k hk => by
    rw [if_pos (hlt k hk)]
    rcases hk with rfl | e
    · exact h.g1.2
    · exact (h.o1 k e).2
  have hz1 := hN.f.size
  have hz2 : (w1.alloc o).heap.size = w1.heap.size + 1 := by simp
  have hz4 := hf4.size
  have hz5 := hf5.size
  have hlo := hN.lo
  have hhi := hN.hi
  refine ⟨⟨fun k => if k < w.heap.size then lab k else if k < m then 0 else if k < w1.heap.size then xs.length + 3 else 1, x, v', xs ++ [(l, x')], by simp [h.l], hb, h2.g1, ?_, ?_, ?_, ?_⟩, hf5'.mono ?_⟩
  · have hgv : ∀ k, v'.ownBlock = some k → ¬ k = g := fun k hk e => by
      rcases hat with e1 | e1
      · rw [e1] at hk; exact h.ne (e ▸ hk)
      · rw [e1] at hk; cases hk; have := h.b.lt; omega
    have := hO.fr hf5 hgv
    rw [encLs_append, encLs_one, List.length_append]
    exact this
  · intro k hk
    rcases hat with e1 | e1
    · rw [e1] at hk; exact ⟨.inl (h.o1 k hk).1, hlab k (.inr hk)⟩
    · have hk0 := hk
      rw [e1] at hk; cases hk
      refine ⟨.inr ⟨by omega, by have := hO.lt _ hk0; omega⟩, ?_⟩
      rw [if_neg (by omega), if_neg (by omega), if_neg (by omega)]
  · refine h2.c.fr hf5' (fun k hk e => ?_) fun k hk e => ?_
    · have := hk.2; rw [hlab k e] at this; omega
    · have := hk.2; rw [hlab k e] at this; omega
  · intro i hi
    rw [List.length_append] at hi
    by_cases hix : i < xs.length
    · rw [List.getElem_append_left hix]
      refine (h2.s i hix).fr hf5' (fun k hk e => ?_) fun k hk e => ?_
      · have := hk.2; rw [hlab k e] at this; omega
      · have := hk.2; rw [hlab k e] at this; omega
    · obtain rfl : i = xs.length := by simp at hi; omega
      rw [List.getElem_append_right (Nat.le_refl _)]
      simp only [Nat.sub_self, List.getElem_cons_zero]
      have hfz : Fr (fun k => k = g ∨ inB sv k) w1 w5 := ((Fr.refl (fun k => k = g ∨ inB sv k) w1).alloc o).trans ((hf4.mono (T := fun k => k = g ∨ inB sv k) fun k hk => .inr hk).trans (hf5.mono (T := fun k => k = g ∨ inB sv k) fun k hk => .inl hk) fun k hk => .inl hk) fun k hk => .inl hk
      have hp := hN.p.lt
      refine ⟨(hN.g.fr hfz fun k hk e => ?_).mono fun k hk => ⟨.inr ⟨hk.1, by omega⟩, ?_⟩, hN.p.fr hfz fun k hk e => ?_, fun k hk => ⟨.inr ⟨?_, ?_⟩, ?_⟩⟩
      · have := hlt k e; omega
      · rw [if_neg (by omega), if_pos hk.2]
      · have := hlt k e; have := hN.b k hk; omega
      · have := hN.b k hk; omega
      · have := hp k hk; omega
      · have h1 := hN.b k hk; have h3 := hp k hk
        rw [if_neg (by omega), if_neg (by omega), if_pos (by omega)]
  · intro k hk
    rcases hk with rfl | e
    · exact h.g1.1
    · exact (h.o1 k e).1
end Go.Proofs.YtkkejjfmidgciaaDoor
/- The walk of Save. -/
namespace Go.Proofs.YtkkejjfmidgciaaDoor
open Go.RowKit
set_option linter.unusedVariables false
set_option linter.unusedSimpArgs false
theorem infoLevel : (Tryd.prog.info? 121).map (fun i => (i.zero, i.size, i.bytes)) = some (some (.agg #[.int .i64 0, .int .i64 0, .int .i64 0, .int .i64 0, .int .i64 0, .int .i64 0, .int .i64 0, .int .i64 0, .int .i64 0, .int .i64 0, .int .i64 0, .int .i64 0, .int .i64 0, .int .i64 0, .int .i64 0, .slice none 0 0, .int .i64 0, .int .i64 0, .int .i64 0, .int .i64 0, .int .i64 0, .int .i64 0, .int .i64 0, .int .i64 0, .slice none 0 0, .bool false, .pointer none]), 27, 248) := by kernel_rfl
theorem gsave_none (w : World) : Calls Tryd.prog 36 #[.pointer none] w fun e w' => e = .returned (.int .i64 21) ∧ w = w' := by
  go_enter Tryd.func36, Tryd.ntmps36
  go_wp2
  go_ret
  exact ⟨rfl, rfl⟩
theorem gsave_over (g : Nat) (F : Nat → Prop) (s : GS) (w : World) (h : Gs w g F s) (hb : SmallS s) (ho : s.most ≤ s.saved.length) :
    Calls Tryd.prog 36 #[.pointer (some ⟨g, 0, none⟩)] w fun e w' => e = .returned (.int .i64 9) ∧ Fr Nob w w' := by
  obtain ⟨lab, x, sv, xs, h⟩ := h
  have c29 : w.cell? ⟨g, 29, none⟩ = some sv := h.cells.cell 29
  have c27 : w.cell? ⟨g, 27, none⟩ = some (.int .i64 s.most) := h.cells.cell 27
  obtain ⟨A, cap, rfl, _, _⟩ := h.o.form
  have hn := h.len
  rw [hn] at c29
  have hdec : decide (s.most ≤ (s.saved.length : Int)) = true := by simpa using ho
  have hbn := hb.n
  have hbm := hb.m
  clear h hn hb
  go_enter Tryd.func36, Tryd.ntmps36
  go_wp2
  go_quiet (fail)
  go_wp2
  go_ret
  exact ⟨rfl, (Fr.refl Nob w).drewN _⟩
set_option maxRecDepth 8000 in
set_option maxHeartbeats 6400000 in
theorem gsave_in (g : Nat) (F : Nat → Prop) (s : GS) (w : World) (h : Gs w g F s) (hb : SmallS s) (ho : ¬ s.most ≤ s.saved.length) :
    Calls Tryd.prog 36 #[.pointer (some ⟨g, 0, none⟩)] w fun e w' => e = .returned (.int .i64 0) ∧ GsTo w g F { s with saved := s.saved ++ [s.cur] } w' := by
  obtain ⟨i0, hi, hz0, hz1, hz2⟩ := info_parts infoLevel
  replace hi := Lib.hid hi
  replace hz0 := Lib.hid hz0
  replace hz1 := Lib.hid hz1
  replace hz2 := Lib.hid hz2
  obtain ⟨lab, x, sv, xs, h⟩ := h
  have c29 : w.cell? ⟨g, 29, none⟩ = some sv := h.cells.cell 29
  have c27 : w.cell? ⟨g, 27, none⟩ = some (.int .i64 s.most) := h.cells.cell 27
  obtain ⟨A, cap, hsv, _, _⟩ := h.o.form
  subst hsv
  have hn := h.len
  have hdec : decide (s.most ≤ (xs.length : Int)) = false := by rw [hn]; simpa using ho
  have hbn := hb.n
  rw [← hn] at hbn
  have hbm := hb.m
  have HC := Lib.hid h.c
  have HSG := Lib.hid hb.c
  have HPB := Lib.hid hb.p
  have HO := Lib.hid h.o
  have HH := Lib.hid h
  have hS : ∀ w', Fr (inB (.slice A xs.length cap)) w w' → (fun w' => w'.cell? ⟨g, 29, none⟩ = some (.slice A xs.length cap) ∧ w'.rangeAt g 0 (encL s.cur x)) w' := fun w' hw' => by
    have hb := h.cells.fr hw' h.ne
    exact ⟨hb.cell 29, hb.range 0 _ rfl⟩
  have HS := Lib.hid hS
  clear h hn hb hS
  go_enter Tryd.func36, Tryd.ntmps36
  go_wp2
  go_quiet (fail)
  go_wp2_with fail
--REGION
  refine wp_region_last' (ops := _) (o := _) (l := _) 14 rfl rfl rfl (fun w' => w'.cell? ⟨g, 29, none⟩ = some (.slice A xs.length cap) ∧ w'.rangeAt g 0 (encL s.cur x)) (by kernel_rfl) (by kernel_rfl) (HS.out _ (Fr.drew (Fr.drewN (Fr.refl _ w) _))) fun hH => ?_
  simp only [List.take_succ_cons, List.take_zero]
  refine wpAnyH_take (i := 0) (v := ?va1) rfl (by kernel_rfl) (by kernel_rfl) (by kernel_rfl) (fun _ _ _ h => h) (Or.inl ⟨by rfl, ?ha1⟩) hH ?ra1
  case ha1 => (intro w hSw; (try dsimp only at hSw); clear hSw; go_simp; (try with_reducible rfl))
  simp only [Act.put, List.getElem_toArray, List.getElem_cons_succ, List.getElem_cons_zero, List.setIfInBounds_toArray, List.set_cons_zero, List.set_cons_succ]
  refine wpAnyH_take (i := 1) (v := ?va2) rfl (by kernel_rfl) (by kernel_rfl) (by kernel_rfl) (fun _ _ _ h => h) (Or.inl ⟨by rfl, ?ha2⟩) hH ?ra2
  case ha2 => (intro w hSw; (try dsimp only at hSw); clear hSw; go_simp; (try with_reducible rfl))
  simp only [Act.put, List.getElem_toArray, List.getElem_cons_succ, List.getElem_cons_zero, List.setIfInBounds_toArray, List.set_cons_zero, List.set_cons_succ]
  refine wpAnyH_take (i := 2) (v := ?va3) rfl (by kernel_rfl) (by kernel_rfl) (by kernel_rfl) (fun _ _ _ h => h) (Or.inl ⟨by rfl, ?ha3⟩) hH ?ra3
  case ha3 => (intro w hSw; (try dsimp only at hSw); clear hSw; go_simp; (try with_reducible rfl))
  simp only [Act.put, List.getElem_toArray, List.getElem_cons_succ, List.getElem_cons_zero, List.setIfInBounds_toArray, List.set_cons_zero, List.set_cons_succ]
  refine wpAnyH_take (i := 3) (v := ?va4) rfl (by kernel_rfl) (by kernel_rfl) (by kernel_rfl) (fun _ _ _ h => h) (Or.inl ⟨by rfl, ?ha4⟩) hH ?ra4
  case ha4 => (intro w hSw; (try dsimp only at hSw); clear hSw; go_simp; (try with_reducible rfl))
  simp only [Act.put, List.getElem_toArray, List.getElem_cons_succ, List.getElem_cons_zero, List.setIfInBounds_toArray, List.set_cons_zero, List.set_cons_succ]
  refine wpAnyH_take (i := 4) (v := ?va5) rfl (by kernel_rfl) (by kernel_rfl) (by kernel_rfl) (fun _ _ _ h => h) (Or.inl ⟨by rfl, ?ha5⟩) hH ?ra5
  case ha5 => (intro w hSw; (try dsimp only at hSw); obtain ⟨hSw, _⟩ := hSw; go_simp; (try with_reducible rfl))
  simp only [Act.put, List.getElem_toArray, List.getElem_cons_succ, List.getElem_cons_zero, List.setIfInBounds_toArray, List.set_cons_zero, List.set_cons_succ]
  refine wpAnyH_take (i := 5) (v := ?va6) rfl (by kernel_rfl) (by kernel_rfl) (by kernel_rfl) (fun _ _ _ h => h) (Or.inl ⟨by rfl, ?ha6⟩) hH ?ra6
  case ha6 => (intro w hSw; (try dsimp only at hSw); clear hSw; go_simp; (try with_reducible rfl))
  simp only [Act.put, List.getElem_toArray, List.getElem_cons_succ, List.getElem_cons_zero, List.setIfInBounds_toArray, List.set_cons_zero, List.set_cons_succ]
  refine wpAnyH_take (i := 6) (v := ?va7) rfl (by kernel_rfl) (by kernel_rfl) (by kernel_rfl) (fun _ _ _ h => h) (Or.inl ⟨by rfl, ?ha7⟩) hH ?ra7
  case ha7 => (intro w hSw; (try dsimp only at hSw); clear hSw; go_simp; (try with_reducible rfl))
  simp only [Act.put, List.getElem_toArray, List.getElem_cons_succ, List.getElem_cons_zero, List.setIfInBounds_toArray, List.set_cons_zero, List.set_cons_succ]
  refine wpAnyH_take (i := 7) (v := ?va8) rfl (by kernel_rfl) (by kernel_rfl) (by kernel_rfl) (fun _ _ _ h => h) (Or.inl ⟨by rfl, ?ha8⟩) hH ?ra8
  case ha8 => (intro w hSw; (try dsimp only at hSw); clear hSw; go_simp; (try with_reducible rfl))
  simp only [Act.put, List.getElem_toArray, List.getElem_cons_succ, List.getElem_cons_zero, List.setIfInBounds_toArray, List.set_cons_zero, List.set_cons_succ]
  refine wpAnyH_take (i := 8) (v := _) rfl (by kernel_rfl) (by kernel_rfl) (by kernel_rfl) (fun _ _ _ h => h) (yieldsIf_load_mid (by rfl) 121 (.tmp 24) rfl g 0 rfl (encL s.cur x) _ (fun w hw => hw.2) Tryd.underlying121 rfl sizeL) hH ?_
  simp only [Act.put, List.getElem_toArray, List.getElem_cons_succ, List.getElem_cons_zero, List.setIfInBounds_toArray, List.set_cons_zero, List.set_cons_succ]
  refine held_one 9 rfl (by kernel_rfl) rfl fun K hK => ?_
  replace hK := Lib.hid hK
  clear hH
  go_simp
  refine (copied_any s.cur x _ _ _ (HC.out.fr (T := Nob) (by repeat (first | exact Fr.refl _ _ | refine Fr.alloc ?_ _ | refine Fr.drew ?_ | refine Fr.drewN ?_ _)) (fun _ _ hh => hh) fun _ _ hh => hh) HSG.out HPB.out).mono ?_
  unfold encL
  simp only [encG, List.cons_append, List.nil_append]
  rintro e w1 ⟨x', m, rfl, hn⟩
  have HN := Lib.hid (show LvNew w w1 s.cur x' m from hn.after (by repeat (first | exact Fr.refl _ _ | refine Fr.alloc ?_ _ | refine Fr.drew ?_ | refine Fr.drewN ?_ _)))
  obtain ⟨Ad, cd, hdv, _⟩ := hn.g.d.form
  obtain ⟨Ac, cc, hcv, _⟩ := hn.g.c.form
  have HONE := Lib.hid (encL_one s.cur x' ⟨_, _, _, hdv⟩ ⟨_, _, _, hcv⟩)
  clear hn hdv hcv
  dsimp only
  have hH := HS.out w1 (HN.out.f.mono fun _ hh => hh.elim)
  refine hK.out _ _ hH ?_
  clear hK K
  refine held_one 10 rfl (by kernel_rfl) rfl fun K hK => ?_
  replace hK := Lib.hid hK
  clear hH
  go_simp
  have hH := HS.out (w1.alloc (.cells (encL s.cur x').toArray 121)) ((HN.out.f.alloc _).mono fun _ hh => hh.elim)
  refine hK.out _ _ hH ?_
  clear hK K
  refine held_one 11 rfl (by kernel_rfl) rfl fun K hK => ?_
  replace hK := Lib.hid hK
  clear hH
  refine wp_app (.tmp 21) (.tmp 27) 122 rfl 121 i0 _ 27 248 Tryd.underlying122 hi.out hz0.out hz1.out hz2.out rfl (by decide) _ xs.length (encLs xs) (by rfl) (HO.out.nob (HN.out.f.alloc _)) _ _ 1 (encL s.cur x') (by rfl) ((Blk.new w1 (encL s.cur x').toArray 121).row rfl (by decide)) HONE.out (by unfold maxLen; omega) (by omega) ?_
  intro v' w4 hown hf4 hat hno
  have HO4 := Lib.hid hown
  have HF4 := Lib.hid hf4
  have HAT := Lib.hid hat
  obtain ⟨A4, cap4, rfl, _, _⟩ := hown.form
  clear hown hf4 hat hno
  have hH := HS.out w4 (((HN.out.f.alloc _).mono fun _ hh => hh.elim).trans HF4.out fun k hk => .inl hk)
  refine hK.out _ _ hH ?_
  simp only [Act.put, List.getElem_toArray, List.getElem_cons_succ, List.getElem_cons_zero, List.setIfInBounds_toArray, List.set_cons_zero, List.set_cons_succ]
  clear hK K
  refine wpAnyH_take (i := 12) (v := ?va13) rfl (by kernel_rfl) (by kernel_rfl) (by kernel_rfl) (fun _ _ _ h => h) (Or.inl ⟨by rfl, ?ha13⟩) hH ?ra13
  case ha13 => (intro w hSw; (try dsimp only at hSw); go_simp; (try with_reducible rfl))
  simp only [Act.put, List.getElem_toArray, List.getElem_cons_succ, List.getElem_cons_zero, List.setIfInBounds_toArray, List.set_cons_zero, List.set_cons_succ]
  refine wpAnyH_take (i := 13) (v := ?va14) rfl (by kernel_rfl) (by kernel_rfl) (by kernel_rfl) (fun _ _ _ h => h) (Or.inl ⟨by rfl, ?ha14⟩) hH ?ra14
  case ha14 => (intro w hSw; (try dsimp only at hSw); go_simp; (try with_reducible rfl))
  simp only [Act.put, List.getElem_toArray, List.getElem_cons_succ, List.getElem_cons_zero, List.setIfInBounds_toArray, List.set_cons_zero, List.set_cons_succ]
  refine wpAnyH_done (by kernel_rfl) ?_ _
  clear hH
  simp only [LastQ, List.getElem_cons_succ, List.getElem_cons_zero]
--END
  have hb4 := (HH.out.cells.nob (HN.out.f.alloc (.cells (encL s.cur x').toArray 121))).fr HF4.out HH.out.ne
  have k4 := hb4.cell 29
  have q4 := hb4.free 29
  simp only [List.getElem?_toArray, List.getElem?_cons_succ, List.getElem?_cons_zero] at k4
  have HB4 := Lib.hid hb4
  clear hb4
  go_simp
  go_wp2
  go_ret
  exact ⟨rfl, HH.out.push HN.out _ HF4.out HO4.out HAT.out ((Fr.refl (fun k => k = g) w4).setCell (p := ⟨g, 29, none⟩) (.inl rfl) _) (HB4.out.set 29 _)⟩
end Go.Proofs.YtkkejjfmidgciaaDoor
