/-
  Frames with letters; a statement and what follows it; parts of a function's code. No program, no conditions.
-/
import Derived.Test.YtdkgbakapinidaaBase
import Derived.Deep.CutBlock
namespace Go.Proofs.Ytdkgbakapinidaa
open Go.RowKit
set_option linter.unusedVariables false
set_option linter.unusedSimpArgs false
theorem arr_range (t : Array Value) (n : Nat) (h : t.size = n) : t = ((List.range n).map fun i => t.getD i undef).toArray := by
  subst h
  apply Array.ext (by simp)
  intro i h1 h2
  simp [h1]
theorem wp_then {P : Program} {s : Code} {R K : Act → World → Prop} {Q' : Exit → Act → World → Prop} {a : Act} {w : World} (h : s.wp P (Exit.then R Q') a w) (rest : ∀ a' w', R a' w' → K a' w') : s.wp P (Exit.then K Q') a w := by
  refine wp_mono h ?_
  intro e a' w' hq
  cases e with
  | normal => exact rest _ _ hq
  | exit id => exact hq
  | goto l => exact hq
  | ret => exact hq
  | panic v => exact hq
  | outgrown => exact hq
/-- No way out but the end. -/
def NoQ : Exit → Act → World → Prop := fun _ _ _ => False
theorem wp_only {P : Program} {s : Code} {R K : Act → World → Prop} {Q' : Exit → Act → World → Prop} {a : Act} {w : World} (h : s.wp P (Exit.then R NoQ) a w) (rest : ∀ a' w', R a' w' → K a' w') : s.wp P (Exit.then K Q') a w := by
  refine wp_mono h ?_
  intro e a' w' hq
  cases e with
  | normal => exact rest _ _ hq
  | exit id => exact (hq : False).elim
  | goto l => exact (hq : False).elim
  | ret => exact (hq : False).elim
  | panic v => exact (hq : False).elim
  | outgrown => exact (hq : False).elim
def firstLoop : Code → Option Code
  | .loop c => some c
  | .seq a b => match firstLoop a with
    | some c => some c
    | none => firstLoop b
  | .block _ c => firstLoop c
  | .scope c => firstLoop c
  | .cond _ a b => match firstLoop a with
    | some c => some c
    | none => firstLoop b
  | _ => none
def blockOf (n : Nat) : Code → Option Code
  | .loop c => blockOf n c
  | .seq a b => match blockOf n a with
    | some c => some c
    | none => blockOf n b
  | .block m c => if m = n then some (.block m c) else blockOf n c
  | .scope c => blockOf n c
  | .cond _ a b => match blockOf n a with
    | some c => some c
    | none => blockOf n b
  | _ => none
end Go.Proofs.Ytdkgbakapinidaa
