/-
  The walk of the path's Copy.
-/
import Derived.Test.YtkkejjfmidgciaaDoorQ0
import Derived.Deep.RegionHeld3
namespace Go.Proofs.YtkkejjfmidgciaaDoor
open Go.RowKit
set_option linter.unusedVariables false
set_option linter.unusedSimpArgs false
set_option maxRecDepth 8000 in
set_option maxHeartbeats 1600000 in
theorem copy_any (g : Nat) (v : Value) (p : PS) (w : World) (h : Pth w g v p) (hb : PB p) :
    Calls Tryd.prog 90 #[.pointer (some ⟨g, 0, none⟩)] w fun e w' => ∃ g' v', e = .returned (.pointer (some ⟨g', 0, none⟩)) ∧ Pth w' g' v' p ∧ Fr Nob w w' ∧ ∀ k, ptB g' v' k → w.heap.size ≤ k := by
  have hS : ∀ w', Fr Nob w w' → w'.cell? ⟨g, 0, none⟩ = some (.int .i64 p.most) ∧ w'.cell? ⟨g, 1, none⟩ = some v ∧ w'.cell? ⟨g, 2, none⟩ = some (.int .i64 p.start.x) ∧ w'.cell? ⟨g, 3, none⟩ = some (.int .i64 p.start.y) ∧ w'.cell? ⟨g, 4, none⟩ = some (.int .i64 p.now.x) ∧ w'.cell? ⟨g, 5, none⟩ = some (.int .i64 p.now.y) := fun w' hw' => by
    have hc := (h.nob hw').cells
    exact ⟨hc.c0, hc.c1, hc.c2, hc.c3, hc.c4, hc.c5⟩
  have HS := Lib.hid hS
  have HH := Lib.hid h
  have hl := hb.len
  obtain ⟨A, cap, rfl, h1, h2⟩ := h.form
  clear h hb hS
  go_enter Tryd.func90, Tryd.ntmps90
  go_wp2_with fail
  obtain ⟨c0, c1, c2, c3, c4, c5⟩ := HS.out w (Fr.refl _ _)
  go_region_held3 (fun w' => w'.cell? ⟨g, 0, none⟩ = some (.int .i64 p.most) ∧ w'.cell? ⟨g, 1, none⟩ = some (.slice A p.list.length cap) ∧ w'.cell? ⟨g, 2, none⟩ = some (.int .i64 p.start.x) ∧ w'.cell? ⟨g, 3, none⟩ = some (.int .i64 p.start.y) ∧ w'.cell? ⟨g, 4, none⟩ = some (.int .i64 p.now.x) ∧ w'.cell? ⟨g, 5, none⟩ = some (.int .i64 p.now.y))
    ((refine HS.out _ ?_; (repeat (first | exact Fr.refl _ _ | exact H1.out | refine Fr.alloc ?_ _ | refine Fr.drew ?_)); done))
    ((go_at_call 84
      refine (clone_any _ p.list _ _ (HH.out.2.row.fr (show Fr Nob w _ by repeat (first | exact Fr.refl _ _ | refine Fr.alloc ?_ _ | refine Fr.drew ?_)) fun _ _ hh => hh) (by omega)).mono ?_
      rintro e w1 ⟨vo, rfl, ho, hf, hn⟩
      have H1 := Lib.hid (show Fr Nob w w1 from Fr.trans0 (by repeat (first | exact Fr.refl _ _ | refine Fr.alloc ?_ _ | refine Fr.drew ?_)) hf)
      have HO := Lib.hid ho
      have HN := Lib.hid (show NewV w vo from hn.le (by simp))
      obtain ⟨A1, cap1, rfl, _, _⟩ := ho.form
      clear ho hf hn))
  go_wp2_with fail
  go_ret
  refine ⟨_, _, rfl, ⟨Blk.new w1 _ _, HO.out.nob ((Fr.refl Nob w1).alloc _)⟩, H1.out.alloc _, ?_⟩
  rintro k (rfl | hk)
  · exact H1.out.size
  · exact HN.out k hk
end Go.Proofs.YtkkejjfmidgciaaDoor
