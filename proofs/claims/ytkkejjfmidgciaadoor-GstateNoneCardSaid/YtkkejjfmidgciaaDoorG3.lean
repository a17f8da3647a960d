/-
  The walks of slices.Clone of numbers, of own.
-/
import Derived.Test.YtkkejjfmidgciaaDoorG2
import Derived.Deep.RegionHeld3
import Derived.Deep.CutBlock
namespace Go.Proofs.YtkkejjfmidgciaaDoor
open Go.RowKit
set_option linter.unusedVariables false
set_option linter.unusedSimpArgs false
theorem infoInt : (Tryd.prog.info? 3).map (fun i => (i.zero, i.size, i.bytes)) = some (some (.int .i64 0), 1, 8) := by kernel_rfl
theorem infoClip : (Tryd.prog.info? 93).map (fun i => (i.zero, i.size, i.bytes)) = some (some (.agg #[.slice none 0 0, .bool false]), 2, 32) := by kernel_rfl
theorem clonei_any (v : Value) (l : List Int) (S : Nat → Prop) (w : World) (h : RowIn w S 1 v l.length (ints l)) (hs : l.length ≤ 1000000) :
    Calls Tryd.prog 117 #[v] w fun e w' => ∃ vo, e = .returned vo ∧ OwnS w' 3 1 vo l.length (ints l) ∧ Fr Nob w w' ∧ NewV w vo := by
  obtain ⟨i0, hi, hz0, hz1, hz2⟩ := info_parts infoInt
  obtain ⟨A, cap, rfl, h1, h2⟩ := h.form
  have HH := Lib.hid h
  cases A with
  | none =>
    have hc : cap = 0 := by obtain ⟨_, A, c, h, _, _, h3, _⟩ := h; cases h; exact h3 rfl
    subst hc
    have hl : l = [] := List.length_eq_zero_iff.1 (by omega)
    subst hl
    clear h HH
    have kn := fun A l c w => run_slice_is_nil Tryd.underlying30 A l c w
    go_enter Tryd.func117, Tryd.ntmps117
    go_wp2
    go_ret
    exact ⟨_, rfl, OwnS.nil _ _ _, Fr.refl _ _, fun b hb => by simp [Value.ownBlock] at hb⟩
  | some a =>
    clear h
    have kn := fun A l c w => run_slice_is_nil Tryd.underlying30 A l c w
    have HR := Lib.hid (HH.out.nob ((Fr.refl Nob w).alloc (.cells #[] 3)))
    clear HH
    go_enter Tryd.func117, Tryd.ntmps117
    go_wp2_with (at_builtin; refine wpList_app _ rfl _ _ 30 rfl 3 i0 _ 1 8 Tryd.underlying30 hi hz0 hz1 hz2 rfl (by decide) _ 0 [] rfl (OwnS.new0 w 3 1) S _ l.length (ints l) rfl HR.out ?c1 ?c2 ?c3 ?_)
    case c1 => exact ints_one l
    case c2 => unfold maxLen at *; omega
    case c3 => omega
    intro v' w1 hown hfr hat _
    go_wp2
    go_ret
    have hN := app_new (w := w) (NewV.at w 0 0) ((Fr.refl _ _).alloc _) hfr (by simpa using hat)
    exact ⟨v', rfl, by simpa using hown, hN.1, hN.2⟩
/-- The bounds under which states are copied. -/
structure SmallG (s : Gst) : Prop where
  d : s.dash.length ≤ 1000
  c : s.clips.length ≤ 1000
  p : ∀ c ∈ s.clips, c.path.length ≤ 1000000
theorem OwnS.made {w : World} {g : Nat} {cs : Array Value} {e : TypeId} {size n : Nat} (h : Blk w g cs e) (hs : cs.size = n * size) (hn : n ≤ maxLen) : OwnS w e size (.slice (some ⟨g, 0, none⟩) 0 n) 0 [] :=
  ⟨by simp, .inr ⟨_, _, _, rfl, h, Nat.zero_le _, hn, Nat.le_of_eq hs.symm, by simp⟩⟩
def mkC (n : Nat) : Array Value := madeCells #[.slice none 0 0, .bool false] (n * 2)
theorem Blk.made' {w : World} {g n : Nat} (h : Blk w g (mkC n) 93) (hn : n ≤ 1000) : OwnS w 93 2 (.slice (some ⟨g, 0, none⟩) 0 n) 0 [] :=
  OwnS.made h (by simp [mkC, madeCells]) (by unfold maxLen; omega)
/-- Clips of a call's own, the first k of l. -/
structure OwnC (w wr : World) (v : Value) (l : List Clp) (k : Nat) (xs : List (Clp × Value)) (S : Nat → Prop) : Prop where
  l : xs.map Prod.fst = l.take k
  o : OwnS wr 93 2 v k (encX xs)
  n : NewV w v
  p : ∀ x ∈ xs, RowIn wr S 7 x.2 x.1.path.length (encSs x.1.path)
  s : ∀ j, S j → Bt w wr j
  d : ∀ j, inB v j → ¬ S j
  f : Fr Nob w wr
theorem OwnC.snoc {w wr wa wb wc wd : World} {v vo v' : Value} {l : List Clp} {k : Nat} {xs : List (Clp × Value)} {S : Nat → Prop} (h : OwnC w wr v l k xs S) (hk : k < l.length)
    (ha : Fr Nob wr wa) (ho : OwnS wb 91 7 vo l[k].path.length (encSs l[k].path)) (hn : NewV wa vo) (hb : Fr Nob wa wb) (hc : Fr Nob wb wc)
    (hd : OwnS wd 93 2 v' (k + 1) (encX xs ++ [vo, .bool l[k].eo])) (hfd : Fr (inB v) wc wd) (hat : v'.ownBlock = v.ownBlock ∨ v'.ownBlock = some wc.heap.size) :
    OwnC w wd v' l (k + 1) (xs ++ [(l[k], vo)]) (fun j => S j ∨ vo.ownBlock = some j) := by
  have hwc := (ha.trans0 hb).trans0 hc
  have hvl : ∀ j, inB v j → j < wr.heap.size := h.o.lt
  have hol : ∀ j, vo.ownBlock = some j → j < wb.heap.size := ho.lt
  have hon : ∀ j, vo.ownBlock = some j → wr.heap.size ≤ j := fun j hj => Nat.le_trans ha.size (hn j hj)
  refine ⟨?_, by rw [encX_append]; exact hd, ?_, ?_, ?_, ?_, ?_⟩
  · rw [List.map_append, h.l, List.take_succ_eq_append_getElem hk]; rfl
  · intro b hb'
    rcases hat with e | e
    · exact h.n b (e ▸ hb')
    · rw [e] at hb'; cases hb'; exact Nat.le_trans h.f.size hwc.size
  · intro x hx
    rcases List.mem_append.1 hx with hx | hx
    · exact ((((h.p x hx).nob hwc).fr hfd fun j hj hv => h.d j hv hj)).mono fun j hj => .inl hj
    · rw [List.mem_singleton] at hx
      subst hx
      exact ((ho.nob hc).row.fr hfd fun j hj hv => by have := hvl j hv; have := hon j hj; omega).mono fun j hj => .inr hj
  · rintro j (hj | hj)
    · exact ⟨(h.s j hj).1, Nat.lt_of_lt_of_le (h.s j hj).2 (Nat.le_trans hwc.size hfd.size)⟩
    · exact ⟨Nat.le_trans h.f.size (hon j hj), Nat.lt_of_lt_of_le (hol j hj) (Nat.le_trans hc.size hfd.size)⟩
  · rintro j hj (hS | hS)
    · rcases hat with e | e
      · exact h.d j (show v.ownBlock = some j from e ▸ hj) hS
      · have hj' : v'.ownBlock = some j := hj
        rw [e] at hj'; cases hj'
        have := (h.s _ hS).2; have := hwc.size; omega
    · rcases hat with e | e
      · have := hvl j (show v.ownBlock = some j from e ▸ hj); have := hon j hS; omega
      · have hj' : v'.ownBlock = some j := hj
        rw [e] at hj'; cases hj'
        have := hol _ hS; have := hc.size; omega
  · exact (h.f.trans0 hwc).trans hfd fun j hj => .inr (h.n j hj)
theorem OwnC.clps {w wr : World} {v : Value} {l : List Clp} {xs : List (Clp × Value)} {S : Nat → Prop} (h : OwnC w wr v l l.length xs S) : Clps wr (Bt w wr) v l := by
  have hl : xs.map Prod.fst = l := by rw [h.l, List.take_length]
  have hn : xs.length = l.length := by rw [← hl, List.length_map]
  refine ⟨xs, hl, ?_, fun x hx => (h.p x hx).mono h.s⟩
  rw [hn]
  exact h.o.bt h.n
set_option maxRecDepth 8000 in
set_option maxHeartbeats 6400000 in
theorem own_any (s : Gst) (dv cv : Value) (S : Nat → Prop) (w : World) (h : GIn w S dv cv s) (hb : SmallG s) :
    Calls Tryd.prog 83 #[gV s dv cv] w fun e w' => ∃ dv' cv', e = .returned (gV s dv' cv') ∧ GIn w' (Bt w w') dv' cv' s ∧ Fr Nob w w' := by
  obtain ⟨i0, hi, hz0, hz1, hz2⟩ := info_parts infoClip
  have hmk : ∀ w : World, (Instr.makeSlice 29 (.int .i64 0) (.int .i64 s.clips.length)).run Tryd.prog w = .ok (.slice (some ⟨w.heap.size, 0, none⟩) 0 s.clips.length) (w.alloc (.cells (mkC s.clips.length) 93)) := fun w => by
    have := run_make (P := Tryd.prog) w 29 93 i0 _ Tryd.underlying29 hi hz0 .i64 .i64 0 s.clips.length (by omega) (by omega) (by rw [hz2]; have := hb.c; omega) (by have := hb.c; omega)
    rw [this, hz1]
    simp only [Int.toNat_natCast, Int.toNat_zero]
    rfl
  replace hi := Lib.hid hi
  replace hz0 := Lib.hid hz0
  replace hz1 := Lib.hid hz1
  replace hz2 := Lib.hid hz2
  have hf0 : Fr Nob w ((w.alloc (.cells (encG s dv cv).toArray 79)).alloc (.cells #[.int .i64 0, .int .i64 0, .int .i64 0, .int .i64 0, .int .i64 0, .int .i64 0, .int .i64 0, .int .i64 0, .int .i64 0, .int .i64 0, .int .i64 0, .int .i64 0, .int .i64 0, .int .i64 0, .int .i64 0, .slice none 0 0, .int .i64 0, .int .i64 0, .int .i64 0, .int .i64 0, .int .i64 0, .int .i64 0, .int .i64 0, .int .i64 0, .slice none 0 0, .bool false] 79)) := ((Fr.refl Nob w).alloc _).alloc _
  have HB0 := Lib.hid (show Blk ((w.alloc (.cells (encG s dv cv).toArray 79)).alloc (.cells #[.int .i64 0, .int .i64 0, .int .i64 0, .int .i64 0, .int .i64 0, .int .i64 0, .int .i64 0, .int .i64 0, .int .i64 0, .int .i64 0, .int .i64 0, .int .i64 0, .int .i64 0, .int .i64 0, .int .i64 0, .slice none 0 0, .int .i64 0, .int .i64 0, .int .i64 0, .int .i64 0, .int .i64 0, .int .i64 0, .int .i64 0, .int .i64 0, .slice none 0 0, .bool false] 79)) w.heap.size (encG s dv cv).toArray 79 from (Blk.new w _ _).alloc _)
  have HZ0 := Lib.hid (show Blk ((w.alloc (.cells (encG s dv cv).toArray 79)).alloc (.cells #[.int .i64 0, .int .i64 0, .int .i64 0, .int .i64 0, .int .i64 0, .int .i64 0, .int .i64 0, .int .i64 0, .int .i64 0, .int .i64 0, .int .i64 0, .int .i64 0, .int .i64 0, .int .i64 0, .int .i64 0, .slice none 0 0, .int .i64 0, .int .i64 0, .int .i64 0, .int .i64 0, .int .i64 0, .int .i64 0, .int .i64 0, .int .i64 0, .slice none 0 0, .bool false] 79)) (w.heap.size + 1) (encG gZero nilV nilV).toArray 79 from Blk.new1 w _ _ _)
  have HG := Lib.hid (h.lts.nob hf0)
  have HGN := Lib.hid (show ∀ k, (S k ∧ k < w.heap.size) → k < w.heap.size from fun k hk => hk.2)
  have HF0 := Lib.hid hf0
  have HBD := Lib.hid hb
  obtain ⟨A, cap, rfl, ha1, ha2⟩ := h.c.form
  have hbc := hb.c
  have hne : w.heap.size ≠ w.heap.size + 1 := by omega
  clear h hb hf0
  unfold gV
  go_enter Tryd.func83, Tryd.ntmps83
  go_upto_region 1 with (fail)
  generalize (w.alloc (.cells (encG s dv (.slice A s.clips.length cap)).toArray 79)).alloc (.cells #[.int .i64 0, .int .i64 0, .int .i64 0, .int .i64 0, .int .i64 0, .int .i64 0, .int .i64 0, .int .i64 0, .int .i64 0, .int .i64 0, .int .i64 0, .int .i64 0, .int .i64 0, .int .i64 0, .int .i64 0, .slice none 0 0, .int .i64 0, .int .i64 0, .int .i64 0, .int .i64 0, .int .i64 0, .int .i64 0, .int .i64 0, .int .i64 0, .slice none 0 0, .bool false] 79) = wa at *
  have c15 : wa.cell? ⟨w.heap.size, 15, none⟩ = some dv := HB0.out.cell 15
  go_wp2_with fail
  refine (clonei_any dv s.dash _ wa HG.out.d (by have := HBD.out.d; omega)).mono ?_
  rintro e w1 ⟨dv', rfl, hod, hf1, hn1⟩
  have hB1 := HB0.out.nob hf1
  have k15 : w1.cell? ⟨w.heap.size, 15, none⟩ = some dv := hB1.cell 15
  have f15 := hB1.free 15
  have HB1 := Lib.hid (show Blk (w1.setCell ⟨w.heap.size, 15, none⟩ dv') w.heap.size (encG s dv' (.slice A s.clips.length cap)).toArray 79 from hB1.set 15 dv')
  have HFS := Lib.hid ((Fr.refl (fun k => k = w.heap.size) w1).setCell (p := ⟨w.heap.size, 15, none⟩) (.inl rfl) dv')
  have HZ1 := Lib.hid (HZ0.out.nob hf1)
  have HF1 := Lib.hid (HF0.out.trans0 hf1)
  have HG1 := Lib.hid (HG.out.nob hf1)
  have HOD := Lib.hid hod
  have HN1 := Lib.hid hn1
  have hzz := HF0.out.size
  obtain ⟨Ad, cd, rfl, _, _⟩ := hod.form
  clear c15 hod hf1 hn1 hB1
  go_upto_region 2 with (fail)
  have HG2 := Lib.hid (HG1.out.fr HFS.out fun k hk e => by have := HGN.out k hk; omega)
  generalize w1.setCell ⟨w.heap.size, 15, none⟩ (.slice Ad s.dash.length cd) = w2 at *
  clear k15 f15
  have k24 : w2.cell? ⟨w.heap.size, 24, none⟩ = some (.slice A s.clips.length cap) := HB1.out.cell 24
  have HZ2 := Lib.hid (HZ1.out.fr HFS.out fun e => hne e.symm)
  have HF2 := Lib.hid (HF1.out.trans HFS.out fun k hk => .inr (by rw [hk]; exact Nat.le_refl _))
  have HOD2 := Lib.hid (HOD.out.fr HFS.out fun k hk e => by have := HN1.out k hk; subst e; have := HB0.out.lt; omega)
  have hb3 : Blk (w2.alloc (.cells (mkC s.clips.length) 93)) w2.heap.size _ 93 := Blk.new w2 _ _
  have hf3 : Fr Nob w2 (w2.alloc (.cells (mkC s.clips.length) 93)) := (Fr.refl Nob w2).alloc _
  have k24' : (w2.alloc (.cells (mkC s.clips.length) 93)).cell? ⟨w.heap.size, 24, none⟩ = some (.slice A s.clips.length cap) := (HB1.out.nob hf3).cell 24
  have HO3 := Lib.hid (hb3.made' hbc)
  have HF3 := Lib.hid hf3
  clear hb3 hf3
  go_upto_region 4 with (fail)
  generalize w2.alloc (.cells (mkC s.clips.length) 93) = w3 at *
  clear k24 k24' hmk
  obtain ⟨zs, hzl, hzx⟩ := HG2.out.c
  have hzn : zs.length = s.clips.length := by rw [← hzl, List.length_map]
  have HZL := Lib.hid hzl
  have HZN := Lib.hid hzn
  have HZX := Lib.hid hzx
  have HC0 : Hid (OwnC w2 w3 (.slice (some ⟨w2.heap.size, 0, none⟩) 0 s.clips.length) s.clips 0 [] (fun _ => False)) := by
    exact ⟨rfl, HO3.out, NewV.at w2 _ _, fun x hx => by simp at hx, fun j hj => hj.elim, fun j _ hj => hj, HF3.out⟩
  clear hzl hzn hzx HO3 HF3
  go_loopw [3, 19] (fun v q wr => ∃ (k : Nat) (xs : List (Clp × Value)) (S' : Nat → Prop), k ≤ s.clips.length ∧ q = .int .i64 k ∧ Hid (OwnC w2 wr v s.clips k xs S')) (fun _ q _ => s.clips.length - (intOf q).toNat)
  case atStart => exact ⟨0, [], _, by omega, rfl, HC0.out⟩
  case round =>
    obtain ⟨k, xs, S', hk, rfl, HC⟩ := hrel
    clear HC0
    by_cases hlt : k < s.clips.length
    · have hkz : k < zs.length := by rw [HZN.out]; exact hlt
      have hzk : zs[k].1 = s.clips[k] := by
        have := congrArg (fun l => l[k]?) HZL.out
        simp only [List.getElem?_map, List.getElem?_eq_getElem hkz, List.getElem?_eq_getElem hlt, Option.map_some, Option.some.injEq] at this
        exact this
      obtain ⟨b, off, cap', hv, _, _, _, hc⟩ := HZX.out.at (by omega)
      rw [HZN.out] at hv
      cases hv
      obtain ⟨d0, d1⟩ := hc k hkz
      have hrow := HZX.out.2 zs[k] (List.getElem_mem hkz)
      have hsm := HBD.out.p zs[k].1 (by rw [hzk]; exact List.getElem_mem hlt)
      have SN := Lib.hid (fun (wa wb wc wd : World) (vo v' : Value) => HC.out.snoc (wa := wa) (wb := wb) (wc := wc) (wd := wd) (vo := vo) (v' := v') hlt)
      rw [← hzk] at SN
      generalize zs[k] = z at *
      obtain ⟨⟨zp, ze⟩, zv⟩ := z
      simp only at d0 d1 hrow hsm SN
      obtain ⟨A2, cap2, rfl, _, _⟩ := hrow.form
      have i1 : (k : Int) < s.clips.length := by omega
      have e0 := cell_nob d0 HC.out.f
      have e1 := cell_nob d1 HC.out.f
      obtain ⟨Av, cv', rfl, _, _⟩ := HC.out.o.form
      have hfq : Fr Nob wr (wr.alloc (.cells #[.slice A2 zp.length cap2, .bool ze] 93)) := (Fr.refl Nob wr).alloc _
      have hbq : Blk (wr.alloc (.cells #[.slice A2 zp.length cap2, .bool ze] 93)) wr.heap.size #[.slice A2 zp.length cap2, .bool ze] 93 := Blk.new wr _ _
      have HFQ := Lib.hid hfq
      have HRQ := Lib.hid ((hrow.nob HC.out.f).nob hfq)
      have HLV := Lib.hid (HC.out.o.lt)
      have HSQ : Hid (∀ w', Fr (inB (.slice Av k cv')) (wr.alloc (.cells #[.slice A2 zp.length cap2, .bool ze] 93)) w' → w'.cell? ⟨wr.heap.size, 0, none⟩ = some (.slice A2 zp.length cap2) ∧ w'.cell? ⟨wr.heap.size, 1, none⟩ = some (.bool ze)) :=
        fun w' hw' => by
          have hb := hbq.fr hw' fun hh => by have := HLV.out _ hh; omega
          exact ⟨hb.cell 0, hb.cell 1⟩
      have HOV := Lib.hid (HC.out.o)
      clear hc hrow hzk hfq hbq d0 d1
      go_upto_region 6 with (fail)
      generalize wr.alloc (.cells #[.slice A2 zp.length cap2, .bool ze] 93) = wq at *
      obtain ⟨q0, q1⟩ := HSQ.out wq (Fr.refl _ _)
      go_region_held3 (fun w' => w'.cell? ⟨wr.heap.size, 0, none⟩ = some (.slice A2 zp.length cap2) ∧ w'.cell? ⟨wr.heap.size, 1, none⟩ = some (.bool ze))
        ((refine HSQ.out _ ?_; (repeat (first | exact Fr.refl _ _ | exact K2.out | exact K1g.out | refine Fr.alloc ?_ _ | refine Fr.drew ?_)); done))
        ((first
          | (go_at_call 84
             refine (clone_any _ zp _ _ (HRQ.out.nob (by repeat (first | exact Fr.refl _ _ | refine Fr.alloc ?_ _ | refine Fr.drew ?_))) (by omega)).mono ?_
             rintro e w5 ⟨vo, rfl, ho, hf5, hn5⟩
             have K1 := Lib.hid (show Fr Nob wq w5 from Fr.trans0 (by repeat (first | exact Fr.refl _ _ | refine Fr.alloc ?_ _ | refine Fr.drew ?_)) hf5)
             have K1g := Lib.hid (K1.out.mono (T := inB (.slice Av k cv')) fun _ hh => hh.elim)
             have HOo := Lib.hid ho
             have HNo := Lib.hid (show NewV wr vo from hn5.le (by have := HFQ.out.size; simp; omega))
             obtain ⟨A5, cap5, rfl, _, _⟩ := ho.form
             clear ho hf5 hn5)
          | (refine step_app rfl (.tmp 23) (.tmp 30) 29 rfl 93 i0 _ 2 32 Tryd.underlying29 hi.out hz0.out hz1.out hz2.out rfl (by decide) _ k (encX xs) (by rfl) ((HOV.out.nob HFQ.out).nob (Fr.trans0 K1.out (by repeat (first | exact Fr.refl _ _ | refine Fr.alloc ?_ _ | refine Fr.drew ?_)))) _ _ 1 [.slice A5 zp.length cap5, .bool ze] (by rfl) (Blk.row (n := 1) (cs := #[.slice A5 zp.length cap5, .bool ze]) (by first | exact Blk.new w5 _ _ | exact (Blk.new w5 _ _).drew) rfl (by decide)) (by intro u hu; simp at hu; rcases hu with rfl | rfl <;> rfl) (by unfold maxLen; omega) (by omega) ?_
             intro v6 w6 ho6 hf6 hat6 _
             have K2 := Lib.hid (show Fr (inB (.slice Av k cv')) wq w6 from Fr.trans (show Fr (inB (.slice Av k cv')) wq _ from (by repeat (first | exact K1g.out | refine Fr.alloc ?_ _ | refine Fr.drew ?_))) hf6 fun k hk => .inl hk)
             have HO6 := Lib.hid ho6
             have HF6 := Lib.hid hf6
             have HA6 := Lib.hid hat6
             obtain ⟨A6, cap6, rfl, _, _⟩ := ho6.form
             clear ho6 hf6 hat6)))
      go_wp2_with fail
      go_roundw
      case rel => exact ⟨k + 1, _, _, by omega, by go_num, SN.out wr w5 _ w6 _ _ (Fr.refl _ _) HOo.out HNo.out (HFQ.out.trans0 K1.out) (by repeat (first | exact Fr.refl _ _ | refine Fr.alloc ?_ _ | refine Fr.drew ?_)) HO6.out HF6.out (by simpa using HA6.out)⟩
      case measure => simp [intOf]; omega
    · have hge : s.clips.length ≤ k := by omega
      have HFC := Lib.hid (HC.out.f)
      obtain ⟨Av, cv', rfl, _, _⟩ := HC.out.o.form
      have HCL : Hid (Clps wr (Bt w2 wr) (.slice Av k cv') s.clips) := by
        show Clps wr (Bt w2 wr) (.slice Av k cv') s.clips
        obtain rfl : k = s.clips.length := by omega
        exact HC.out.clps
      have hBr := HB1.out.nob HC.out.f
      have k24 : wr.cell? ⟨w.heap.size, 24, none⟩ = some (.slice A s.clips.length cap) := hBr.cell 24
      have f24 := hBr.free 24
      have HBE := Lib.hid (show Blk (wr.setCell ⟨w.heap.size, 24, none⟩ (.slice Av k cv')) w.heap.size (encG s (.slice Ad s.dash.length cd) (.slice Av k cv')).toArray 79 from hBr.set 24 _)
      have hFS := (Fr.refl (fun k => k = w.heap.size) wr).setCell (p := ⟨w.heap.size, 24, none⟩) (.inl rfl) (.slice Av k cv')
      have HZE := Lib.hid ((HZ2.out.nob HC.out.f).fr hFS fun e => hne e.symm)
      have HFS2 := Lib.hid hFS
      clear hBr HC hFS
      go_wp2_with (first
        | (refine wpList_getAt rfl 79 (.tmp 1) rfl w.heap.size 0 (by rfl) (encG s (.slice Ad s.dash.length cd) (.slice Av k cv')) _ (HBE.out.range 0 _ (by rfl)) Tryd.underlying79 rfl sizeG ?_)
        | (refine wpList_putAt rfl 79 (.tmp 2) (.tmp 35) rfl (w.heap.size + 1) 0 (encG s (.slice Ad s.dash.length cd) (.slice Av k cv')) (by rfl) (by rfl) 79 _ HZE.out (Nat.le_refl 26) sizeG (encG_one _ _ _ ⟨_, _, _, rfl⟩ ⟨_, _, _, rfl⟩) ?_))
      intro w9 hb9 hf9
      rw [over_all (encG gZero nilV nilV).toArray (encG s (.slice Ad s.dash.length cd) (.slice Av k cv')) rfl] at hb9
      have HB9 := Lib.hid hb9
      have HF9 := Lib.hid hf9
      clear hb9 hf9 k24 f24
      go_wp2_with fail
      have z1 := HF2.out.size
      have z2 := HFC.out.size
      have z3 := HFS2.out.size
      have z4 := HF9.out.size
      have zb := HZ2.out.lt
      have zc := HN1.out
      refine bodyPost_ret (results_cl rfl _ _ _ 79 _ _ rfl HB9.out Tryd.underlying79 rfl sizeG) rfl ⟨_, _, rfl, ⟨?_, ?_⟩, ?_⟩
      · have h1 := (HOD2.out.nob HFC.out).fr HFS2.out fun k hk e => by have := HN1.out k hk; have := HB0.out.lt; subst e; omega
        have h2 := h1.fr HF9.out fun k hk e => by have := HN1.out k hk; have := HZ0.out.lt; subst e; omega
        refine h2.row.mono fun k hk => ⟨?_, h2.lt k hk⟩
        have := HN1.out k hk; have := HZ0.out.lt; omega
      · refine ((HCL.out.fr HFS2.out fun k hk e => ?_).fr HF9.out fun k hk e => ?_).mono fun k hk => ?_
        · have := hk.1; subst e; omega
        · have := hk.1; subst e; omega
        · exact ⟨by have := hk.1; omega, by have := hk.2; omega⟩
      · exact ((HF2.out.trans0 HFC.out).trans HFS2.out fun k hk => .inr (by rw [hk]; exact Nat.le_refl _)).trans HF9.out fun k hk => .inr (by rw [hk]; omega)
end Go.Proofs.YtkkejjfmidgciaaDoor
