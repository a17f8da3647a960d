/-
  The walk of the law StackKeeps.
-/
import Derived.Test.YtdkgbakapinidaaK1
namespace Go.Proofs.Ytdkgbakapinidaa
open Go.RowKit
set_option linter.unusedVariables false
set_option linter.unusedSimpArgs false
set_option maxRecDepth 8000 in
set_option maxHeartbeats 4000000 in
theorem keeps_far (v : Value) (l : List Ob) (w : World) (hl : RowIn w (Lt w) 8 v l.length (encs l)) (hs : l.length * 72 ≤ 140737488351232) (hf : 300 < l.length) :
    Calls Try.prog 5 #[v] w fun e w' => e = .returned (.bool true) ∧ Fr Nob w w' := by
  obtain ⟨i0, hi, hz0, hz1, hz2⟩ := info_parts info37
  obtain ⟨A, cap, rfl, _, _⟩ : ∃ A c, v = .slice A l.length c ∧ l.length ≤ c ∧ c ≤ maxLen := by obtain ⟨_, A, c, h, h1, h2, _⟩ := hl; exact ⟨A, c, h, h1, h2⟩
  have HL := Lib.hid hl
  clear hl
  have hdec : decide ((300 : Int) < l.length) = true := decide_eq_true (by omega)
  go_enter Try.func5, Try.ntmps5
  go_wp2_with fail
  refine (new_any 500 1 2 (by omega) _).mono ?_
  rintro e w1 ⟨rfl, _, hf1⟩
  have H1 := Lib.hid hf1
  clear hf1
  go_wp2_with (at_builtin; refine wpList_app _ rfl _ _ 22 rfl 37 i0 _ 8 72 Try.underlying22 hi hz0 hz1 hz2 rfl (by decide) _ 0 [] rfl (OwnS.new0 w1 37 8) _ _ l.length (encs l) rfl (HL.out.fr (H1.out.alloc _) fun _ _ hf => hf) ?c1 ?c2 ?c3 ?_)
  case c1 => exact encs_one l
  case c2 => unfold maxLen at *; omega
  case c3 => omega
  intro v' w2 hown hfr hat _
  have hN := app_new (w := w1) (NewV.at w1 0 0) ((Fr.refl _ _).alloc _) hfr (by simpa using hat)
  have H2 := Lib.hid (H1.out.trans0 hN.1)
  obtain ⟨A1, cap1, rfl, _, _⟩ := hown.form
  clear hown hfr hat hN
  go_wp2_with fail
  refine (answers_any _).mono ?_
  rintro e w3 ⟨rfl, hf3⟩
  have H3 := Lib.hid (H2.out.trans0 hf3)
  clear hf3
  go_wp2_with fail
  refine (answers_any _).mono ?_
  rintro e w4 ⟨rfl, hf4⟩
  have H4 := Lib.hid (H3.out.trans0 hf4)
  clear hf4
  go_wp2_with fail
  go_ret
  exact ⟨rfl, H4.out⟩

/-- A stack of the call's own, and blocks of the call's own that are none of its. -/
structure Sep (w0 w : World) (g : Nat) (v : Value) (most over under : Int) (l : List Ob) (B : Nat → Prop) : Prop where
  s : Stk w g v most over under l
  g0 : w0.heap.size ≤ g
  v0 : NewV w0 v
  f : Fr Nob w0 w
  sep : ∀ k, B k → ¬ stB g v k
  b0 : ∀ k, B k → w0.heap.size ≤ k ∧ k < w.heap.size
theorem Sep.nob {w0 w w' : World} {g : Nat} {v : Value} {most over under : Int} {l : List Ob} {B : Nat → Prop} (h : Sep w0 w g v most over under l B) (hf : Fr Nob w w') : Sep w0 w' g v most over under l B :=
  ⟨h.s.fr hf fun _ _ hh => hh, h.g0, h.v0, h.f.trans0 hf, h.sep, fun k hk => ⟨(h.b0 k hk).1, Nat.lt_of_lt_of_le (h.b0 k hk).2 hf.size⟩⟩
theorem Sep.write {w0 w w' : World} {g : Nat} {v : Value} {most over under : Int} {l : List Ob} {B : Nat → Prop} (h : Sep w0 w g v most over under l B) (hf : Fr B w w') : Sep w0 w' g v most over under l B :=
  ⟨h.s.fr hf fun k hk hb => h.sep k hb hk, h.g0, h.v0, h.f.trans hf fun k hk => .inr (h.b0 k hk).1, h.sep, fun k hk => ⟨(h.b0 k hk).1, Nat.lt_of_lt_of_le (h.b0 k hk).2 hf.size⟩⟩
theorem Sep.to {w0 w w' : World} {g : Nat} {v : Value} {most over under : Int} {l l' : List Ob} {B : Nat → Prop} (h : Sep w0 w g v most over under l B) (ht : StkTo w g v most over under l' w') : ∃ v', Sep w0 w' g v' most over under l' B ∧ Fr (stB g v) w w' := by
  obtain ⟨v', h1, h2, h3⟩ := ht
  refine ⟨v', ⟨h1, h.g0, fun b hb => ?_, h.f.trans h2 fun k hk => ?_, fun k hk hs => ?_, fun k hk => ⟨(h.b0 k hk).1, Nat.lt_of_lt_of_le (h.b0 k hk).2 h2.size⟩⟩, h2⟩
  · rcases h3 b hb with h4 | h4
    · exact h.v0 b h4
    · exact Nat.le_trans h.f.size h4
  · rcases hk with rfl | h4
    · exact .inr h.g0
    · exact .inr (h.v0 k h4)
  · rcases hs with rfl | h4
    · exact h.sep k hk (.inl rfl)
    · rcases h3 k h4 with h5 | h5
      · exact h.sep k hk (.inr h5)
      · have := (h.b0 k hk).2; omega
theorem LSt.toSep {w0 w w' : World} {g : Nat} {most over under : Int} {l : List Ob} (h : LSt w0 w g most over under l) (hf : Fr Nob w w') {x : Value} (hx : NewV w x) (hl : ∀ k, x.ownBlock = some k → k < w'.heap.size) : ∃ v, Sep w0 w' g v most over under l (inB x) := by
  obtain ⟨v, h1, h2, h3, h4, h5⟩ := h.sep hf hx
  refine ⟨v, h1, h2, h3, h4, h5, fun k hk => ⟨?_, hl k hk⟩⟩
  exact Nat.le_trans h.nob.size (hx k hk)
theorem Sep.lst {w0 w : World} {g : Nat} {v : Value} {most over under : Int} {l : List Ob} {B : Nat → Prop} (h : Sep w0 w g v most over under l B) : LSt w0 w g most over under l := ⟨v, h.s, h.g0, h.v0, h.f⟩
theorem Loose.fr {w w' : World} {S : Nat → Prop} {v : Value} {n f : Nat} (h : Loose w v n f) (hf : Fr S w w') (hd : ∀ k, inB v k → ¬ S k) : Loose w' v n f := by
  obtain ⟨cs, ho, hc⟩ := h
  exact ⟨cs, ho.fr hf hd, hc⟩
theorem Loose.head {w : World} {A : Option Addr} {c n f : Nat} (h : Loose w (.slice A n c) n f) (hn : 0 < n) : ∃ b, A = some ⟨b, 0, none⟩ := by
  obtain ⟨cs, ho, _⟩ := h
  rcases ho.2 with ⟨h0, rfl⟩ | ⟨g, cap', cur, h0, _⟩
  · omega
  · cases h0; exact ⟨g, rfl⟩
set_option maxHeartbeats 400000 in
theorem take_apart (g : Nat) (v : Value) (most over under : Int) (l : List Ob) (n : Nat) (hn : n ≤ l.length) (w : World) (h : Stk w g v most over under l) (hs : l.length * 72 ≤ 140737488351232) :
    Calls Try.prog 13 #[.pointer (some ⟨g, 0, none⟩), .int .i64 n] w fun e w' => ∃ vo, e = .returned (.tuple #[vo, .int .i64 0]) ∧ OwnS w' 37 8 vo n (encs (l.drop (l.length - n))) ∧ NewV w vo ∧
      ∃ v', Stk w' g v' most over under (l.take (l.length - n)) ∧ Fr (stB g v) w w' ∧ ∀ b, v'.ownBlock = some b → v.ownBlock = some b := by
  obtain ⟨i0, hi, hz0, hz1, hz2⟩ := info_parts info37
  obtain ⟨c0, c1, c2, c3, f3⟩ := h.cells
  have hc : chkF n l.length under = 0 := by unfold chkF; rw [if_neg (by omega), if_neg (by omega)]
  have HC := Lib.hid hc
  have HH := Lib.hid h
  obtain ⟨A, cap, rfl, h1, h2⟩ := h.form
  obtain ⟨k, hk⟩ : ∃ k, l.length - n = k := ⟨_, rfl⟩
  have hkn : k + n = l.length := by omega
  have hkk : (l.length : Int) - n = k := by omega
  have hd := fun w => run_dropV (P := Try.prog) Try.underlying22 hi A l.length cap k (by omega) w
  have ht := fun w => run_cutV (P := Try.prog) Try.underlying22 hi A l.length cap k (by omega) w
  rw [hz1] at hd
  have hrow := (HH.out.2.row.dropV k (by omega) (by omega))
  rw [encs_drop] at hrow
  have hln : l.length - k = n := by omega
  have HL := Lib.hid (show (l.drop k).length = n by simp; omega)
  rw [hln] at hrow
  have HR := Lib.hid hrow
  rw [hk]
  clear h hc hk hrow hln
  have hkl : k ≤ l.length := by omega
  go_enter Try.func13, Try.ntmps13
  go_wp2_with fail
  refine (check_any g _ most over under l n _ HH.out).mono ?_
  rintro e w1 ⟨rfl, rfl⟩
  rw [HC.out]
  go_wp2_with fail
  refine (clone_any _ n (l.drop k) _ _ (by rw [HL.out]; exact HR.out) (by rw [HL.out]; omega)).mono ?_
  rintro e w1 ⟨vo, rfl, ho, hf, hv⟩
  rw [HL.out] at ho
  have hs1 : Stk w1 g _ most over under l := HH.out.fr hf fun _ _ hf => hf
  have k3 := hs1.cells.c3
  have q3 := hs1.cells.f3
  have HS1 := Lib.hid hs1
  have HO := Lib.hid ho
  have HF := Lib.hid hf
  have HV := Lib.hid hv
  clear c0 c1 c2 c3 f3 hs1 ho hf hv
  have hcv : cutV (.slice A l.length cap) k = .slice A k k := rfl
  rw [hcv] at ht
  go_wp2_with fail
  go_ret2
  have hcut := HS1.out.2.cutV k hkl
  rw [hcv, encs_take] at hcut
  have hput := Stk.put (l.take k) HS1.out.1 hcut.1 (by simp; omega) rfl
  have hne := HS1.out.2.ne HS1.out.1 (by decide)
  refine ⟨vo, rfl, HO.out.fr ((Fr.refl (fun k => k = g) w1).setCell (p := ⟨g, 3, none⟩) (.inl rfl) _) ?_, HV.out, _, hput, (HF.out.mono fun _ hf => hf.elim).setCell (.inl (.inl rfl)) _, fun b hb => hcut.2 ▸ hb⟩
  intro b hb e
  have h1 := HV.out b hb
  have h2 := HH.out.1.lt
  omega

set_option maxRecDepth 8000 in
set_option maxHeartbeats 8000000 in
theorem keeps_near (v : Value) (l : List Ob) (w : World) (hl : RowIn w (Lt w) 8 v l.length (encs l)) (hb : l.length ≤ 300) :
    Calls Try.prog 5 #[v] w fun e w' => e = .returned (.bool true) ∧ Fr Nob w w' := by
  obtain ⟨i0, hi, hz0, hz1, hz2⟩ := info_parts info37
  obtain ⟨A, cap, rfl, _, _⟩ : ∃ A c, v = .slice A l.length c ∧ l.length ≤ c ∧ c ≤ maxLen := by obtain ⟨_, A, c, h, h1, h2, _⟩ := hl; exact ⟨A, c, h, h1, h2⟩
  have HL := Lib.hid hl
  clear hl
  have hdec : decide ((300 : Int) < l.length) = false := decide_eq_false (by omega)
  have hmk : ∀ w : World, (Instr.makeSlice 22 (.int .i64 l.length) (.int .i64 l.length)).run Try.prog w = .ok (.slice (some ⟨w.heap.size, 0, none⟩) l.length l.length) (w.alloc (.cells (encs (List.replicate l.length Ob.zero)).toArray 37)) := fun w => by
    have := run_make (P := Try.prog) w 22 37 i0 _ Try.underlying22 hi hz0 .i64 .i64 l.length l.length (by omega) (Int.le_refl _) (by rw [hz2]; omega) (by omega)
    rw [this, hz1]
    simp only [Int.toNat_natCast]
    rw [← made_zero]
  have HMK := Lib.hid hmk
  clear hmk
  go_enter Try.func5, Try.ntmps5
  go_wp2_with fail
  refine (new_any 500 1 2 (by omega) _).mono ?_
  rintro e w1 ⟨rfl, hs, hf⟩
  have HS1 : Hid (LSt w w1 w.heap.size 500 1 2 []) := ⟨_, hs, Nat.le_refl _, NewV.nil _, hf⟩
  have H1 := Lib.hid hf
  clear hs hf
  generalize w.heap.size = g at *
  go_wp2_with (at_builtin; refine wpList_app _ rfl _ _ 22 rfl 37 i0 _ 8 72 Try.underlying22 hi hz0 hz1 hz2 rfl (by decide) _ 0 [] rfl (OwnS.new0 w1 37 8) _ _ l.length (encs l) rfl (HL.out.fr (H1.out.alloc _) fun _ _ hf => hf) ?c1 ?c2 ?c3 ?_)
  case c1 => exact encs_one l
  case c2 => unfold maxLen at *; omega
  case c3 => omega
  intro vi w2 hown hfr hat _
  have hN := app_new (w := w1) (NewV.at w1 0 0) ((Fr.refl _ _).alloc _) hfr (by simpa using hat)
  have HN1 := Lib.hid hN.1
  have HVi := Lib.hid hN.2
  have HOi := Lib.hid (show OwnS w2 37 8 vi l.length (encs l) by simpa using hown)
  obtain ⟨A1, cap1, rfl, ha1, ha2⟩ := hown.form
  clear hown hfr hat hN
  go_wp2_with fail
  refine (answers_any _).mono ?_
  rintro e w3 ⟨rfl, hf3⟩
  have HO3 := Lib.hid (HOi.out.fr hf3 fun _ _ hf => hf)
  have HS3 := Lib.hid (HS1.out.toSep (HN1.out.trans0 hf3) HVi.out HO3.out.lt)
  clear hf3
  go_wp2_with fail
  obtain ⟨v0, hsep⟩ := HS3.out
  have hsep' := Lib.hid hsep
  refine (push_in g v0 500 1 2 [] l _ _ _ hsep.s HO3.out.row (by omega) hsep.sep (by simp; omega) (by simp; omega)).mono ?_
  rintro e w4 ⟨rfl, hto⟩
  rw [List.nil_append] at hto
  obtain ⟨v4, h4, hfr4⟩ := hsep.to hto
  have HO4 := Lib.hid (HO3.out.fr hfr4 fun k hk => hsep'.out.sep k hk)
  have HS4 := Lib.hid h4
  clear hsep hto h4 hfr4 HS3 HOi HN1 HS1
  have HLo := Lib.hid (Loose.of HO4.out (f := 3) (.inr rfl))
  have hb4 : ∀ k, inB (.slice A1 l.length cap1) k → w.heap.size ≤ k := fun k hk => (HS4.out.b0 k hk).1
  have HB4 := Lib.hid hb4
  clear hb4
  go_wp2_with fail
  go_loopw [5] (fun q wr => ∃ k : Nat, k ≤ l.length ∧ q = .int .i64 k ∧ Hid (Loose wr (.slice A1 l.length cap1) l.length 3) ∧ Hid (Sep w wr g v4 500 1 2 l (inB (.slice A1 l.length cap1)))) (fun q _ => l.length - (intOf q).toNat)
  case atStart => exact ⟨0, by omega, rfl, HLo.out, HS4.out⟩
  case round =>
    obtain ⟨k, hk, rfl, HLk, HSk⟩ := hrel
    by_cases hlt : k < l.length
    · obtain ⟨b, rfl⟩ := HLk.out.head (by omega)
      obtain ⟨⟨z, hz⟩, hfz, hnew⟩ := HLk.out.at rfl (by omega) hlt
      have i1 : (k : Int) < l.length := by omega
      have HN := Lib.hid hnew
      clear hnew
      go_wp2_with fail
      go_roundw
      case rel => exact ⟨k + 1, by omega, by go_num, HN.out _, HSk.out.write ((Fr.refl (inB (.slice (some ⟨b, 0, none⟩) l.length cap1)) wr).setCell (p := ⟨b, k * 8 + 3, none⟩) (.inl rfl) _)⟩
      case measure => simp [intOf]; omega
    · have hge : l.length ≤ k := by omega
      clear HLk HLo HO4 HB4 HO3 HS4
      go_wp2_with fail
      refine (all_any g v4 500 1 2 l _ HSk.out.s (by omega)).mono ?_
      rintro e w5 ⟨vo, rfl, ho, hf5, hv5⟩
      have HSo := Lib.hid (HSk.out.lst.toSep hf5 hv5 ho.lt)
      obtain ⟨A2, cap2, rfl, _, _⟩ := ho.form
      have HLo := Lib.hid (Loose.of ho (f := 0) (.inl rfl))
      clear ho hf5 hv5 HSk
      obtain ⟨v5, h5⟩ := HSo.out
      have HS5 := Lib.hid h5
      clear h5 HSo
      go_wp2_with fail
      go_loopw [7] (fun q wr => ∃ k : Nat, k ≤ l.length ∧ q = .int .i64 k ∧ Hid (Loose wr (.slice A2 l.length cap2) l.length 0) ∧ Hid (Sep w wr g v5 500 1 2 l (inB (.slice A2 l.length cap2)))) (fun q _ => l.length - (intOf q).toNat)
      case atStart => exact ⟨0, by omega, rfl, HLo.out, HS5.out⟩
      case round =>
        obtain ⟨m, hm, rfl, HLm, HSm⟩ := hrel
        by_cases hlm : m < l.length
        · obtain ⟨b, rfl⟩ := HLm.out.head (by omega)
          obtain ⟨⟨z, hz⟩, hfz, hnew⟩ := HLm.out.at rfl (by omega) hlm
          simp only [Nat.add_zero] at hz hfz hnew
          have i1 : (m : Int) < l.length := by omega
          have HN := Lib.hid hnew
          clear hnew
          go_wp2_with fail
          go_roundw
          case rel => exact ⟨m + 1, by omega, by go_num, HN.out _, HSm.out.write ((Fr.refl (inB (.slice (some ⟨b, 0, none⟩) l.length cap2)) wr).setCell (p := ⟨b, m * 8, none⟩) (.inl rfl) _)⟩
          case measure => simp [intOf]; omega
        · have hgm : l.length ≤ m := by omega
          have HSL := Lib.hid HSm.out.lst
          clear HLm HSm HLo HS5
          obtain ⟨v6, s6, g6, vv6, f6⟩ := HSL.out
          have HS6 := Lib.hid s6
          have HF6 := Lib.hid f6
          clear s6 f6
          go_wp2_with fail
          refine (all_any g v6 500 1 2 l _ HS6.out (by omega)).mono ?_
          rintro e w6 ⟨vo, rfl, ho, hf6, hv6⟩
          have HR6 := Lib.hid ho.row
          have HSL6 := Lib.hid (HSL.out.fr hf6)
          have HF7 := Lib.hid (HF6.out.trans0 hf6)
          obtain ⟨A3, cap3, rfl, _, _⟩ := ho.form
          clear ho hf6 hv6
          go_wp2_with fail
          refine (same_any _ _ l l _ _ _ HR6.out (HL.out.fr HF7.out fun _ _ hf => hf)).mono ?_
          rw [decide_eq_true (rfl : l = l)]
          rintro e w7 ⟨rfl, n7, hw7⟩
          have hf7 : Fr Nob w6 w7 := by rw [hw7]; exact (Fr.refl Nob w6).drewN n7
          have HSL7 := Lib.hid (HSL6.out.fr hf7)
          clear hw7 hf7 HSL6 HF7 HR6 HS6 HF6 HSL
          go_wp2_with fail
          obtain ⟨v7, s7, g7, vv7, f7⟩ := HSL7.out
          refine (take_apart g v7 500 1 2 l l.length (Nat.le_refl _) _ s7 (by omega)).mono ?_
          rintro e w8 ⟨vt, rfl, ht, hnt, v8, s8, f8, o8⟩
          rw [Nat.sub_self, List.drop_zero] at ht
          rw [Nat.sub_self, List.take_zero] at s8
          have hF8 := Lib.hid (show Fr Nob w w8 from f7.trans f8 fun k hk => by
            rcases hk with rfl | h
            · exact .inr g7
            · exact .inr (vv7 k h))
          have hS8 := Lib.hid (show Sep w w8 g v8 500 1 2 [] (inB vt) from ⟨s8, g7, fun b hb => vv7 b (o8 b hb), hF8.out, fun k hk hs => by
            have hge := hnt k hk
            rcases hs with rfl | h
            · have := s7.1.lt; omega
            · have := s7.2.lt k (o8 k h); omega, fun k hk => ⟨Nat.le_trans f7.size (hnt k hk), ht.lt k hk⟩⟩)
          have HT8 := Lib.hid ht
          obtain ⟨A4, cap4, rfl, _, _⟩ := ht.form
          clear ht hnt s8 f8 o8 s7 g7 vv7 f7 HSL7
          have hmk1 := HMK.out w8
          have hr9 := RowIn.lit w8 37 8 (encs (List.replicate l.length Ob.zero)).toArray l.length (by simp [encs_len]) (by unfold maxLen; omega)
          have hf9 := (Fr.refl Nob w8).alloc (.cells (encs (List.replicate l.length Ob.zero)).toArray 37)
          have hb9 := Blk.new w8 (encs (List.replicate l.length Ob.zero)).toArray 37
          generalize w8.alloc (.cells (encs (List.replicate l.length Ob.zero)).toArray 37) = w9 at *
          have hlr : (List.replicate l.length Ob.zero).length = l.length := by simp
          have HR9 := Lib.hid (show RowIn w9 (fun k => k = w8.heap.size) 8 (.slice (some ⟨w8.heap.size, 0, none⟩) l.length l.length) (List.replicate l.length Ob.zero).length (encs (List.replicate l.length Ob.zero)) by rw [hlr]; simpa using hr9)
          have hS9 := Lib.hid (hS8.out.nob hf9)
          have HT9 := Lib.hid (HT8.out.fr hf9 fun _ _ hf => hf)
          have hg8 := hS8.out.s.1.lt
          have hv8 := Lib.hid (hS8.out.s.2.lt)
          clear hr9 hf9 hb9
          go_wp2_with fail
          refine (push_in g v8 500 1 2 [] (List.replicate l.length Ob.zero) _ _ _ hS9.out.s HR9.out (by omega) (fun k hk hs => by
            subst hk
            rcases hs with h | h
            · omega
            · have := hv8.out _ h; omega) (by simp; omega) (by simp; omega)).mono ?_
          rintro e w10 ⟨rfl, hto⟩
          obtain ⟨v10, hs10, hf10⟩ := hS9.out.to hto
          have HT10 := Lib.hid (HT9.out.fr hf10 fun k hk => hS9.out.sep k hk)
          have HF10 := Lib.hid hs10.f
          clear hto hs10 hf10 hS9 HT9 HR9 hS8 HT8 hF8
          go_wp2_with fail
          refine (pop_none w10).mono ?_
          unfold obV Ob.zero
          rintro e w11 ⟨rfl, hf11⟩
          have HF11 := Lib.hid (hf11)
          clear hf11
          go_wp2_with fail
          refine (take_none 1 _).mono ?_
          rintro e wz ⟨rfl, rfl⟩
          go_wp2_with fail
          refine (top_none 0 _).mono ?_
          unfold obV Ob.zero
          rintro e w12 ⟨rfl, hf12⟩
          have HF12 := Lib.hid ((HF11.out.alloc _).trans0 hf12)
          clear hf12
          go_wp2_with fail
          refine (mark_nil _).mono ?_
          rintro e wz ⟨rfl, rfl⟩
          go_wp2_with fail
          refine (reset_none A l.length cap _).mono ?_
          rintro e wz ⟨rfl, rfl⟩
          go_wp2_with fail
          have hfz := Lib.hid ((HF12.out.alloc (.cells #[.int .i64 0, .bool false, .int .i64 0, .int .i64 0, .string ⟨#[]⟩, .int .i64 0, .int .i64 0, .int .i64 0] 37)))
          refine (same_any _ _ l l _ _ _ (HT10.out.row.fr hfz.out fun _ _ hf => hf) (HL.out.fr (HF10.out.trans0 hfz.out) fun _ _ hf => hf)).mono ?_
          rw [decide_eq_true (rfl : l = l)]
          rintro e w13 ⟨rfl, n13, hw13⟩
          have HF13 := Lib.hid (show Fr Nob w w13 by rw [hw13]; exact (HF10.out.trans0 hfz.out).drewN n13)
          clear hw13
          go_wp2_with fail
          refine (push_none none 0 0 _).mono ?_
          rintro e wz ⟨rfl, rfl⟩
          go_wp2_with fail
          refine (swap_none 0 Ob.zero _).mono ?_
          rintro e w14 ⟨rfl, hf14⟩
          have HF14 := Lib.hid (HF13.out.trans0 hf14)
          clear hf14
          go_wp2_with fail
          refine (roll_none 0 0 _).mono ?_
          rintro e wz ⟨rfl, rfl⟩
          go_wp2_with fail
          refine (need_none none 0 0 _).mono ?_
          rintro e wz ⟨rfl, rfl⟩
          go_wp2_with fail
          refine (len_none _).mono ?_
          rintro e wz ⟨rfl, rfl⟩
          go_wp2_with fail
          refine (all_none _).mono ?_
          rintro e wz ⟨rfl, rfl⟩
          go_wp2_with fail
          go_ret
          exact ⟨rfl, HF14.out⟩
theorem keeps_walk (v : Value) (l : List Ob) (w : World) (hl : RowIn w (Lt w) 8 v l.length (encs l)) (hs : l.length * 72 ≤ 140737488351232) :
    Calls Try.prog 5 #[v] w fun e w' => e = .returned (.bool true) ∧ Fr Nob w w' := by
  by_cases hb : l.length ≤ 300
  · exact keeps_near v l w hl hb
  · exact keeps_far v l w hl hs (by omega)
end Go.Proofs.Ytdkgbakapinidaa
