/-
  StackActs: its frames, the code of its switch. No walk.
-/
import Derived.Test.YtdkgbakapinidaaA1
import Derived.Test.YtdkgbakapinidaaFK
namespace Go.Proofs.Ytdkgbakapinidaa
open Go.RowKit
set_option linter.unusedVariables false
set_option linter.unusedSimpArgs false
noncomputable def actsBody : Code := ((Try.f4.body.bind firstLoop).getD .skip)
noncomputable def swCode : Code := ((Try.f4.body.bind (blockOf 2)).getD .skip)
set_option maxRecDepth 100000
/-- A frame of the law: what stands in the slots that matter; u: the others. -/
def FR (s0 s1 s5 s6 s7 s8 s9 s10 s11 s12 s13 s14 s15 s67 : Value) (u : Nat → Value) : Act := ⟨#[s0, s1, u 2, u 3, u 4, s5, s6, s7, s8, s9, s10, s11, s12, s13, s14, s15, u 16, u 17, u 18, u 19, u 20, u 21, u 22, u 23, u 24, u 25, u 26, u 27, u 28, u 29, u 30, u 31, u 32, u 33, u 34, u 35, u 36, u 37, u 38, u 39, u 40, u 41, u 42, u 43, u 44, u 45, u 46, u 47, u 48, u 49, u 50, u 51, u 52, u 53, u 54, u 55, u 56, u 57, u 58, u 59, u 60, u 61, u 62, u 63, u 64, u 65, u 66, s67, u 68, u 69, u 70, u 71, u 72, u 73, u 74, u 75, u 76, u 77, u 78, u 79, u 80, u 81, u 82, u 83, u 84, u 85, u 86, u 87, u 88, u 89, u 90, u 91, u 92, u 93, u 94, u 95, u 96, u 97, u 98, u 99, u 100, u 101, u 102, u 103, u 104, u 105, u 106, u 107, u 108, u 109, u 110, u 111, u 112, u 113, u 114, u 115, u 116, u 117, u 118, u 119, u 120, u 121, u 122, u 123, u 124, u 125, u 126, u 127, u 128, u 129, u 130, u 131, u 132, u 133, u 134, u 135, u 136, u 137, u 138, u 139, u 140, u 141, u 142, u 143, u 144, u 145, u 146, u 147, u 148, u 149, u 150, u 151, u 152, u 153, u 154, u 155, u 156, u 157, u 158, u 159, u 160, u 161, u 162, u 163, u 164, u 165, u 166, u 167, u 168, u 169, u 170, u 171, u 172, u 173, u 174, u 175, u 176, u 177, u 178, u 179, u 180, u 181, u 182, u 183, u 184, u 185, u 186, u 187, u 188, u 189, u 190, u 191, u 192, u 193, u 194, u 195, u 196, u 197, u 198, u 199, u 200, u 201, u 202, u 203, u 204, u 205, u 206, u 207, u 208, u 209, u 210, u 211, u 212, u 213, u 214, u 215, u 216, u 217, u 218, u 219, u 220, u 221, u 222, u 223, u 224, u 225, u 226, u 227, u 228, u 229, u 230, u 231, u 232, u 233, u 234, u 235, u 236, u 237, u 238, u 239, u 240, u 241, u 242, u 243, u 244, u 245, u 246, u 247, u 248, u 249, u 250, u 251, u 252, u 253, u 254, u 255, u 256, u 257, u 258, u 259, u 260, u 261, u 262, u 263, u 264, u 265, u 266, u 267, u 268, u 269, u 270, u 271, u 272, u 273, u 274, u 275, u 276, u 277, u 278, u 279, u 280, u 281, u 282, u 283, u 284, u 285, u 286, u 287, u 288, u 289, u 290, u 291, u 292, u 293, u 294, u 295, u 296, u 297, u 298, u 299, u 300, u 301, u 302, u 303, u 304, u 305, u 306, u 307, u 308, u 309, u 310, u 311, u 312, u 313, u 314, u 315, u 316, u 317, u 318, u 319, u 320, u 321, u 322, u 323, u 324, u 325, u 326, u 327, u 328, u 329, u 330, u 331, u 332, u 333, u 334, u 335, u 336, u 337, u 338, u 339, u 340, u 341, u 342, u 343, u 344, u 345, u 346, u 347, u 348, u 349, u 350, u 351, u 352, u 353, u 354, u 355, u 356, u 357, u 358, u 359, u 360, u 361, u 362, u 363], []⟩
theorem FR.of (a : Act) (hd : a.defers = []) (hs : a.tmps.size = 364) : a = FR (a.tmps.getD 0 undef) (a.tmps.getD 1 undef) (a.tmps.getD 5 undef) (a.tmps.getD 6 undef) (a.tmps.getD 7 undef) (a.tmps.getD 8 undef) (a.tmps.getD 9 undef) (a.tmps.getD 10 undef) (a.tmps.getD 11 undef) (a.tmps.getD 12 undef) (a.tmps.getD 13 undef) (a.tmps.getD 14 undef) (a.tmps.getD 15 undef) (a.tmps.getD 67 undef) (fun i => a.tmps.getD i undef) := by
  obtain ⟨t, d⟩ := a
  dsimp only at hd hs
  subst hd
  have e := arr_range t 364 hs
  dsimp only
  unfold FR
  congr 1
/-- What stands behind the switch. -/
def ActsQ (w : World) (g : Nat) (km : Int) (B : Nat) (av kv : Value) (a : Act) (wc : World) : Prop :=
  ∃ (mv e want got list x y z : Value) (u : Nat → Value), ActsP w g km B mv e want got list wc ∧ a = FR (.int .i64 km) av (.int .i64 12) (.int .i64 13) (.pointer (some ⟨g, 0, none⟩)) mv kv x y e want got list z u
theorem ActsQ.mk {w : World} {g : Nat} {km : Int} {B : Nat} {av kv : Value} {a : Act} {wc : World} (hd : a.defers = []) (hs : a.tmps.size = 364) (e0 : a.tmps.getD 0 undef = .int .i64 km) (e1 : a.tmps.getD 1 undef = av) (e5 : a.tmps.getD 5 undef = .int .i64 12) (e6 : a.tmps.getD 6 undef = .int .i64 13)
    (e7 : a.tmps.getD 7 undef = .pointer (some ⟨g, 0, none⟩)) (e9 : a.tmps.getD 9 undef = kv)
    (h : ActsP w g km B (a.tmps.getD 8 undef) (a.tmps.getD 12 undef) (a.tmps.getD 13 undef) (a.tmps.getD 14 undef) (a.tmps.getD 15 undef) wc) : ActsQ w g km B av kv a wc := by
  refine ⟨_, _, _, _, _, a.tmps.getD 10 undef, a.tmps.getD 11 undef, a.tmps.getD 67 undef, fun i => a.tmps.getD i undef, h, ?_⟩
  rw [← e0, ← e1, ← e5, ← e6, ← e7, ← e9]
  exact FR.of a hd hs
end Go.Proofs.Ytdkgbakapinidaa
