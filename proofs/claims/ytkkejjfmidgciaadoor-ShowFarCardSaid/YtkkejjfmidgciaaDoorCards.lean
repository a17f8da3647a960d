/-
  DERIVED. GIVEN WITH THE SEED: THE CARDS: each row of YtkkejjfmidgciaaDoorRows.lean that lists a variable, with what it lists TIED to the program's text (the seventh form; the later family's looks); each row that meets fmt, with fmt's text TOLD by the authors' own Lean function (tested against real Go, not proved from fmt's source: count such statements apart). THE CARD IS WHAT COUNTS. Prove the row's statement (the work); the ties are given (YtkkejjfmidgciaaDoorTie.lean); close each card by the builder's one call (the guide's Derived/Test/ToyasCard.lean, 'card_holds'). Laid BY PROGRAM, IN A SANDBOX (cutbox-door.mjs). By AI agents, Wed Nov 11 2026. No macro, syntax, notation, axiom, sorry.
-/
import Derived.Test.YtkkejjfmidgciaaDoorRows
import GoSem.ClaimSeven
namespace Go.Proofs.YtkkejjfmidgciaaDoor
namespace Rows

/-- THE TIED CARD OF 'mezzotintlaw15.PaintSound'. -/
def paintSoundCard : Claim7 := { stood := { row := paintSoundRow, standIns := [], harness := (true, "ca0fb23ced8d412f99fea63fd406a3f5e8e0afcd98cd82055f6919c7c1d9ccb1"), looks := false }, kinds := [], alts := [], laidByText := true, laidKinds := [.data], laidTests := true, laidLooks := .later }
def PaintSoundCardSaid : Prop := Claim7.holds Tryd.pinned (.plain (OpenSpec.ofChange paintSoundSpec)) paintSoundCard

/-- THE TIED CARD OF 'mezzotintlaw15.PaintApart'. -/
def paintApartCard : Claim7 := { stood := { row := paintApartRow, standIns := [], harness := (true, "ca0fb23ced8d412f99fea63fd406a3f5e8e0afcd98cd82055f6919c7c1d9ccb1"), looks := false }, kinds := [], alts := [], laidByText := true, laidKinds := [.data], laidTests := true, laidLooks := .later }
def PaintApartCardSaid : Prop := Claim7.holds Tryd.pinned (.plain (OpenSpec.ofChange paintApartSpec)) paintApartCard

/-- THE TIED CARD OF 'mezzotintlaw16.ShowFar'. -/
def showFarCard : Claim7 := { stood := { row := showFarRow, standIns := [], harness := (true, "ca0fb23ced8d412f99fea63fd406a3f5e8e0afcd98cd82055f6919c7c1d9ccb1"), looks := false }, kinds := [], alts := [], laidByText := true, laidKinds := [.data], laidTests := true, laidLooks := .later }
def ShowFarCardSaid : Prop := Claim7.holds Tryd.pinned (.plain (OpenSpec.ofChange showFarSpec)) showFarCard

/-- THE TIED CARD OF 'mezzotintlaw14.GstateBalanced'. -/
def gstateBalancedCard : Claim7 := { stood := { row := gstateBalancedRow, standIns := [], harness := (true, "ca0fb23ced8d412f99fea63fd406a3f5e8e0afcd98cd82055f6919c7c1d9ccb1"), looks := false }, kinds := [], alts := [], laidByText := true, laidKinds := [.data], laidTests := true, laidLooks := .later }
def GstateBalancedCardSaid : Prop := Claim7.holds Tryd.pinned (.plain (OpenSpec.ofChange gstateBalancedSpec)) gstateBalancedCard

/-- THE TIED CARD OF 'mezzotintlaw14.GstateApart'. -/
def gstateApartCard : Claim7 := { stood := { row := gstateApartRow, standIns := [], harness := (true, "ca0fb23ced8d412f99fea63fd406a3f5e8e0afcd98cd82055f6919c7c1d9ccb1"), looks := false }, kinds := [], alts := [], laidByText := true, laidKinds := [.data], laidTests := true, laidLooks := .later }
def GstateApartCardSaid : Prop := Claim7.holds Tryd.pinned (.plain (OpenSpec.ofChange gstateApartSpec)) gstateApartCard

/-- THE TIED CARD OF 'mezzotintlaw14.GstateNone'. -/
def gstateNoneCard : Claim7 := { stood := { row := gstateNoneRow, standIns := [], harness := (true, "ca0fb23ced8d412f99fea63fd406a3f5e8e0afcd98cd82055f6919c7c1d9ccb1"), looks := false }, kinds := [], alts := [], laidByText := true, laidKinds := [.data], laidTests := true, laidLooks := .later }
def GstateNoneCardSaid : Prop := Claim7.holds Tryd.pinned (.plain (OpenSpec.ofChange gstateNoneSpec)) gstateNoneCard

/-- THE TIED CARD OF 'mezzotintlaw16.ShowNone'. -/
def showNoneCard : Claim7 := { stood := { row := showNoneRow, standIns := [], harness := (true, "ca0fb23ced8d412f99fea63fd406a3f5e8e0afcd98cd82055f6919c7c1d9ccb1"), looks := false }, kinds := [], alts := [], laidByText := true, laidKinds := [.data], laidTests := true, laidLooks := .later }
def ShowNoneCardSaid : Prop := Claim7.holds Tryd.pinned (.plain (OpenSpec.ofChange showNoneSpec)) showNoneCard

/-- THE TIED CARD OF 'mezzotintlaw16.ShowAgain'. -/
def showAgainCard : Claim7 := { stood := { row := showAgainRow, standIns := [], harness := (true, "ca0fb23ced8d412f99fea63fd406a3f5e8e0afcd98cd82055f6919c7c1d9ccb1"), looks := false }, kinds := [], alts := [], laidByText := true, laidKinds := [.data], laidTests := true, laidLooks := .later }
def ShowAgainCardSaid : Prop := Claim7.holds Tryd.pinned (.plain (OpenSpec.ofChange showAgainSpec)) showAgainCard

/-- THE SECOND FORM's CARD OF 'mezzotintlaw15.PaintSound'. -/
def paintSoundUptoCard : Claim7 := { stood := { row := paintSoundUptoRow, standIns := [], harness := (true, "ca0fb23ced8d412f99fea63fd406a3f5e8e0afcd98cd82055f6919c7c1d9ccb1"), looks := false }, kinds := [], alts := [], laidByText := true, laidKinds := [.data], laidTests := true, laidLooks := .later }
def PaintSoundUptoCardSaid : Prop := Claim7.holds Tryd.pinned (.plain (OpenSpec.upto paintSoundSpec)) paintSoundUptoCard

/-- THE SECOND FORM's CARD OF 'mezzotintlaw15.PaintApart'. -/
def paintApartUptoCard : Claim7 := { stood := { row := paintApartUptoRow, standIns := [], harness := (true, "ca0fb23ced8d412f99fea63fd406a3f5e8e0afcd98cd82055f6919c7c1d9ccb1"), looks := false }, kinds := [], alts := [], laidByText := true, laidKinds := [.data], laidTests := true, laidLooks := .later }
def PaintApartUptoCardSaid : Prop := Claim7.holds Tryd.pinned (.plain (OpenSpec.upto paintApartSpec)) paintApartUptoCard

/-- THE SECOND FORM's CARD OF 'mezzotintlaw16.ShowFar'. -/
def showFarUptoCard : Claim7 := { stood := { row := showFarUptoRow, standIns := [], harness := (true, "ca0fb23ced8d412f99fea63fd406a3f5e8e0afcd98cd82055f6919c7c1d9ccb1"), looks := false }, kinds := [], alts := [], laidByText := true, laidKinds := [.data], laidTests := true, laidLooks := .later }
def ShowFarUptoCardSaid : Prop := Claim7.holds Tryd.pinned (.plain (OpenSpec.upto showFarSpec)) showFarUptoCard

/-- THE SECOND FORM's CARD OF 'mezzotintlaw14.GstateBalanced'. -/
def gstateBalancedUptoCard : Claim7 := { stood := { row := gstateBalancedUptoRow, standIns := [], harness := (true, "ca0fb23ced8d412f99fea63fd406a3f5e8e0afcd98cd82055f6919c7c1d9ccb1"), looks := false }, kinds := [], alts := [], laidByText := true, laidKinds := [.data], laidTests := true, laidLooks := .later }
def GstateBalancedUptoCardSaid : Prop := Claim7.holds Tryd.pinned (.plain (OpenSpec.upto gstateBalancedSpec)) gstateBalancedUptoCard

/-- THE SECOND FORM's CARD OF 'mezzotintlaw14.GstateApart'. -/
def gstateApartUptoCard : Claim7 := { stood := { row := gstateApartUptoRow, standIns := [], harness := (true, "ca0fb23ced8d412f99fea63fd406a3f5e8e0afcd98cd82055f6919c7c1d9ccb1"), looks := false }, kinds := [], alts := [], laidByText := true, laidKinds := [.data], laidTests := true, laidLooks := .later }
def GstateApartUptoCardSaid : Prop := Claim7.holds Tryd.pinned (.plain (OpenSpec.upto gstateApartSpec)) gstateApartUptoCard

/-- THE SECOND FORM's CARD OF 'mezzotintlaw14.GstateNone'. -/
def gstateNoneUptoCard : Claim7 := { stood := { row := gstateNoneUptoRow, standIns := [], harness := (true, "ca0fb23ced8d412f99fea63fd406a3f5e8e0afcd98cd82055f6919c7c1d9ccb1"), looks := false }, kinds := [], alts := [], laidByText := true, laidKinds := [.data], laidTests := true, laidLooks := .later }
def GstateNoneUptoCardSaid : Prop := Claim7.holds Tryd.pinned (.plain (OpenSpec.upto gstateNoneSpec)) gstateNoneUptoCard

/-- THE SECOND FORM's CARD OF 'mezzotintlaw16.ShowNone'. -/
def showNoneUptoCard : Claim7 := { stood := { row := showNoneUptoRow, standIns := [], harness := (true, "ca0fb23ced8d412f99fea63fd406a3f5e8e0afcd98cd82055f6919c7c1d9ccb1"), looks := false }, kinds := [], alts := [], laidByText := true, laidKinds := [.data], laidTests := true, laidLooks := .later }
def ShowNoneUptoCardSaid : Prop := Claim7.holds Tryd.pinned (.plain (OpenSpec.upto showNoneSpec)) showNoneUptoCard

/-- THE SECOND FORM's CARD OF 'mezzotintlaw16.ShowAgain'. -/
def showAgainUptoCard : Claim7 := { stood := { row := showAgainUptoRow, standIns := [], harness := (true, "ca0fb23ced8d412f99fea63fd406a3f5e8e0afcd98cd82055f6919c7c1d9ccb1"), looks := false }, kinds := [], alts := [], laidByText := true, laidKinds := [.data], laidTests := true, laidLooks := .later }
def ShowAgainUptoCardSaid : Prop := Claim7.holds Tryd.pinned (.plain (OpenSpec.upto showAgainSpec)) showAgainUptoCard
end Rows
end Go.Proofs.YtkkejjfmidgciaaDoor
