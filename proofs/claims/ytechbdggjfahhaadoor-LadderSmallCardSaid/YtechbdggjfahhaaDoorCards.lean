/-
  DERIVED. GIVEN WITH THE SEED: THE CARDS: each row of YtechbdggjfahhaaDoorRows.lean that lists a variable, with what it lists TIED to the program's text (the seventh form; the later family's looks); each row that meets fmt, with fmt's text TOLD by the authors' own Lean function (tested against real Go, not proved from fmt's source: count such statements apart). THE CARD IS WHAT COUNTS. Prove the row's statement (the work); the ties are given (YtechbdggjfahhaaDoorTie.lean); close each card by the builder's one call (the guide's Derived/Test/ToyasCard.lean, 'card_holds'). Laid BY PROGRAM, IN A SANDBOX (cutbox-door.mjs). By AI agents, Wed Nov 11 2026. No macro, syntax, notation, axiom, sorry.
-/
import Derived.Test.YtechbdggjfahhaaDoorRows
import GoSem.ClaimSeven
namespace Go.Proofs.YtechbdggjfahhaaDoor
namespace Rows

/-- THE TIED CARD OF 'sheavelaw02.LadderTrims'. -/
def ladderTrimsCard : Claim7 := { stood := { row := ladderTrimsRow, standIns := [], harness := (true, "55c14da7b609418be6506695e36e8b59a336120057674c88a691033f46652a81"), looks := false }, kinds := [], alts := [], laidByText := true, laidKinds := [.data, .data], laidTests := true, laidLooks := .later }
def LadderTrimsCardSaid : Prop := Claim7.holds Tryd.pinned (.plain (OpenSpec.ofChange ladderTrimsSpec)) ladderTrimsCard

/-- THE TIED CARD OF 'sheavelaw02.LadderTimes'. -/
def ladderTimesCard : Claim7 := { stood := { row := ladderTimesRow, standIns := [], harness := (true, "55c14da7b609418be6506695e36e8b59a336120057674c88a691033f46652a81"), looks := false }, kinds := [], alts := [], laidByText := true, laidKinds := [.data, .data], laidTests := true, laidLooks := .later }
def LadderTimesCardSaid : Prop := Claim7.holds Tryd.pinned (.plain (OpenSpec.ofChange ladderTimesSpec)) ladderTimesCard

/-- THE TIED CARD OF 'sheavelaw02.LadderShares'. -/
def ladderSharesCard : Claim7 := { stood := { row := ladderSharesRow, standIns := [], harness := (true, "55c14da7b609418be6506695e36e8b59a336120057674c88a691033f46652a81"), looks := false }, kinds := [], alts := [], laidByText := true, laidKinds := [.data, .data], laidTests := true, laidLooks := .later }
def LadderSharesCardSaid : Prop := Claim7.holds Tryd.pinned (.plain (OpenSpec.ofChange ladderSharesSpec)) ladderSharesCard

/-- THE TIED CARD OF 'sheavelaw02.LadderSmall'. -/
def ladderSmallCard : Claim7 := { stood := { row := ladderSmallRow, standIns := [], harness := (true, "55c14da7b609418be6506695e36e8b59a336120057674c88a691033f46652a81"), looks := false }, kinds := [], alts := [], laidByText := true, laidKinds := [.data, .data], laidTests := true, laidLooks := .later }
def LadderSmallCardSaid : Prop := Claim7.holds Tryd.pinned (.plain (OpenSpec.ofChange ladderSmallSpec)) ladderSmallCard

/-- THE TIED CARD OF 'sheavelaw02.LadderBits'. -/
def ladderBitsCard : Claim7 := { stood := { row := ladderBitsRow, standIns := [], harness := (true, "55c14da7b609418be6506695e36e8b59a336120057674c88a691033f46652a81"), looks := false }, kinds := [], alts := [], laidByText := true, laidKinds := [.data, .data], laidTests := true, laidLooks := .later }
def LadderBitsCardSaid : Prop := Claim7.holds Tryd.pinned (.plain (OpenSpec.ofChange ladderBitsSpec)) ladderBitsCard

/-- THE TIED CARD OF 'sheavelaw02.LadderPublic'. -/
def ladderPublicCard : Claim7 := { stood := { row := ladderPublicRow, standIns := [], harness := (true, "55c14da7b609418be6506695e36e8b59a336120057674c88a691033f46652a81"), looks := false }, kinds := [], alts := [], laidByText := true, laidKinds := [.data, .data, .data], laidTests := true, laidLooks := .later }
def LadderPublicCardSaid : Prop := Claim7.holds Tryd.pinned (.plain (OpenSpec.ofChange ladderPublicSpec)) ladderPublicCard

/-- THE TIED CARD OF 'sheavelaw02.LadderAgrees'. -/
def ladderAgreesCard : Claim7 := { stood := { row := ladderAgreesRow, standIns := [], harness := (true, "55c14da7b609418be6506695e36e8b59a336120057674c88a691033f46652a81"), looks := false }, kinds := [], alts := [], laidByText := true, laidKinds := [.data, .data, .data], laidTests := true, laidLooks := .later }
def LadderAgreesCardSaid : Prop := Claim7.holds Tryd.pinned (.plain (OpenSpec.ofChange ladderAgreesSpec)) ladderAgreesCard

/-- THE TIED CARD OF 'sheavelaw02.LadderNine'. -/
def ladderNineCard : Claim7 := { stood := { row := ladderNineRow, standIns := [], harness := (true, "55c14da7b609418be6506695e36e8b59a336120057674c88a691033f46652a81"), looks := false }, kinds := [], alts := [], laidByText := true, laidKinds := [.data, .data, .data], laidTests := true, laidLooks := .later }
def LadderNineCardSaid : Prop := Claim7.holds Tryd.pinned (.plain (OpenSpec.ofChange ladderNineSpec)) ladderNineCard

/-- THE SECOND FORM's CARD OF 'sheavelaw02.LadderTrims'. -/
def ladderTrimsUptoCard : Claim7 := { stood := { row := ladderTrimsUptoRow, standIns := [], harness := (true, "55c14da7b609418be6506695e36e8b59a336120057674c88a691033f46652a81"), looks := false }, kinds := [], alts := [], laidByText := true, laidKinds := [.data, .data], laidTests := true, laidLooks := .later }
def LadderTrimsUptoCardSaid : Prop := Claim7.holds Tryd.pinned (.plain (OpenSpec.upto ladderTrimsSpec)) ladderTrimsUptoCard

/-- THE SECOND FORM's CARD OF 'sheavelaw02.LadderTimes'. -/
def ladderTimesUptoCard : Claim7 := { stood := { row := ladderTimesUptoRow, standIns := [], harness := (true, "55c14da7b609418be6506695e36e8b59a336120057674c88a691033f46652a81"), looks := false }, kinds := [], alts := [], laidByText := true, laidKinds := [.data, .data], laidTests := true, laidLooks := .later }
def LadderTimesUptoCardSaid : Prop := Claim7.holds Tryd.pinned (.plain (OpenSpec.upto ladderTimesSpec)) ladderTimesUptoCard

/-- THE SECOND FORM's CARD OF 'sheavelaw02.LadderShares'. -/
def ladderSharesUptoCard : Claim7 := { stood := { row := ladderSharesUptoRow, standIns := [], harness := (true, "55c14da7b609418be6506695e36e8b59a336120057674c88a691033f46652a81"), looks := false }, kinds := [], alts := [], laidByText := true, laidKinds := [.data, .data], laidTests := true, laidLooks := .later }
def LadderSharesUptoCardSaid : Prop := Claim7.holds Tryd.pinned (.plain (OpenSpec.upto ladderSharesSpec)) ladderSharesUptoCard

/-- THE SECOND FORM's CARD OF 'sheavelaw02.LadderSmall'. -/
def ladderSmallUptoCard : Claim7 := { stood := { row := ladderSmallUptoRow, standIns := [], harness := (true, "55c14da7b609418be6506695e36e8b59a336120057674c88a691033f46652a81"), looks := false }, kinds := [], alts := [], laidByText := true, laidKinds := [.data, .data], laidTests := true, laidLooks := .later }
def LadderSmallUptoCardSaid : Prop := Claim7.holds Tryd.pinned (.plain (OpenSpec.upto ladderSmallSpec)) ladderSmallUptoCard

/-- THE SECOND FORM's CARD OF 'sheavelaw02.LadderBits'. -/
def ladderBitsUptoCard : Claim7 := { stood := { row := ladderBitsUptoRow, standIns := [], harness := (true, "55c14da7b609418be6506695e36e8b59a336120057674c88a691033f46652a81"), looks := false }, kinds := [], alts := [], laidByText := true, laidKinds := [.data, .data], laidTests := true, laidLooks := .later }
def LadderBitsUptoCardSaid : Prop := Claim7.holds Tryd.pinned (.plain (OpenSpec.upto ladderBitsSpec)) ladderBitsUptoCard

/-- THE SECOND FORM's CARD OF 'sheavelaw02.LadderPublic'. -/
def ladderPublicUptoCard : Claim7 := { stood := { row := ladderPublicUptoRow, standIns := [], harness := (true, "55c14da7b609418be6506695e36e8b59a336120057674c88a691033f46652a81"), looks := false }, kinds := [], alts := [], laidByText := true, laidKinds := [.data, .data, .data], laidTests := true, laidLooks := .later }
def LadderPublicUptoCardSaid : Prop := Claim7.holds Tryd.pinned (.plain (OpenSpec.upto ladderPublicSpec)) ladderPublicUptoCard

/-- THE SECOND FORM's CARD OF 'sheavelaw02.LadderAgrees'. -/
def ladderAgreesUptoCard : Claim7 := { stood := { row := ladderAgreesUptoRow, standIns := [], harness := (true, "55c14da7b609418be6506695e36e8b59a336120057674c88a691033f46652a81"), looks := false }, kinds := [], alts := [], laidByText := true, laidKinds := [.data, .data, .data], laidTests := true, laidLooks := .later }
def LadderAgreesUptoCardSaid : Prop := Claim7.holds Tryd.pinned (.plain (OpenSpec.upto ladderAgreesSpec)) ladderAgreesUptoCard

/-- THE SECOND FORM's CARD OF 'sheavelaw02.LadderNine'. -/
def ladderNineUptoCard : Claim7 := { stood := { row := ladderNineUptoRow, standIns := [], harness := (true, "55c14da7b609418be6506695e36e8b59a336120057674c88a691033f46652a81"), looks := false }, kinds := [], alts := [], laidByText := true, laidKinds := [.data, .data, .data], laidTests := true, laidLooks := .later }
def LadderNineUptoCardSaid : Prop := Claim7.holds Tryd.pinned (.plain (OpenSpec.upto ladderNineSpec)) ladderNineUptoCard
end Rows
end Go.Proofs.YtechbdggjfahhaaDoor
