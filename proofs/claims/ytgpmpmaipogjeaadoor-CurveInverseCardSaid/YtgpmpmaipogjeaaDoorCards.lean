/-
  DERIVED. GIVEN WITH THE SEED: THE CARDS: each row of YtgpmpmaipogjeaaDoorRows.lean that lists a variable, with what it lists TIED to the program's text (the seventh form; the later family's looks); each row that meets fmt, with fmt's text TOLD by the authors' own Lean function (tested against real Go, not proved from fmt's source: count such statements apart). THE CARD IS WHAT COUNTS. Prove the row's statement (the work); the ties are given (YtgpmpmaipogjeaaDoorTie.lean); close each card by the builder's one call (the guide's Derived/Test/ToyasCard.lean, 'card_holds'). Laid BY PROGRAM, IN A SANDBOX (cutbox-door.mjs). By AI agents, Wed Nov 11 2026. No macro, syntax, notation, axiom, sorry.
-/
import Derived.Test.YtgpmpmaipogjeaaDoorRows
import GoSem.ClaimSeven
namespace Go.Proofs.YtgpmpmaipogjeaaDoor
namespace Rows

/-- THE TIED CARD OF 'sheavelaw01.CurveSubs'. -/
def curveSubsCard : Claim7 := { stood := { row := curveSubsRow, standIns := [], harness := (true, "7cc30051da093e6d0d6c5a1045511128e3efbe0402665d4fa274c1c16bc5e93a"), looks := false }, kinds := [], alts := [], laidByText := true, laidKinds := [.data], laidTests := true, laidLooks := .later }
def CurveSubsCardSaid : Prop := Claim7.holds Tryd.pinned (.plain (OpenSpec.ofChange curveSubsSpec)) curveSubsCard

/-- THE TIED CARD OF 'sheavelaw01.CurveMuls'. -/
def curveMulsCard : Claim7 := { stood := { row := curveMulsRow, standIns := [], harness := (true, "7cc30051da093e6d0d6c5a1045511128e3efbe0402665d4fa274c1c16bc5e93a"), looks := false }, kinds := [], alts := [], laidByText := true, laidKinds := [.data], laidTests := true, laidLooks := .later }
def CurveMulsCardSaid : Prop := Claim7.holds Tryd.pinned (.plain (OpenSpec.ofChange curveMulsSpec)) curveMulsCard

/-- THE TIED CARD OF 'sheavelaw01.CurveInverts'. -/
def curveInvertsCard : Claim7 := { stood := { row := curveInvertsRow, standIns := [], harness := (true, "7cc30051da093e6d0d6c5a1045511128e3efbe0402665d4fa274c1c16bc5e93a"), looks := false }, kinds := [], alts := [], laidByText := true, laidKinds := [.data], laidTests := true, laidLooks := .later }
def CurveInvertsCardSaid : Prop := Claim7.holds Tryd.pinned (.plain (OpenSpec.ofChange curveInvertsSpec)) curveInvertsCard

/-- THE TIED CARD OF 'sheavelaw01.CurveInverse'. -/
def curveInverseCard : Claim7 := { stood := { row := curveInverseRow, standIns := [], harness := (true, "7cc30051da093e6d0d6c5a1045511128e3efbe0402665d4fa274c1c16bc5e93a"), looks := false }, kinds := [], alts := [], laidByText := true, laidKinds := [.data], laidTests := true, laidLooks := .later }
def CurveInverseCardSaid : Prop := Claim7.holds Tryd.pinned (.plain (OpenSpec.ofChange curveInverseSpec)) curveInverseCard

/-- THE TIED CARD OF 'sheavelaw01.CurveTwice'. -/
def curveTwiceCard : Claim7 := { stood := { row := curveTwiceRow, standIns := [], harness := (true, "7cc30051da093e6d0d6c5a1045511128e3efbe0402665d4fa274c1c16bc5e93a"), looks := false }, kinds := [], alts := [], laidByText := true, laidKinds := [.data], laidTests := true, laidLooks := .later }
def CurveTwiceCardSaid : Prop := Claim7.holds Tryd.pinned (.plain (OpenSpec.ofChange curveTwiceSpec)) curveTwiceCard

/-- THE TIED CARD OF 'sheavelaw01.CurveAdds'. -/
def curveAddsCard : Claim7 := { stood := { row := curveAddsRow, standIns := [], harness := (true, "7cc30051da093e6d0d6c5a1045511128e3efbe0402665d4fa274c1c16bc5e93a"), looks := false }, kinds := [], alts := [], laidByText := true, laidKinds := [.data], laidTests := true, laidLooks := .later }
def CurveAddsCardSaid : Prop := Claim7.holds Tryd.pinned (.plain (OpenSpec.ofChange curveAddsSpec)) curveAddsCard

/-- THE TIED CARD OF 'sheavelaw01.CurveSquares'. -/
def curveSquaresCard : Claim7 := { stood := { row := curveSquaresRow, standIns := [], harness := (true, "7cc30051da093e6d0d6c5a1045511128e3efbe0402665d4fa274c1c16bc5e93a"), looks := false }, kinds := [], alts := [], laidByText := true, laidKinds := [.data], laidTests := true, laidLooks := .later }
def CurveSquaresCardSaid : Prop := Claim7.holds Tryd.pinned (.plain (OpenSpec.ofChange curveSquaresSpec)) curveSquaresCard

/-- THE TIED CARD OF 'sheavelaw01.CurveSides'. -/
def curveSidesCard : Claim7 := { stood := { row := curveSidesRow, standIns := [], harness := (true, "7cc30051da093e6d0d6c5a1045511128e3efbe0402665d4fa274c1c16bc5e93a"), looks := false }, kinds := [], alts := [], laidByText := true, laidKinds := [.data], laidTests := true, laidLooks := .later }
def CurveSidesCardSaid : Prop := Claim7.holds Tryd.pinned (.plain (OpenSpec.ofChange curveSidesSpec)) curveSidesCard

/-- THE TIED CARD OF 'sheavelaw01.CurveGroups'. -/
def curveGroupsCard : Claim7 := { stood := { row := curveGroupsRow, standIns := [], harness := (true, "7cc30051da093e6d0d6c5a1045511128e3efbe0402665d4fa274c1c16bc5e93a"), looks := false }, kinds := [], alts := [], laidByText := true, laidKinds := [.data], laidTests := true, laidLooks := .later }
def CurveGroupsCardSaid : Prop := Claim7.holds Tryd.pinned (.plain (OpenSpec.ofChange curveGroupsSpec)) curveGroupsCard

/-- THE SECOND FORM's CARD OF 'sheavelaw01.CurveSubs'. -/
def curveSubsUptoCard : Claim7 := { stood := { row := curveSubsUptoRow, standIns := [], harness := (true, "7cc30051da093e6d0d6c5a1045511128e3efbe0402665d4fa274c1c16bc5e93a"), looks := false }, kinds := [], alts := [], laidByText := true, laidKinds := [.data], laidTests := true, laidLooks := .later }
def CurveSubsUptoCardSaid : Prop := Claim7.holds Tryd.pinned (.plain (OpenSpec.upto curveSubsSpec)) curveSubsUptoCard

/-- THE SECOND FORM's CARD OF 'sheavelaw01.CurveMuls'. -/
def curveMulsUptoCard : Claim7 := { stood := { row := curveMulsUptoRow, standIns := [], harness := (true, "7cc30051da093e6d0d6c5a1045511128e3efbe0402665d4fa274c1c16bc5e93a"), looks := false }, kinds := [], alts := [], laidByText := true, laidKinds := [.data], laidTests := true, laidLooks := .later }
def CurveMulsUptoCardSaid : Prop := Claim7.holds Tryd.pinned (.plain (OpenSpec.upto curveMulsSpec)) curveMulsUptoCard

/-- THE SECOND FORM's CARD OF 'sheavelaw01.CurveInverts'. -/
def curveInvertsUptoCard : Claim7 := { stood := { row := curveInvertsUptoRow, standIns := [], harness := (true, "7cc30051da093e6d0d6c5a1045511128e3efbe0402665d4fa274c1c16bc5e93a"), looks := false }, kinds := [], alts := [], laidByText := true, laidKinds := [.data], laidTests := true, laidLooks := .later }
def CurveInvertsUptoCardSaid : Prop := Claim7.holds Tryd.pinned (.plain (OpenSpec.upto curveInvertsSpec)) curveInvertsUptoCard

/-- THE SECOND FORM's CARD OF 'sheavelaw01.CurveInverse'. -/
def curveInverseUptoCard : Claim7 := { stood := { row := curveInverseUptoRow, standIns := [], harness := (true, "7cc30051da093e6d0d6c5a1045511128e3efbe0402665d4fa274c1c16bc5e93a"), looks := false }, kinds := [], alts := [], laidByText := true, laidKinds := [.data], laidTests := true, laidLooks := .later }
def CurveInverseUptoCardSaid : Prop := Claim7.holds Tryd.pinned (.plain (OpenSpec.upto curveInverseSpec)) curveInverseUptoCard

/-- THE SECOND FORM's CARD OF 'sheavelaw01.CurveTwice'. -/
def curveTwiceUptoCard : Claim7 := { stood := { row := curveTwiceUptoRow, standIns := [], harness := (true, "7cc30051da093e6d0d6c5a1045511128e3efbe0402665d4fa274c1c16bc5e93a"), looks := false }, kinds := [], alts := [], laidByText := true, laidKinds := [.data], laidTests := true, laidLooks := .later }
def CurveTwiceUptoCardSaid : Prop := Claim7.holds Tryd.pinned (.plain (OpenSpec.upto curveTwiceSpec)) curveTwiceUptoCard

/-- THE SECOND FORM's CARD OF 'sheavelaw01.CurveAdds'. -/
def curveAddsUptoCard : Claim7 := { stood := { row := curveAddsUptoRow, standIns := [], harness := (true, "7cc30051da093e6d0d6c5a1045511128e3efbe0402665d4fa274c1c16bc5e93a"), looks := false }, kinds := [], alts := [], laidByText := true, laidKinds := [.data], laidTests := true, laidLooks := .later }
def CurveAddsUptoCardSaid : Prop := Claim7.holds Tryd.pinned (.plain (OpenSpec.upto curveAddsSpec)) curveAddsUptoCard

/-- THE SECOND FORM's CARD OF 'sheavelaw01.CurveSquares'. -/
def curveSquaresUptoCard : Claim7 := { stood := { row := curveSquaresUptoRow, standIns := [], harness := (true, "7cc30051da093e6d0d6c5a1045511128e3efbe0402665d4fa274c1c16bc5e93a"), looks := false }, kinds := [], alts := [], laidByText := true, laidKinds := [.data], laidTests := true, laidLooks := .later }
def CurveSquaresUptoCardSaid : Prop := Claim7.holds Tryd.pinned (.plain (OpenSpec.upto curveSquaresSpec)) curveSquaresUptoCard

/-- THE SECOND FORM's CARD OF 'sheavelaw01.CurveSides'. -/
def curveSidesUptoCard : Claim7 := { stood := { row := curveSidesUptoRow, standIns := [], harness := (true, "7cc30051da093e6d0d6c5a1045511128e3efbe0402665d4fa274c1c16bc5e93a"), looks := false }, kinds := [], alts := [], laidByText := true, laidKinds := [.data], laidTests := true, laidLooks := .later }
def CurveSidesUptoCardSaid : Prop := Claim7.holds Tryd.pinned (.plain (OpenSpec.upto curveSidesSpec)) curveSidesUptoCard

/-- THE SECOND FORM's CARD OF 'sheavelaw01.CurveGroups'. -/
def curveGroupsUptoCard : Claim7 := { stood := { row := curveGroupsUptoRow, standIns := [], harness := (true, "7cc30051da093e6d0d6c5a1045511128e3efbe0402665d4fa274c1c16bc5e93a"), looks := false }, kinds := [], alts := [], laidByText := true, laidKinds := [.data], laidTests := true, laidLooks := .later }
def CurveGroupsUptoCardSaid : Prop := Claim7.holds Tryd.pinned (.plain (OpenSpec.upto curveGroupsSpec)) curveGroupsUptoCard
end Rows
end Go.Proofs.YtgpmpmaipogjeaaDoor
