/-
  DERIVED. GIVEN WITH THE SEED: THE CARDS: each row of YtiamcoggiagpbaaDoorRows.lean that lists a variable, with what it lists TIED to the program's text (the seventh form; the later family's looks); each row that meets fmt, with fmt's text TOLD by the authors' own Lean function (tested against real Go, not proved from fmt's source: count such statements apart). THE CARD IS WHAT COUNTS. Prove the row's statement (the work); the ties are given (YtiamcoggiagpbaaDoorTie.lean); close each card by the builder's one call (the guide's Derived/Test/ToyasCard.lean, 'card_holds'). Laid BY PROGRAM, IN A SANDBOX (cutbox-door.mjs). By AI agents, Wed Nov 11 2026. No macro, syntax, notation, axiom, sorry.
-/
import Derived.Test.YtiamcoggiagpbaaDoorRows
import GoSem.ClaimSeven
namespace Go.Proofs.YtiamcoggiagpbaaDoor
namespace Rows

/-- THE TIED CARD OF 'sheavelaw01.CurveSpreads'. -/
def curveSpreadsCard : Claim7 := { stood := { row := curveSpreadsRow, standIns := [], harness := (true, "99f0d071299f32ffa7fc66daff40fec021d951d99c2cc82fc574ef348d9eb843"), looks := false }, kinds := [], alts := [], laidByText := true, laidKinds := [.data], laidTests := true, laidLooks := .later }
def CurveSpreadsCardSaid : Prop := Claim7.holds Tryd.pinned (.plain (OpenSpec.ofChange curveSpreadsSpec)) curveSpreadsCard

/-- THE TIED CARD OF 'sheavelaw01.CurveUndoes'. -/
def curveUndoesCard : Claim7 := { stood := { row := curveUndoesRow, standIns := [], harness := (true, "99f0d071299f32ffa7fc66daff40fec021d951d99c2cc82fc574ef348d9eb843"), looks := false }, kinds := [], alts := [], laidByText := true, laidKinds := [.data], laidTests := true, laidLooks := .later }
def CurveUndoesCardSaid : Prop := Claim7.holds Tryd.pinned (.plain (OpenSpec.ofChange curveUndoesSpec)) curveUndoesCard

/-- THE TIED CARD OF 'sheavelaw01.CurveOnes'. -/
def curveOnesCard : Claim7 := { stood := { row := curveOnesRow, standIns := [], harness := (true, "99f0d071299f32ffa7fc66daff40fec021d951d99c2cc82fc574ef348d9eb843"), looks := false }, kinds := [], alts := [], laidByText := true, laidKinds := [.data], laidTests := true, laidLooks := .later }
def CurveOnesCardSaid : Prop := Claim7.holds Tryd.pinned (.plain (OpenSpec.ofChange curveOnesSpec)) curveOnesCard

/-- THE TIED CARD OF 'sheavelaw01.CurveBinomial'. -/
def curveBinomialCard : Claim7 := { stood := { row := curveBinomialRow, standIns := [], harness := (true, "99f0d071299f32ffa7fc66daff40fec021d951d99c2cc82fc574ef348d9eb843"), looks := false }, kinds := [], alts := [], laidByText := true, laidKinds := [.data], laidTests := true, laidLooks := .later }
def CurveBinomialCardSaid : Prop := Claim7.holds Tryd.pinned (.plain (OpenSpec.ofChange curveBinomialSpec)) curveBinomialCard

/-- THE TIED CARD OF 'sheavelaw01.CurvePicks'. -/
def curvePicksCard : Claim7 := { stood := { row := curvePicksRow, standIns := [], harness := (true, "99f0d071299f32ffa7fc66daff40fec021d951d99c2cc82fc574ef348d9eb843"), looks := false }, kinds := [], alts := [], laidByText := true, laidKinds := [.data], laidTests := true, laidLooks := .later }
def CurvePicksCardSaid : Prop := Claim7.holds Tryd.pinned (.plain (OpenSpec.ofChange curvePicksSpec)) curvePicksCard

/-- THE TIED CARD OF 'sheavelaw01.CurveCanon'. -/
def curveCanonCard : Claim7 := { stood := { row := curveCanonRow, standIns := [], harness := (true, "99f0d071299f32ffa7fc66daff40fec021d951d99c2cc82fc574ef348d9eb843"), looks := false }, kinds := [], alts := [], laidByText := true, laidKinds := [.data], laidTests := true, laidLooks := .later }
def CurveCanonCardSaid : Prop := Claim7.holds Tryd.pinned (.plain (OpenSpec.ofChange curveCanonSpec)) curveCanonCard

/-- THE TIED CARD OF 'sheavelaw01.CurveSame'. -/
def curveSameCard : Claim7 := { stood := { row := curveSameRow, standIns := [], harness := (true, "99f0d071299f32ffa7fc66daff40fec021d951d99c2cc82fc574ef348d9eb843"), looks := false }, kinds := [], alts := [], laidByText := true, laidKinds := [.data], laidTests := true, laidLooks := .later }
def CurveSameCardSaid : Prop := Claim7.holds Tryd.pinned (.plain (OpenSpec.ofChange curveSameSpec)) curveSameCard

/-- THE TIED CARD OF 'sheavelaw01.CurveStands'. -/
def curveStandsCard : Claim7 := { stood := { row := curveStandsRow, standIns := [], harness := (true, "99f0d071299f32ffa7fc66daff40fec021d951d99c2cc82fc574ef348d9eb843"), looks := false }, kinds := [], alts := [], laidByText := true, laidKinds := [.data], laidTests := true, laidLooks := .later }
def CurveStandsCardSaid : Prop := Claim7.holds Tryd.pinned (.plain (OpenSpec.ofChange curveStandsSpec)) curveStandsCard

/-- THE SECOND FORM's CARD OF 'sheavelaw01.CurveSpreads'. -/
def curveSpreadsUptoCard : Claim7 := { stood := { row := curveSpreadsUptoRow, standIns := [], harness := (true, "99f0d071299f32ffa7fc66daff40fec021d951d99c2cc82fc574ef348d9eb843"), looks := false }, kinds := [], alts := [], laidByText := true, laidKinds := [.data], laidTests := true, laidLooks := .later }
def CurveSpreadsUptoCardSaid : Prop := Claim7.holds Tryd.pinned (.plain (OpenSpec.upto curveSpreadsSpec)) curveSpreadsUptoCard

/-- THE SECOND FORM's CARD OF 'sheavelaw01.CurveUndoes'. -/
def curveUndoesUptoCard : Claim7 := { stood := { row := curveUndoesUptoRow, standIns := [], harness := (true, "99f0d071299f32ffa7fc66daff40fec021d951d99c2cc82fc574ef348d9eb843"), looks := false }, kinds := [], alts := [], laidByText := true, laidKinds := [.data], laidTests := true, laidLooks := .later }
def CurveUndoesUptoCardSaid : Prop := Claim7.holds Tryd.pinned (.plain (OpenSpec.upto curveUndoesSpec)) curveUndoesUptoCard

/-- THE SECOND FORM's CARD OF 'sheavelaw01.CurveOnes'. -/
def curveOnesUptoCard : Claim7 := { stood := { row := curveOnesUptoRow, standIns := [], harness := (true, "99f0d071299f32ffa7fc66daff40fec021d951d99c2cc82fc574ef348d9eb843"), looks := false }, kinds := [], alts := [], laidByText := true, laidKinds := [.data], laidTests := true, laidLooks := .later }
def CurveOnesUptoCardSaid : Prop := Claim7.holds Tryd.pinned (.plain (OpenSpec.upto curveOnesSpec)) curveOnesUptoCard

/-- THE SECOND FORM's CARD OF 'sheavelaw01.CurveBinomial'. -/
def curveBinomialUptoCard : Claim7 := { stood := { row := curveBinomialUptoRow, standIns := [], harness := (true, "99f0d071299f32ffa7fc66daff40fec021d951d99c2cc82fc574ef348d9eb843"), looks := false }, kinds := [], alts := [], laidByText := true, laidKinds := [.data], laidTests := true, laidLooks := .later }
def CurveBinomialUptoCardSaid : Prop := Claim7.holds Tryd.pinned (.plain (OpenSpec.upto curveBinomialSpec)) curveBinomialUptoCard

/-- THE SECOND FORM's CARD OF 'sheavelaw01.CurvePicks'. -/
def curvePicksUptoCard : Claim7 := { stood := { row := curvePicksUptoRow, standIns := [], harness := (true, "99f0d071299f32ffa7fc66daff40fec021d951d99c2cc82fc574ef348d9eb843"), looks := false }, kinds := [], alts := [], laidByText := true, laidKinds := [.data], laidTests := true, laidLooks := .later }
def CurvePicksUptoCardSaid : Prop := Claim7.holds Tryd.pinned (.plain (OpenSpec.upto curvePicksSpec)) curvePicksUptoCard

/-- THE SECOND FORM's CARD OF 'sheavelaw01.CurveCanon'. -/
def curveCanonUptoCard : Claim7 := { stood := { row := curveCanonUptoRow, standIns := [], harness := (true, "99f0d071299f32ffa7fc66daff40fec021d951d99c2cc82fc574ef348d9eb843"), looks := false }, kinds := [], alts := [], laidByText := true, laidKinds := [.data], laidTests := true, laidLooks := .later }
def CurveCanonUptoCardSaid : Prop := Claim7.holds Tryd.pinned (.plain (OpenSpec.upto curveCanonSpec)) curveCanonUptoCard

/-- THE SECOND FORM's CARD OF 'sheavelaw01.CurveSame'. -/
def curveSameUptoCard : Claim7 := { stood := { row := curveSameUptoRow, standIns := [], harness := (true, "99f0d071299f32ffa7fc66daff40fec021d951d99c2cc82fc574ef348d9eb843"), looks := false }, kinds := [], alts := [], laidByText := true, laidKinds := [.data], laidTests := true, laidLooks := .later }
def CurveSameUptoCardSaid : Prop := Claim7.holds Tryd.pinned (.plain (OpenSpec.upto curveSameSpec)) curveSameUptoCard

/-- THE SECOND FORM's CARD OF 'sheavelaw01.CurveStands'. -/
def curveStandsUptoCard : Claim7 := { stood := { row := curveStandsUptoRow, standIns := [], harness := (true, "99f0d071299f32ffa7fc66daff40fec021d951d99c2cc82fc574ef348d9eb843"), looks := false }, kinds := [], alts := [], laidByText := true, laidKinds := [.data], laidTests := true, laidLooks := .later }
def CurveStandsUptoCardSaid : Prop := Claim7.holds Tryd.pinned (.plain (OpenSpec.upto curveStandsSpec)) curveStandsUptoCard
end Rows
end Go.Proofs.YtiamcoggiagpbaaDoor
