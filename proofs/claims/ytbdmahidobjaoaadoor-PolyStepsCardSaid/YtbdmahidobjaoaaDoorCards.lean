/-
  DERIVED. GIVEN WITH THE SEED: THE CARDS: each row of YtbdmahidobjaoaaDoorRows.lean that lists a variable, with what it lists TIED to the program's text (the seventh form; the later family's looks); each row that meets fmt, with fmt's text TOLD by the authors' own Lean function (tested against real Go, not proved from fmt's source: count such statements apart). THE CARD IS WHAT COUNTS. Prove the row's statement (the work); the ties are given (YtbdmahidobjaoaaDoorTie.lean); close each card by the builder's one call (the guide's Derived/Test/ToyasCard.lean, 'card_holds'). Laid BY PROGRAM, IN A SANDBOX (cutbox-door.mjs). By AI agents, Wed Nov 11 2026. No macro, syntax, notation, axiom, sorry.
-/
import Derived.Test.YtbdmahidobjaoaaDoorRows
import GoSem.ClaimSeven
namespace Go.Proofs.YtbdmahidobjaoaaDoor
namespace Rows

/-- THE TIED CARD OF 'sheavelaw03.ClampTrims'. -/
def clampTrimsCard : Claim7 := { stood := { row := clampTrimsRow, standIns := [], harness := (true, "c38955706ea22740dc4446674f1bd9936b22f31d5f08707af388e7e3df5b8563"), looks := false }, kinds := [], alts := [], laidByText := true, laidKinds := [.data], laidTests := true, laidLooks := .later }
def ClampTrimsCardSaid : Prop := Claim7.holds Tryd.pinned (.plain (OpenSpec.ofChange clampTrimsSpec)) clampTrimsCard

/-- THE TIED CARD OF 'sheavelaw03.ClampCanon'. -/
def clampCanonCard : Claim7 := { stood := { row := clampCanonRow, standIns := [], harness := (true, "c38955706ea22740dc4446674f1bd9936b22f31d5f08707af388e7e3df5b8563"), looks := false }, kinds := [], alts := [], laidByText := true, laidKinds := [.data], laidTests := true, laidLooks := .later }
def ClampCanonCardSaid : Prop := Claim7.holds Tryd.pinned (.plain (OpenSpec.ofChange clampCanonSpec)) clampCanonCard

/-- THE TIED CARD OF 'sheavelaw03.ClampMuls'. -/
def clampMulsCard : Claim7 := { stood := { row := clampMulsRow, standIns := [], harness := (true, "c38955706ea22740dc4446674f1bd9936b22f31d5f08707af388e7e3df5b8563"), looks := false }, kinds := [], alts := [], laidByText := true, laidKinds := [.data], laidTests := true, laidLooks := .later }
def ClampMulsCardSaid : Prop := Claim7.holds Tryd.pinned (.plain (OpenSpec.ofChange clampMulsSpec)) clampMulsCard

/-- THE TIED CARD OF 'sheavelaw03.ClampLow'. -/
def clampLowCard : Claim7 := { stood := { row := clampLowRow, standIns := [], harness := (true, "c38955706ea22740dc4446674f1bd9936b22f31d5f08707af388e7e3df5b8563"), looks := false }, kinds := [], alts := [], laidByText := true, laidKinds := [.data], laidTests := true, laidLooks := .later }
def ClampLowCardSaid : Prop := Claim7.holds Tryd.pinned (.plain (OpenSpec.ofChange clampLowSpec)) clampLowCard

/-- THE TIED CARD OF 'sheavelaw03.ClampWhole'. -/
def clampWholeCard : Claim7 := { stood := { row := clampWholeRow, standIns := [], harness := (true, "c38955706ea22740dc4446674f1bd9936b22f31d5f08707af388e7e3df5b8563"), looks := false }, kinds := [], alts := [], laidByText := true, laidKinds := [.data], laidTests := true, laidLooks := .later }
def ClampWholeCardSaid : Prop := Claim7.holds Tryd.pinned (.plain (OpenSpec.ofChange clampWholeSpec)) clampWholeCard

/-- THE TIED CARD OF 'sheavelaw03.ClampAdds'. -/
def clampAddsCard : Claim7 := { stood := { row := clampAddsRow, standIns := [], harness := (true, "c38955706ea22740dc4446674f1bd9936b22f31d5f08707af388e7e3df5b8563"), looks := false }, kinds := [], alts := [], laidByText := true, laidKinds := [.data], laidTests := true, laidLooks := .later }
def ClampAddsCardSaid : Prop := Claim7.holds Tryd.pinned (.plain (OpenSpec.ofChange clampAddsSpec)) clampAddsCard

/-- THE TIED CARD OF 'sheavelaw03.ClampSides'. -/
def clampSidesCard : Claim7 := { stood := { row := clampSidesRow, standIns := [], harness := (true, "c38955706ea22740dc4446674f1bd9936b22f31d5f08707af388e7e3df5b8563"), looks := false }, kinds := [], alts := [], laidByText := true, laidKinds := [.data], laidTests := true, laidLooks := .later }
def ClampSidesCardSaid : Prop := Claim7.holds Tryd.pinned (.plain (OpenSpec.ofChange clampSidesSpec)) clampSidesCard

/-- THE TIED CARD OF 'sheavelaw03.ClampGroups'. -/
def clampGroupsCard : Claim7 := { stood := { row := clampGroupsRow, standIns := [], harness := (true, "c38955706ea22740dc4446674f1bd9936b22f31d5f08707af388e7e3df5b8563"), looks := false }, kinds := [], alts := [], laidByText := true, laidKinds := [.data], laidTests := true, laidLooks := .later }
def ClampGroupsCardSaid : Prop := Claim7.holds Tryd.pinned (.plain (OpenSpec.ofChange clampGroupsSpec)) clampGroupsCard

/-- THE TIED CARD OF 'sheavelaw03.ClampSpreads'. -/
def clampSpreadsCard : Claim7 := { stood := { row := clampSpreadsRow, standIns := [], harness := (true, "c38955706ea22740dc4446674f1bd9936b22f31d5f08707af388e7e3df5b8563"), looks := false }, kinds := [], alts := [], laidByText := true, laidKinds := [.data], laidTests := true, laidLooks := .later }
def ClampSpreadsCardSaid : Prop := Claim7.holds Tryd.pinned (.plain (OpenSpec.ofChange clampSpreadsSpec)) clampSpreadsCard

/-- THE TIED CARD OF 'sheavelaw03.ClampOnes'. -/
def clampOnesCard : Claim7 := { stood := { row := clampOnesRow, standIns := [], harness := (true, "c38955706ea22740dc4446674f1bd9936b22f31d5f08707af388e7e3df5b8563"), looks := false }, kinds := [], alts := [], laidByText := true, laidKinds := [.data], laidTests := true, laidLooks := .later }
def ClampOnesCardSaid : Prop := Claim7.holds Tryd.pinned (.plain (OpenSpec.ofChange clampOnesSpec)) clampOnesCard

/-- THE TIED CARD OF 'sheavelaw03.ClampStands'. -/
def clampStandsCard : Claim7 := { stood := { row := clampStandsRow, standIns := [], harness := (true, "c38955706ea22740dc4446674f1bd9936b22f31d5f08707af388e7e3df5b8563"), looks := false }, kinds := [], alts := [], laidByText := true, laidKinds := [.data], laidTests := true, laidLooks := .later }
def ClampStandsCardSaid : Prop := Claim7.holds Tryd.pinned (.plain (OpenSpec.ofChange clampStandsSpec)) clampStandsCard

/-- THE TIED CARD OF 'sheavelaw05.PolySums'. -/
def polySumsCard : Claim7 := { stood := { row := polySumsRow, standIns := [], harness := (true, "c38955706ea22740dc4446674f1bd9936b22f31d5f08707af388e7e3df5b8563"), looks := false }, kinds := [], alts := [], laidByText := true, laidKinds := [.data], laidTests := true, laidLooks := .later }
def PolySumsCardSaid : Prop := Claim7.holds Tryd.pinned (.plain (OpenSpec.ofChange polySumsSpec)) polySumsCard

/-- THE TIED CARD OF 'sheavelaw05.PolySame'. -/
def polySameCard : Claim7 := { stood := { row := polySameRow, standIns := [], harness := (true, "c38955706ea22740dc4446674f1bd9936b22f31d5f08707af388e7e3df5b8563"), looks := false }, kinds := [], alts := [], laidByText := true, laidKinds := [.data], laidTests := true, laidLooks := .later }
def PolySameCardSaid : Prop := Claim7.holds Tryd.pinned (.plain (OpenSpec.ofChange polySameSpec)) polySameCard

/-- THE TIED CARD OF 'sheavelaw05.PolyTrims'. -/
def polyTrimsCard : Claim7 := { stood := { row := polyTrimsRow, standIns := [], harness := (true, "c38955706ea22740dc4446674f1bd9936b22f31d5f08707af388e7e3df5b8563"), looks := false }, kinds := [], alts := [], laidByText := true, laidKinds := [.data], laidTests := true, laidLooks := .later }
def PolyTrimsCardSaid : Prop := Claim7.holds Tryd.pinned (.plain (OpenSpec.ofChange polyTrimsSpec)) polyTrimsCard

/-- THE TIED CARD OF 'sheavelaw05.PolySteps'. -/
def polyStepsCard : Claim7 := { stood := { row := polyStepsRow, standIns := [], harness := (true, "c38955706ea22740dc4446674f1bd9936b22f31d5f08707af388e7e3df5b8563"), looks := false }, kinds := [], alts := [], laidByText := true, laidKinds := [.data], laidTests := true, laidLooks := .later }
def PolyStepsCardSaid : Prop := Claim7.holds Tryd.pinned (.plain (OpenSpec.ofChange polyStepsSpec)) polyStepsCard

/-- THE TIED CARD OF 'sheavelaw05.PolyHalves'. -/
def polyHalvesCard : Claim7 := { stood := { row := polyHalvesRow, standIns := [], harness := (true, "c38955706ea22740dc4446674f1bd9936b22f31d5f08707af388e7e3df5b8563"), looks := false }, kinds := [], alts := [], laidByText := true, laidKinds := [.data], laidTests := true, laidLooks := .later }
def PolyHalvesCardSaid : Prop := Claim7.holds Tryd.pinned (.plain (OpenSpec.ofChange polyHalvesSpec)) polyHalvesCard

/-- THE SECOND FORM's CARD OF 'sheavelaw03.ClampTrims'. -/
def clampTrimsUptoCard : Claim7 := { stood := { row := clampTrimsUptoRow, standIns := [], harness := (true, "c38955706ea22740dc4446674f1bd9936b22f31d5f08707af388e7e3df5b8563"), looks := false }, kinds := [], alts := [], laidByText := true, laidKinds := [.data], laidTests := true, laidLooks := .later }
def ClampTrimsUptoCardSaid : Prop := Claim7.holds Tryd.pinned (.plain (OpenSpec.upto clampTrimsSpec)) clampTrimsUptoCard

/-- THE SECOND FORM's CARD OF 'sheavelaw03.ClampCanon'. -/
def clampCanonUptoCard : Claim7 := { stood := { row := clampCanonUptoRow, standIns := [], harness := (true, "c38955706ea22740dc4446674f1bd9936b22f31d5f08707af388e7e3df5b8563"), looks := false }, kinds := [], alts := [], laidByText := true, laidKinds := [.data], laidTests := true, laidLooks := .later }
def ClampCanonUptoCardSaid : Prop := Claim7.holds Tryd.pinned (.plain (OpenSpec.upto clampCanonSpec)) clampCanonUptoCard

/-- THE SECOND FORM's CARD OF 'sheavelaw03.ClampMuls'. -/
def clampMulsUptoCard : Claim7 := { stood := { row := clampMulsUptoRow, standIns := [], harness := (true, "c38955706ea22740dc4446674f1bd9936b22f31d5f08707af388e7e3df5b8563"), looks := false }, kinds := [], alts := [], laidByText := true, laidKinds := [.data], laidTests := true, laidLooks := .later }
def ClampMulsUptoCardSaid : Prop := Claim7.holds Tryd.pinned (.plain (OpenSpec.upto clampMulsSpec)) clampMulsUptoCard

/-- THE SECOND FORM's CARD OF 'sheavelaw03.ClampLow'. -/
def clampLowUptoCard : Claim7 := { stood := { row := clampLowUptoRow, standIns := [], harness := (true, "c38955706ea22740dc4446674f1bd9936b22f31d5f08707af388e7e3df5b8563"), looks := false }, kinds := [], alts := [], laidByText := true, laidKinds := [.data], laidTests := true, laidLooks := .later }
def ClampLowUptoCardSaid : Prop := Claim7.holds Tryd.pinned (.plain (OpenSpec.upto clampLowSpec)) clampLowUptoCard

/-- THE SECOND FORM's CARD OF 'sheavelaw03.ClampWhole'. -/
def clampWholeUptoCard : Claim7 := { stood := { row := clampWholeUptoRow, standIns := [], harness := (true, "c38955706ea22740dc4446674f1bd9936b22f31d5f08707af388e7e3df5b8563"), looks := false }, kinds := [], alts := [], laidByText := true, laidKinds := [.data], laidTests := true, laidLooks := .later }
def ClampWholeUptoCardSaid : Prop := Claim7.holds Tryd.pinned (.plain (OpenSpec.upto clampWholeSpec)) clampWholeUptoCard

/-- THE SECOND FORM's CARD OF 'sheavelaw03.ClampAdds'. -/
def clampAddsUptoCard : Claim7 := { stood := { row := clampAddsUptoRow, standIns := [], harness := (true, "c38955706ea22740dc4446674f1bd9936b22f31d5f08707af388e7e3df5b8563"), looks := false }, kinds := [], alts := [], laidByText := true, laidKinds := [.data], laidTests := true, laidLooks := .later }
def ClampAddsUptoCardSaid : Prop := Claim7.holds Tryd.pinned (.plain (OpenSpec.upto clampAddsSpec)) clampAddsUptoCard

/-- THE SECOND FORM's CARD OF 'sheavelaw03.ClampSides'. -/
def clampSidesUptoCard : Claim7 := { stood := { row := clampSidesUptoRow, standIns := [], harness := (true, "c38955706ea22740dc4446674f1bd9936b22f31d5f08707af388e7e3df5b8563"), looks := false }, kinds := [], alts := [], laidByText := true, laidKinds := [.data], laidTests := true, laidLooks := .later }
def ClampSidesUptoCardSaid : Prop := Claim7.holds Tryd.pinned (.plain (OpenSpec.upto clampSidesSpec)) clampSidesUptoCard

/-- THE SECOND FORM's CARD OF 'sheavelaw03.ClampGroups'. -/
def clampGroupsUptoCard : Claim7 := { stood := { row := clampGroupsUptoRow, standIns := [], harness := (true, "c38955706ea22740dc4446674f1bd9936b22f31d5f08707af388e7e3df5b8563"), looks := false }, kinds := [], alts := [], laidByText := true, laidKinds := [.data], laidTests := true, laidLooks := .later }
def ClampGroupsUptoCardSaid : Prop := Claim7.holds Tryd.pinned (.plain (OpenSpec.upto clampGroupsSpec)) clampGroupsUptoCard

/-- THE SECOND FORM's CARD OF 'sheavelaw03.ClampSpreads'. -/
def clampSpreadsUptoCard : Claim7 := { stood := { row := clampSpreadsUptoRow, standIns := [], harness := (true, "c38955706ea22740dc4446674f1bd9936b22f31d5f08707af388e7e3df5b8563"), looks := false }, kinds := [], alts := [], laidByText := true, laidKinds := [.data], laidTests := true, laidLooks := .later }
def ClampSpreadsUptoCardSaid : Prop := Claim7.holds Tryd.pinned (.plain (OpenSpec.upto clampSpreadsSpec)) clampSpreadsUptoCard

/-- THE SECOND FORM's CARD OF 'sheavelaw03.ClampOnes'. -/
def clampOnesUptoCard : Claim7 := { stood := { row := clampOnesUptoRow, standIns := [], harness := (true, "c38955706ea22740dc4446674f1bd9936b22f31d5f08707af388e7e3df5b8563"), looks := false }, kinds := [], alts := [], laidByText := true, laidKinds := [.data], laidTests := true, laidLooks := .later }
def ClampOnesUptoCardSaid : Prop := Claim7.holds Tryd.pinned (.plain (OpenSpec.upto clampOnesSpec)) clampOnesUptoCard

/-- THE SECOND FORM's CARD OF 'sheavelaw03.ClampStands'. -/
def clampStandsUptoCard : Claim7 := { stood := { row := clampStandsUptoRow, standIns := [], harness := (true, "c38955706ea22740dc4446674f1bd9936b22f31d5f08707af388e7e3df5b8563"), looks := false }, kinds := [], alts := [], laidByText := true, laidKinds := [.data], laidTests := true, laidLooks := .later }
def ClampStandsUptoCardSaid : Prop := Claim7.holds Tryd.pinned (.plain (OpenSpec.upto clampStandsSpec)) clampStandsUptoCard

/-- THE SECOND FORM's CARD OF 'sheavelaw05.PolySums'. -/
def polySumsUptoCard : Claim7 := { stood := { row := polySumsUptoRow, standIns := [], harness := (true, "c38955706ea22740dc4446674f1bd9936b22f31d5f08707af388e7e3df5b8563"), looks := false }, kinds := [], alts := [], laidByText := true, laidKinds := [.data], laidTests := true, laidLooks := .later }
def PolySumsUptoCardSaid : Prop := Claim7.holds Tryd.pinned (.plain (OpenSpec.upto polySumsSpec)) polySumsUptoCard

/-- THE SECOND FORM's CARD OF 'sheavelaw05.PolySame'. -/
def polySameUptoCard : Claim7 := { stood := { row := polySameUptoRow, standIns := [], harness := (true, "c38955706ea22740dc4446674f1bd9936b22f31d5f08707af388e7e3df5b8563"), looks := false }, kinds := [], alts := [], laidByText := true, laidKinds := [.data], laidTests := true, laidLooks := .later }
def PolySameUptoCardSaid : Prop := Claim7.holds Tryd.pinned (.plain (OpenSpec.upto polySameSpec)) polySameUptoCard

/-- THE SECOND FORM's CARD OF 'sheavelaw05.PolyTrims'. -/
def polyTrimsUptoCard : Claim7 := { stood := { row := polyTrimsUptoRow, standIns := [], harness := (true, "c38955706ea22740dc4446674f1bd9936b22f31d5f08707af388e7e3df5b8563"), looks := false }, kinds := [], alts := [], laidByText := true, laidKinds := [.data], laidTests := true, laidLooks := .later }
def PolyTrimsUptoCardSaid : Prop := Claim7.holds Tryd.pinned (.plain (OpenSpec.upto polyTrimsSpec)) polyTrimsUptoCard

/-- THE SECOND FORM's CARD OF 'sheavelaw05.PolySteps'. -/
def polyStepsUptoCard : Claim7 := { stood := { row := polyStepsUptoRow, standIns := [], harness := (true, "c38955706ea22740dc4446674f1bd9936b22f31d5f08707af388e7e3df5b8563"), looks := false }, kinds := [], alts := [], laidByText := true, laidKinds := [.data], laidTests := true, laidLooks := .later }
def PolyStepsUptoCardSaid : Prop := Claim7.holds Tryd.pinned (.plain (OpenSpec.upto polyStepsSpec)) polyStepsUptoCard

/-- THE SECOND FORM's CARD OF 'sheavelaw05.PolyHalves'. -/
def polyHalvesUptoCard : Claim7 := { stood := { row := polyHalvesUptoRow, standIns := [], harness := (true, "c38955706ea22740dc4446674f1bd9936b22f31d5f08707af388e7e3df5b8563"), looks := false }, kinds := [], alts := [], laidByText := true, laidKinds := [.data], laidTests := true, laidLooks := .later }
def PolyHalvesUptoCardSaid : Prop := Claim7.holds Tryd.pinned (.plain (OpenSpec.upto polyHalvesSpec)) polyHalvesUptoCard
end Rows
end Go.Proofs.YtbdmahidobjaoaaDoor
