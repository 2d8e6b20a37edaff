/-
  DERIVED. GIVEN WITH THE SEED: THE CARDS: each row of YtiojkpgcmhlhnaaGreatDoorRows.lean that lists a variable, with what it lists TIED to the program's text (the seventh form; the later family's looks); each row that meets fmt, with fmt's text TOLD by the authors' own Lean function (tested against real Go, not proved from fmt's source: count such statements apart). THE CARD IS WHAT COUNTS. Prove the row's statement (the work); the ties are given (YtiojkpgcmhlhnaaGreatDoorTie.lean); close each card by the builder's one call (the guide's Derived/Test/ToyasCard.lean, 'card_holds'). Laid BY PROGRAM, IN A SANDBOX (cutbox-door.mjs). By AI agents, Wed Nov 11 2026. No macro, syntax, notation, axiom, sorry.
-/
import Derived.Test.YtiojkpgcmhlhnaaGreatDoorRows
import GoSem.ClaimSeven
namespace Go.Proofs.YtiojkpgcmhlhnaaGreatDoor
namespace Rows

/-- THE TIED CARD OF 'sheavetop.TopPrefix'. -/
def topPrefixCard : Claim7 := { stood := { row := topPrefixRow, standIns := [], harness := (true, "a26f66beb504bcf3152ad5f9bb53f58e879db30509bc3fb41f51b32c05b23fac"), looks := true }, kinds := [], alts := [], laidByText := true, laidKinds := [.data, .data, .data, .data, .data, .data, .data, .data, .data, .data, .data, .data], laidTests := true, laidLooks := .later }
def TopPrefixCardSaid : Prop := Claim7.holds Tryz.pinned (.plain (OpenSpec.ofChange topPrefixSpec)) topPrefixCard

/-- THE TIED CARD OF 'sheavetop.TopLive'. -/
def topLiveCard : Claim7 := { stood := { row := topLiveRow, standIns := [], harness := (true, "a26f66beb504bcf3152ad5f9bb53f58e879db30509bc3fb41f51b32c05b23fac"), looks := true }, kinds := [], alts := [], laidByText := true, laidKinds := [.data, .data, .data, .data, .data, .data, .data, .data, .data, .data, .data, .data], laidTests := true, laidLooks := .later }
def TopLiveCardSaid : Prop := Claim7.holds Tryz.pinned (.plain (OpenSpec.ofChange topLiveSpec)) topLiveCard

/-- THE TIED CARD OF 'sheavetop.TopReads'. -/
def topReadsCard : Claim7 := { stood := { row := topReadsRow, standIns := [], harness := (true, "a26f66beb504bcf3152ad5f9bb53f58e879db30509bc3fb41f51b32c05b23fac"), looks := true }, kinds := [], alts := [], laidByText := true, laidKinds := [.data, .data, .data, .data, .data, .data, .data, .data, .data, .data, .data, .data], laidTests := true, laidLooks := .later }
def TopReadsCardSaid : Prop := Claim7.holds Tryz.pinned (.plain (OpenSpec.ofChange topReadsSpec)) topReadsCard

/-- THE TIED CARD OF 'sheavetop.TopTurned'. -/
def topTurnedCard : Claim7 := { stood := { row := topTurnedRow, standIns := [], harness := (true, "a26f66beb504bcf3152ad5f9bb53f58e879db30509bc3fb41f51b32c05b23fac"), looks := true }, kinds := [], alts := [], laidByText := true, laidKinds := [.data, .data, .data, .data, .data, .data, .data, .data, .data, .data, .data, .data], laidTests := true, laidLooks := .later }
def TopTurnedCardSaid : Prop := Claim7.holds Tryz.pinned (.plain (OpenSpec.ofChange topTurnedSpec)) topTurnedCard

/-- THE SECOND FORM's CARD OF 'sheavetop.TopPrefix'. -/
def topPrefixUptoCard : Claim7 := { stood := { row := topPrefixUptoRow, standIns := [], harness := (true, "a26f66beb504bcf3152ad5f9bb53f58e879db30509bc3fb41f51b32c05b23fac"), looks := true }, kinds := [], alts := [], laidByText := true, laidKinds := [.data, .data, .data, .data, .data, .data, .data, .data, .data, .data, .data, .data], laidTests := true, laidLooks := .later }
def TopPrefixUptoCardSaid : Prop := Claim7.holds Tryz.pinned (.plain (OpenSpec.upto topPrefixSpec)) topPrefixUptoCard

/-- THE SECOND FORM's CARD OF 'sheavetop.TopLive'. -/
def topLiveUptoCard : Claim7 := { stood := { row := topLiveUptoRow, standIns := [], harness := (true, "a26f66beb504bcf3152ad5f9bb53f58e879db30509bc3fb41f51b32c05b23fac"), looks := true }, kinds := [], alts := [], laidByText := true, laidKinds := [.data, .data, .data, .data, .data, .data, .data, .data, .data, .data, .data, .data], laidTests := true, laidLooks := .later }
def TopLiveUptoCardSaid : Prop := Claim7.holds Tryz.pinned (.plain (OpenSpec.upto topLiveSpec)) topLiveUptoCard

/-- THE SECOND FORM's CARD OF 'sheavetop.TopReads'. -/
def topReadsUptoCard : Claim7 := { stood := { row := topReadsUptoRow, standIns := [], harness := (true, "a26f66beb504bcf3152ad5f9bb53f58e879db30509bc3fb41f51b32c05b23fac"), looks := true }, kinds := [], alts := [], laidByText := true, laidKinds := [.data, .data, .data, .data, .data, .data, .data, .data, .data, .data, .data, .data], laidTests := true, laidLooks := .later }
def TopReadsUptoCardSaid : Prop := Claim7.holds Tryz.pinned (.plain (OpenSpec.upto topReadsSpec)) topReadsUptoCard

/-- THE SECOND FORM's CARD OF 'sheavetop.TopTurned'. -/
def topTurnedUptoCard : Claim7 := { stood := { row := topTurnedUptoRow, standIns := [], harness := (true, "a26f66beb504bcf3152ad5f9bb53f58e879db30509bc3fb41f51b32c05b23fac"), looks := true }, kinds := [], alts := [], laidByText := true, laidKinds := [.data, .data, .data, .data, .data, .data, .data, .data, .data, .data, .data, .data], laidTests := true, laidLooks := .later }
def TopTurnedUptoCardSaid : Prop := Claim7.holds Tryz.pinned (.plain (OpenSpec.upto topTurnedSpec)) topTurnedUptoCard
end Rows
end Go.Proofs.YtiojkpgcmhlhnaaGreatDoor
