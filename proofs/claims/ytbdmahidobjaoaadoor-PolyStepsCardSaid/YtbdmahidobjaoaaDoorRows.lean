/-
  NARROWER THAN 'FOR EVERY INPUT', by the rows' own cells (each row's printed sentence says how): ClampTrims: laid · ClampCanon: laid · ClampMuls: laid · ClampLow: laid · ClampWhole: laid · ClampAdds: laid · ClampSides: laid · ClampGroups: laid · ClampSpreads: laid · ClampOnes: laid · ClampStands: laid · PolySums: laid · PolySame: laid · PolyTrims: laid · PolySteps: laid · PolyHalves: laid.
  DERIVED. THE GIVEN ROWS OF THIS SEAT. 16 by the template 'for every input the law returns true; each argument reads behind the call as it read before'; 0 by the template 'total and deterministic' (their statements: YtbdmahidobjaoaaDoorTotals.lean).
  GIVEN WITH THE SEED: the statements are not yours to turn. If you find one false, say at which input.
  Laid BY PROGRAM, IN A SANDBOX (cutbox-rows.mjs): the forced cells as the released guide's own fill.sh prints them over the translation 6dd0c55e744b4a2b… (all of the seat's roots in one cut). By AI agents, Wed Nov 11 2026. No macro, syntax, notation, axiom, sorry.
-/
import Derived.Test.YtbdmahidobjaoaaDoorChecked
import GoSem.Claim
import GoSem.ClaimJoined
import GoSem.ClaimMapViews
import Derived.JoinedTies
import Derived.KernelRfl
namespace Go.Proofs.YtbdmahidobjaoaaDoor
/- THE CELL 'sum', in the pinned program and in every row, IS THE sha256 OF THE DUMP (.gsa) THAT YtbdmahidobjaoaaDoorProg.lean LOADS. Nothing in Lean hashes anything: it is a label: what it is worth is what the hold of that sum in a sandbox is worth. -/
noncomputable def Tryd.pinned : Pinned := { name := "ytbdmahidobjaoaadoor", sum := "6dd0c55e744b4a2b3d7d39fd0f6400a95378b1c7c8464476607fd97ca30e49cb", checked := Tryd.checked }
namespace Rows
def none {H : Type} : Left H := { results := [], args := [] }

/- WHAT THE LISTED PACKAGE-LEVEL VARIABLES READ AS WHEN THE CALL BEGINS. Each datum BY PROGRAM (the guide's laid-datum.mjs) off the statement by which the dump's own 'gosem.cut.vars' lays the variable. In a bare row this is a premise. The card (YtbdmahidobjaoaaDoorCards.lean) ties it to the program's text. -/
def laid_sheave_clamp_prime {H : Type} : DataW H := .agg [.lit (.int .u64 18446744073709551611), .lit (.int .u64 18446744073709551615), .lit (.int .u64 3)]

/-- 'sheavelaw03.ClampTrims': WHATEVER THE INPUT: true; the input reads as it did. -/
def clampTrimsSpec : ChangeSpec := { name := "clampTrims", fn := fun _ => fun
  | [d1, d2] => { results := [.lit (.bool true)], args := [d1, d2] }
  | _ => none }
def clampTrimsRow : OpenClaim := { program := "ytbdmahidobjaoaadoor", sum := "6dd0c55e744b4a2b3d7d39fd0f6400a95378b1c7c8464476607fd97ca30e49cb", func := "sheave/sheavelaw03.ClampTrims", spec := "clampTrims", inPlace := ["math/bits.Add64", "math/bits.Sub64"], named := ["sheave/clamp.prime"], apart := false, laid := [("sheave/clamp.prime", laid_sheave_clamp_prime)] }
def ClampTrimsSaid : Prop := clampTrimsRow.holds Tryd.pinned (OpenSpec.ofChange clampTrimsSpec)

/-- ITS FALSE NEIGHBOUR: 'it returns false'. Refute it at one input. -/
def clampTrimsWrong : ChangeSpec := { name := "clampTrims", fn := fun _ => fun
  | [d1, d2] => { results := [.lit (.bool false)], args := [d1, d2] }
  | _ => none }
def ClampTrimsWrongFalsely : Prop := clampTrimsRow.holds Tryd.pinned (OpenSpec.ofChange clampTrimsWrong)

/-- 'sheavelaw03.ClampCanon': WHATEVER THE INPUT: true; the input reads as it did. -/
def clampCanonSpec : ChangeSpec := { name := "clampCanon", fn := fun _ => fun
  | [d] => { results := [.lit (.bool true)], args := [d] }
  | _ => none }
def clampCanonRow : OpenClaim := { program := "ytbdmahidobjaoaadoor", sum := "6dd0c55e744b4a2b3d7d39fd0f6400a95378b1c7c8464476607fd97ca30e49cb", func := "sheave/sheavelaw03.ClampCanon", spec := "clampCanon", inPlace := ["math/bits.Add64", "math/bits.Sub64"], named := ["sheave/clamp.prime"], apart := false, laid := [("sheave/clamp.prime", laid_sheave_clamp_prime)] }
def ClampCanonSaid : Prop := clampCanonRow.holds Tryd.pinned (OpenSpec.ofChange clampCanonSpec)

/-- ITS FALSE NEIGHBOUR: 'it returns false'. Refute it at one input. -/
def clampCanonWrong : ChangeSpec := { name := "clampCanon", fn := fun _ => fun
  | [d] => { results := [.lit (.bool false)], args := [d] }
  | _ => none }
def ClampCanonWrongFalsely : Prop := clampCanonRow.holds Tryd.pinned (OpenSpec.ofChange clampCanonWrong)

/-- 'sheavelaw03.ClampMuls': WHATEVER THE INPUT: true; the input reads as it did. -/
def clampMulsSpec : ChangeSpec := { name := "clampMuls", fn := fun _ => fun
  | [d1, d2] => { results := [.lit (.bool true)], args := [d1, d2] }
  | _ => none }
def clampMulsRow : OpenClaim := { program := "ytbdmahidobjaoaadoor", sum := "6dd0c55e744b4a2b3d7d39fd0f6400a95378b1c7c8464476607fd97ca30e49cb", func := "sheave/sheavelaw03.ClampMuls", spec := "clampMuls", inPlace := ["math/bits.Add64", "math/bits.Sub64"], named := ["sheave/clamp.prime"], apart := false, laid := [("sheave/clamp.prime", laid_sheave_clamp_prime)] }
def ClampMulsSaid : Prop := clampMulsRow.holds Tryd.pinned (OpenSpec.ofChange clampMulsSpec)

/-- ITS FALSE NEIGHBOUR: 'it returns false'. Refute it at one input. -/
def clampMulsWrong : ChangeSpec := { name := "clampMuls", fn := fun _ => fun
  | [d1, d2] => { results := [.lit (.bool false)], args := [d1, d2] }
  | _ => none }
def ClampMulsWrongFalsely : Prop := clampMulsRow.holds Tryd.pinned (OpenSpec.ofChange clampMulsWrong)

/-- 'sheavelaw03.ClampLow': WHATEVER THE INPUT: true; the input reads as it did. -/
def clampLowSpec : ChangeSpec := { name := "clampLow", fn := fun _ => fun
  | [d1, d2] => { results := [.lit (.bool true)], args := [d1, d2] }
  | _ => none }
def clampLowRow : OpenClaim := { program := "ytbdmahidobjaoaadoor", sum := "6dd0c55e744b4a2b3d7d39fd0f6400a95378b1c7c8464476607fd97ca30e49cb", func := "sheave/sheavelaw03.ClampLow", spec := "clampLow", inPlace := ["math/bits.Add64", "math/bits.Sub64"], named := ["sheave/clamp.prime"], apart := false, laid := [("sheave/clamp.prime", laid_sheave_clamp_prime)] }
def ClampLowSaid : Prop := clampLowRow.holds Tryd.pinned (OpenSpec.ofChange clampLowSpec)

/-- ITS FALSE NEIGHBOUR: 'it returns false'. Refute it at one input. -/
def clampLowWrong : ChangeSpec := { name := "clampLow", fn := fun _ => fun
  | [d1, d2] => { results := [.lit (.bool false)], args := [d1, d2] }
  | _ => none }
def ClampLowWrongFalsely : Prop := clampLowRow.holds Tryd.pinned (OpenSpec.ofChange clampLowWrong)

/-- 'sheavelaw03.ClampWhole': WHATEVER THE INPUT: true; the input reads as it did. -/
def clampWholeSpec : ChangeSpec := { name := "clampWhole", fn := fun _ => fun
  | [d1, d2] => { results := [.lit (.bool true)], args := [d1, d2] }
  | _ => none }
def clampWholeRow : OpenClaim := { program := "ytbdmahidobjaoaadoor", sum := "6dd0c55e744b4a2b3d7d39fd0f6400a95378b1c7c8464476607fd97ca30e49cb", func := "sheave/sheavelaw03.ClampWhole", spec := "clampWhole", inPlace := ["math/bits.Add64", "math/bits.Sub64"], named := ["sheave/clamp.prime"], apart := false, laid := [("sheave/clamp.prime", laid_sheave_clamp_prime)] }
def ClampWholeSaid : Prop := clampWholeRow.holds Tryd.pinned (OpenSpec.ofChange clampWholeSpec)

/-- ITS FALSE NEIGHBOUR: 'it returns false'. Refute it at one input. -/
def clampWholeWrong : ChangeSpec := { name := "clampWhole", fn := fun _ => fun
  | [d1, d2] => { results := [.lit (.bool false)], args := [d1, d2] }
  | _ => none }
def ClampWholeWrongFalsely : Prop := clampWholeRow.holds Tryd.pinned (OpenSpec.ofChange clampWholeWrong)

/-- 'sheavelaw03.ClampAdds': WHATEVER THE INPUT: true; the input reads as it did. -/
def clampAddsSpec : ChangeSpec := { name := "clampAdds", fn := fun _ => fun
  | [d1, d2] => { results := [.lit (.bool true)], args := [d1, d2] }
  | _ => none }
def clampAddsRow : OpenClaim := { program := "ytbdmahidobjaoaadoor", sum := "6dd0c55e744b4a2b3d7d39fd0f6400a95378b1c7c8464476607fd97ca30e49cb", func := "sheave/sheavelaw03.ClampAdds", spec := "clampAdds", inPlace := ["math/bits.Add64", "math/bits.Sub64"], named := ["sheave/clamp.prime"], apart := false, laid := [("sheave/clamp.prime", laid_sheave_clamp_prime)] }
def ClampAddsSaid : Prop := clampAddsRow.holds Tryd.pinned (OpenSpec.ofChange clampAddsSpec)

/-- ITS FALSE NEIGHBOUR: 'it returns false'. Refute it at one input. -/
def clampAddsWrong : ChangeSpec := { name := "clampAdds", fn := fun _ => fun
  | [d1, d2] => { results := [.lit (.bool false)], args := [d1, d2] }
  | _ => none }
def ClampAddsWrongFalsely : Prop := clampAddsRow.holds Tryd.pinned (OpenSpec.ofChange clampAddsWrong)

/-- 'sheavelaw03.ClampSides': WHATEVER THE INPUT: true; the input reads as it did. -/
def clampSidesSpec : ChangeSpec := { name := "clampSides", fn := fun _ => fun
  | [d1, d2] => { results := [.lit (.bool true)], args := [d1, d2] }
  | _ => none }
def clampSidesRow : OpenClaim := { program := "ytbdmahidobjaoaadoor", sum := "6dd0c55e744b4a2b3d7d39fd0f6400a95378b1c7c8464476607fd97ca30e49cb", func := "sheave/sheavelaw03.ClampSides", spec := "clampSides", inPlace := ["math/bits.Add64", "math/bits.Sub64"], named := ["sheave/clamp.prime"], apart := false, laid := [("sheave/clamp.prime", laid_sheave_clamp_prime)] }
def ClampSidesSaid : Prop := clampSidesRow.holds Tryd.pinned (OpenSpec.ofChange clampSidesSpec)

/-- ITS FALSE NEIGHBOUR: 'it returns false'. Refute it at one input. -/
def clampSidesWrong : ChangeSpec := { name := "clampSides", fn := fun _ => fun
  | [d1, d2] => { results := [.lit (.bool false)], args := [d1, d2] }
  | _ => none }
def ClampSidesWrongFalsely : Prop := clampSidesRow.holds Tryd.pinned (OpenSpec.ofChange clampSidesWrong)

/-- 'sheavelaw03.ClampGroups': WHATEVER THE INPUT: true; the input reads as it did. -/
def clampGroupsSpec : ChangeSpec := { name := "clampGroups", fn := fun _ => fun
  | [d1, d2, d3] => { results := [.lit (.bool true)], args := [d1, d2, d3] }
  | _ => none }
def clampGroupsRow : OpenClaim := { program := "ytbdmahidobjaoaadoor", sum := "6dd0c55e744b4a2b3d7d39fd0f6400a95378b1c7c8464476607fd97ca30e49cb", func := "sheave/sheavelaw03.ClampGroups", spec := "clampGroups", inPlace := ["math/bits.Add64", "math/bits.Sub64"], named := ["sheave/clamp.prime"], apart := false, laid := [("sheave/clamp.prime", laid_sheave_clamp_prime)] }
def ClampGroupsSaid : Prop := clampGroupsRow.holds Tryd.pinned (OpenSpec.ofChange clampGroupsSpec)

/-- ITS FALSE NEIGHBOUR: 'it returns false'. Refute it at one input. -/
def clampGroupsWrong : ChangeSpec := { name := "clampGroups", fn := fun _ => fun
  | [d1, d2, d3] => { results := [.lit (.bool false)], args := [d1, d2, d3] }
  | _ => none }
def ClampGroupsWrongFalsely : Prop := clampGroupsRow.holds Tryd.pinned (OpenSpec.ofChange clampGroupsWrong)

/-- 'sheavelaw03.ClampSpreads': WHATEVER THE INPUT: true; the input reads as it did. -/
def clampSpreadsSpec : ChangeSpec := { name := "clampSpreads", fn := fun _ => fun
  | [d1, d2, d3] => { results := [.lit (.bool true)], args := [d1, d2, d3] }
  | _ => none }
def clampSpreadsRow : OpenClaim := { program := "ytbdmahidobjaoaadoor", sum := "6dd0c55e744b4a2b3d7d39fd0f6400a95378b1c7c8464476607fd97ca30e49cb", func := "sheave/sheavelaw03.ClampSpreads", spec := "clampSpreads", inPlace := ["math/bits.Add64", "math/bits.Sub64"], named := ["sheave/clamp.prime"], apart := false, laid := [("sheave/clamp.prime", laid_sheave_clamp_prime)] }
def ClampSpreadsSaid : Prop := clampSpreadsRow.holds Tryd.pinned (OpenSpec.ofChange clampSpreadsSpec)

/-- ITS FALSE NEIGHBOUR: 'it returns false'. Refute it at one input. -/
def clampSpreadsWrong : ChangeSpec := { name := "clampSpreads", fn := fun _ => fun
  | [d1, d2, d3] => { results := [.lit (.bool false)], args := [d1, d2, d3] }
  | _ => none }
def ClampSpreadsWrongFalsely : Prop := clampSpreadsRow.holds Tryd.pinned (OpenSpec.ofChange clampSpreadsWrong)

/-- 'sheavelaw03.ClampOnes': WHATEVER THE INPUT: true; the input reads as it did. -/
def clampOnesSpec : ChangeSpec := { name := "clampOnes", fn := fun _ => fun
  | [d] => { results := [.lit (.bool true)], args := [d] }
  | _ => none }
def clampOnesRow : OpenClaim := { program := "ytbdmahidobjaoaadoor", sum := "6dd0c55e744b4a2b3d7d39fd0f6400a95378b1c7c8464476607fd97ca30e49cb", func := "sheave/sheavelaw03.ClampOnes", spec := "clampOnes", inPlace := ["math/bits.Add64", "math/bits.Sub64"], named := ["sheave/clamp.prime"], apart := false, laid := [("sheave/clamp.prime", laid_sheave_clamp_prime)] }
def ClampOnesSaid : Prop := clampOnesRow.holds Tryd.pinned (OpenSpec.ofChange clampOnesSpec)

/-- ITS FALSE NEIGHBOUR: 'it returns false'. Refute it at one input. -/
def clampOnesWrong : ChangeSpec := { name := "clampOnes", fn := fun _ => fun
  | [d] => { results := [.lit (.bool false)], args := [d] }
  | _ => none }
def ClampOnesWrongFalsely : Prop := clampOnesRow.holds Tryd.pinned (OpenSpec.ofChange clampOnesWrong)

/-- 'sheavelaw03.ClampStands': WHATEVER THE INPUT: true; the input reads as it did. -/
def clampStandsSpec : ChangeSpec := { name := "clampStands", fn := fun _ => fun
  | [d1, d2] => { results := [.lit (.bool true)], args := [d1, d2] }
  | _ => none }
def clampStandsRow : OpenClaim := { program := "ytbdmahidobjaoaadoor", sum := "6dd0c55e744b4a2b3d7d39fd0f6400a95378b1c7c8464476607fd97ca30e49cb", func := "sheave/sheavelaw03.ClampStands", spec := "clampStands", inPlace := ["math/bits.Add64", "math/bits.Sub64"], named := ["sheave/clamp.prime"], apart := false, laid := [("sheave/clamp.prime", laid_sheave_clamp_prime)] }
def ClampStandsSaid : Prop := clampStandsRow.holds Tryd.pinned (OpenSpec.ofChange clampStandsSpec)

/-- ITS FALSE NEIGHBOUR: 'it returns false'. Refute it at one input. -/
def clampStandsWrong : ChangeSpec := { name := "clampStands", fn := fun _ => fun
  | [d1, d2] => { results := [.lit (.bool false)], args := [d1, d2] }
  | _ => none }
def ClampStandsWrongFalsely : Prop := clampStandsRow.holds Tryd.pinned (OpenSpec.ofChange clampStandsWrong)

/-- 'sheavelaw05.PolySums': WHATEVER THE INPUT: true; the input reads as it did. -/
def polySumsSpec : ChangeSpec := { name := "polySums", fn := fun _ => fun
  | [d1, d2] => { results := [.lit (.bool true)], args := [d1, d2] }
  | _ => none }
def polySumsRow : OpenClaim := { program := "ytbdmahidobjaoaadoor", sum := "6dd0c55e744b4a2b3d7d39fd0f6400a95378b1c7c8464476607fd97ca30e49cb", func := "sheave/sheavelaw05.PolySums", spec := "polySums", inPlace := ["math/bits.Add64", "math/bits.Sub64"], named := ["sheave/clamp.prime"], apart := false, laid := [("sheave/clamp.prime", laid_sheave_clamp_prime)] }
def PolySumsSaid : Prop := polySumsRow.holds Tryd.pinned (OpenSpec.ofChange polySumsSpec)

/-- ITS FALSE NEIGHBOUR: 'it returns false'. Refute it at one input. -/
def polySumsWrong : ChangeSpec := { name := "polySums", fn := fun _ => fun
  | [d1, d2] => { results := [.lit (.bool false)], args := [d1, d2] }
  | _ => none }
def PolySumsWrongFalsely : Prop := polySumsRow.holds Tryd.pinned (OpenSpec.ofChange polySumsWrong)

/-- 'sheavelaw05.PolySame': WHATEVER THE INPUT: true; the input reads as it did. -/
def polySameSpec : ChangeSpec := { name := "polySame", fn := fun _ => fun
  | [d1, d2] => { results := [.lit (.bool true)], args := [d1, d2] }
  | _ => none }
def polySameRow : OpenClaim := { program := "ytbdmahidobjaoaadoor", sum := "6dd0c55e744b4a2b3d7d39fd0f6400a95378b1c7c8464476607fd97ca30e49cb", func := "sheave/sheavelaw05.PolySame", spec := "polySame", inPlace := ["math/bits.Add64", "math/bits.Sub64"], named := ["sheave/clamp.prime"], apart := false, laid := [("sheave/clamp.prime", laid_sheave_clamp_prime)] }
def PolySameSaid : Prop := polySameRow.holds Tryd.pinned (OpenSpec.ofChange polySameSpec)

/-- ITS FALSE NEIGHBOUR: 'it returns false'. Refute it at one input. -/
def polySameWrong : ChangeSpec := { name := "polySame", fn := fun _ => fun
  | [d1, d2] => { results := [.lit (.bool false)], args := [d1, d2] }
  | _ => none }
def PolySameWrongFalsely : Prop := polySameRow.holds Tryd.pinned (OpenSpec.ofChange polySameWrong)

/-- 'sheavelaw05.PolyTrims': WHATEVER THE INPUT: true; the input reads as it did. -/
def polyTrimsSpec : ChangeSpec := { name := "polyTrims", fn := fun _ => fun
  | [d1, d2] => { results := [.lit (.bool true)], args := [d1, d2] }
  | _ => none }
def polyTrimsRow : OpenClaim := { program := "ytbdmahidobjaoaadoor", sum := "6dd0c55e744b4a2b3d7d39fd0f6400a95378b1c7c8464476607fd97ca30e49cb", func := "sheave/sheavelaw05.PolyTrims", spec := "polyTrims", inPlace := ["math/bits.Add64", "math/bits.Sub64"], named := ["sheave/clamp.prime"], apart := false, laid := [("sheave/clamp.prime", laid_sheave_clamp_prime)] }
def PolyTrimsSaid : Prop := polyTrimsRow.holds Tryd.pinned (OpenSpec.ofChange polyTrimsSpec)

/-- ITS FALSE NEIGHBOUR: 'it returns false'. Refute it at one input. -/
def polyTrimsWrong : ChangeSpec := { name := "polyTrims", fn := fun _ => fun
  | [d1, d2] => { results := [.lit (.bool false)], args := [d1, d2] }
  | _ => none }
def PolyTrimsWrongFalsely : Prop := polyTrimsRow.holds Tryd.pinned (OpenSpec.ofChange polyTrimsWrong)

/-- 'sheavelaw05.PolySteps': WHATEVER THE INPUT: true; the input reads as it did. -/
def polyStepsSpec : ChangeSpec := { name := "polySteps", fn := fun _ => fun
  | [d1, d2, d3] => { results := [.lit (.bool true)], args := [d1, d2, d3] }
  | _ => none }
def polyStepsRow : OpenClaim := { program := "ytbdmahidobjaoaadoor", sum := "6dd0c55e744b4a2b3d7d39fd0f6400a95378b1c7c8464476607fd97ca30e49cb", func := "sheave/sheavelaw05.PolySteps", spec := "polySteps", inPlace := ["math/bits.Add64", "math/bits.Sub64"], named := ["sheave/clamp.prime"], apart := false, laid := [("sheave/clamp.prime", laid_sheave_clamp_prime)] }
def PolyStepsSaid : Prop := polyStepsRow.holds Tryd.pinned (OpenSpec.ofChange polyStepsSpec)

/-- ITS FALSE NEIGHBOUR: 'it returns false'. Refute it at one input. -/
def polyStepsWrong : ChangeSpec := { name := "polySteps", fn := fun _ => fun
  | [d1, d2, d3] => { results := [.lit (.bool false)], args := [d1, d2, d3] }
  | _ => none }
def PolyStepsWrongFalsely : Prop := polyStepsRow.holds Tryd.pinned (OpenSpec.ofChange polyStepsWrong)

/-- 'sheavelaw05.PolyHalves': WHATEVER THE INPUT: true; the input reads as it did. -/
def polyHalvesSpec : ChangeSpec := { name := "polyHalves", fn := fun _ => fun
  | [d1, d2] => { results := [.lit (.bool true)], args := [d1, d2] }
  | _ => none }
def polyHalvesRow : OpenClaim := { program := "ytbdmahidobjaoaadoor", sum := "6dd0c55e744b4a2b3d7d39fd0f6400a95378b1c7c8464476607fd97ca30e49cb", func := "sheave/sheavelaw05.PolyHalves", spec := "polyHalves", inPlace := ["math/bits.Add64", "math/bits.Sub64"], named := ["sheave/clamp.prime"], apart := false, laid := [("sheave/clamp.prime", laid_sheave_clamp_prime)] }
def PolyHalvesSaid : Prop := polyHalvesRow.holds Tryd.pinned (OpenSpec.ofChange polyHalvesSpec)

/-- ITS FALSE NEIGHBOUR: 'it returns false'. Refute it at one input. -/
def polyHalvesWrong : ChangeSpec := { name := "polyHalves", fn := fun _ => fun
  | [d1, d2] => { results := [.lit (.bool false)], args := [d1, d2] }
  | _ => none }
def PolyHalvesWrongFalsely : Prop := polyHalvesRow.holds Tryd.pinned (OpenSpec.ofChange polyHalvesWrong)

/- THE SECOND FORM. 'bulk': how many values and letters a reading holds, each counted each time it is reached (what is shared counts as often as it is met; a slice's spare places count too). A statement '..UptoSaid' is the law's where the arguments, and the package variables that the reading takes, are together of bulk at most 1048576: NARROWER than '..Said'. Prove '..Said' where nothing that the law and all that it calls make is longer than what came in: it says more and counts as full. Else prove '..UptoSaid'. A law counts once. -/
mutual
def uptoBulk {H : Type} : DataW H → Nat
  | .lit (.string bytes) => bytes.length + 1
  | .lit _ => 1
  | .nil => 1
  | .ptr d => uptoBulk d + 1
  | .slice elems spare => uptoBulkAll elems + uptoBulkAll spare + 1
  | .agg parts => uptoBulkAll parts + 1
  | .iface _ d => uptoBulk d + 1
  | .map entries => uptoBulkEntries entries + 1
  | .held _ => 1
def uptoBulkAll {H : Type} : List (DataW H) → Nat
  | [] => 0
  | d :: r => uptoBulk d + uptoBulkAll r
def uptoBulkEntries {H : Type} : List (Lit × DataW H) → Nat
  | [] => 0
  | x :: r => uptoBulkEntry x + uptoBulkEntries r
def uptoBulkEntry {H : Type} : Lit × DataW H → Nat
  | (.string bytes, d) => bytes.length + uptoBulk d + 1
  | (_, d) => uptoBulk d + 1
 end
def uptoSmall : (H : Type) → List (DataW H) → Bool := fun _ ds => decide (uptoBulkAll ds ≤ 1048576)
def OpenSpec.upto (s : _root_.Go.ChangeSpec) : _root_.Go.OpenSpec := { _root_.Go.OpenSpec.ofChange s with cond := some uptoSmall }

/-- 'sheavelaw03.ClampTrims', WHERE WHAT IT READS IS OF BULK AT MOST 1048576: true; the input reads as it did. -/
def clampTrimsUptoRow : OpenClaim := { program := "ytbdmahidobjaoaadoor", sum := "6dd0c55e744b4a2b3d7d39fd0f6400a95378b1c7c8464476607fd97ca30e49cb", func := "sheave/sheavelaw03.ClampTrims", spec := "clampTrims", inPlace := ["math/bits.Add64", "math/bits.Sub64"], named := ["sheave/clamp.prime"], apart := false, laid := [("sheave/clamp.prime", laid_sheave_clamp_prime)], narrowed := true }
def ClampTrimsUptoSaid : Prop := clampTrimsUptoRow.holds Tryd.pinned (OpenSpec.upto clampTrimsSpec)

/-- 'sheavelaw03.ClampCanon', WHERE WHAT IT READS IS OF BULK AT MOST 1048576: true; the input reads as it did. -/
def clampCanonUptoRow : OpenClaim := { program := "ytbdmahidobjaoaadoor", sum := "6dd0c55e744b4a2b3d7d39fd0f6400a95378b1c7c8464476607fd97ca30e49cb", func := "sheave/sheavelaw03.ClampCanon", spec := "clampCanon", inPlace := ["math/bits.Add64", "math/bits.Sub64"], named := ["sheave/clamp.prime"], apart := false, laid := [("sheave/clamp.prime", laid_sheave_clamp_prime)], narrowed := true }
def ClampCanonUptoSaid : Prop := clampCanonUptoRow.holds Tryd.pinned (OpenSpec.upto clampCanonSpec)

/-- 'sheavelaw03.ClampMuls', WHERE WHAT IT READS IS OF BULK AT MOST 1048576: true; the input reads as it did. -/
def clampMulsUptoRow : OpenClaim := { program := "ytbdmahidobjaoaadoor", sum := "6dd0c55e744b4a2b3d7d39fd0f6400a95378b1c7c8464476607fd97ca30e49cb", func := "sheave/sheavelaw03.ClampMuls", spec := "clampMuls", inPlace := ["math/bits.Add64", "math/bits.Sub64"], named := ["sheave/clamp.prime"], apart := false, laid := [("sheave/clamp.prime", laid_sheave_clamp_prime)], narrowed := true }
def ClampMulsUptoSaid : Prop := clampMulsUptoRow.holds Tryd.pinned (OpenSpec.upto clampMulsSpec)

/-- 'sheavelaw03.ClampLow', WHERE WHAT IT READS IS OF BULK AT MOST 1048576: true; the input reads as it did. -/
def clampLowUptoRow : OpenClaim := { program := "ytbdmahidobjaoaadoor", sum := "6dd0c55e744b4a2b3d7d39fd0f6400a95378b1c7c8464476607fd97ca30e49cb", func := "sheave/sheavelaw03.ClampLow", spec := "clampLow", inPlace := ["math/bits.Add64", "math/bits.Sub64"], named := ["sheave/clamp.prime"], apart := false, laid := [("sheave/clamp.prime", laid_sheave_clamp_prime)], narrowed := true }
def ClampLowUptoSaid : Prop := clampLowUptoRow.holds Tryd.pinned (OpenSpec.upto clampLowSpec)

/-- 'sheavelaw03.ClampWhole', WHERE WHAT IT READS IS OF BULK AT MOST 1048576: true; the input reads as it did. -/
def clampWholeUptoRow : OpenClaim := { program := "ytbdmahidobjaoaadoor", sum := "6dd0c55e744b4a2b3d7d39fd0f6400a95378b1c7c8464476607fd97ca30e49cb", func := "sheave/sheavelaw03.ClampWhole", spec := "clampWhole", inPlace := ["math/bits.Add64", "math/bits.Sub64"], named := ["sheave/clamp.prime"], apart := false, laid := [("sheave/clamp.prime", laid_sheave_clamp_prime)], narrowed := true }
def ClampWholeUptoSaid : Prop := clampWholeUptoRow.holds Tryd.pinned (OpenSpec.upto clampWholeSpec)

/-- 'sheavelaw03.ClampAdds', WHERE WHAT IT READS IS OF BULK AT MOST 1048576: true; the input reads as it did. -/
def clampAddsUptoRow : OpenClaim := { program := "ytbdmahidobjaoaadoor", sum := "6dd0c55e744b4a2b3d7d39fd0f6400a95378b1c7c8464476607fd97ca30e49cb", func := "sheave/sheavelaw03.ClampAdds", spec := "clampAdds", inPlace := ["math/bits.Add64", "math/bits.Sub64"], named := ["sheave/clamp.prime"], apart := false, laid := [("sheave/clamp.prime", laid_sheave_clamp_prime)], narrowed := true }
def ClampAddsUptoSaid : Prop := clampAddsUptoRow.holds Tryd.pinned (OpenSpec.upto clampAddsSpec)

/-- 'sheavelaw03.ClampSides', WHERE WHAT IT READS IS OF BULK AT MOST 1048576: true; the input reads as it did. -/
def clampSidesUptoRow : OpenClaim := { program := "ytbdmahidobjaoaadoor", sum := "6dd0c55e744b4a2b3d7d39fd0f6400a95378b1c7c8464476607fd97ca30e49cb", func := "sheave/sheavelaw03.ClampSides", spec := "clampSides", inPlace := ["math/bits.Add64", "math/bits.Sub64"], named := ["sheave/clamp.prime"], apart := false, laid := [("sheave/clamp.prime", laid_sheave_clamp_prime)], narrowed := true }
def ClampSidesUptoSaid : Prop := clampSidesUptoRow.holds Tryd.pinned (OpenSpec.upto clampSidesSpec)

/-- 'sheavelaw03.ClampGroups', WHERE WHAT IT READS IS OF BULK AT MOST 1048576: true; the input reads as it did. -/
def clampGroupsUptoRow : OpenClaim := { program := "ytbdmahidobjaoaadoor", sum := "6dd0c55e744b4a2b3d7d39fd0f6400a95378b1c7c8464476607fd97ca30e49cb", func := "sheave/sheavelaw03.ClampGroups", spec := "clampGroups", inPlace := ["math/bits.Add64", "math/bits.Sub64"], named := ["sheave/clamp.prime"], apart := false, laid := [("sheave/clamp.prime", laid_sheave_clamp_prime)], narrowed := true }
def ClampGroupsUptoSaid : Prop := clampGroupsUptoRow.holds Tryd.pinned (OpenSpec.upto clampGroupsSpec)

/-- 'sheavelaw03.ClampSpreads', WHERE WHAT IT READS IS OF BULK AT MOST 1048576: true; the input reads as it did. -/
def clampSpreadsUptoRow : OpenClaim := { program := "ytbdmahidobjaoaadoor", sum := "6dd0c55e744b4a2b3d7d39fd0f6400a95378b1c7c8464476607fd97ca30e49cb", func := "sheave/sheavelaw03.ClampSpreads", spec := "clampSpreads", inPlace := ["math/bits.Add64", "math/bits.Sub64"], named := ["sheave/clamp.prime"], apart := false, laid := [("sheave/clamp.prime", laid_sheave_clamp_prime)], narrowed := true }
def ClampSpreadsUptoSaid : Prop := clampSpreadsUptoRow.holds Tryd.pinned (OpenSpec.upto clampSpreadsSpec)

/-- 'sheavelaw03.ClampOnes', WHERE WHAT IT READS IS OF BULK AT MOST 1048576: true; the input reads as it did. -/
def clampOnesUptoRow : OpenClaim := { program := "ytbdmahidobjaoaadoor", sum := "6dd0c55e744b4a2b3d7d39fd0f6400a95378b1c7c8464476607fd97ca30e49cb", func := "sheave/sheavelaw03.ClampOnes", spec := "clampOnes", inPlace := ["math/bits.Add64", "math/bits.Sub64"], named := ["sheave/clamp.prime"], apart := false, laid := [("sheave/clamp.prime", laid_sheave_clamp_prime)], narrowed := true }
def ClampOnesUptoSaid : Prop := clampOnesUptoRow.holds Tryd.pinned (OpenSpec.upto clampOnesSpec)

/-- 'sheavelaw03.ClampStands', WHERE WHAT IT READS IS OF BULK AT MOST 1048576: true; the input reads as it did. -/
def clampStandsUptoRow : OpenClaim := { program := "ytbdmahidobjaoaadoor", sum := "6dd0c55e744b4a2b3d7d39fd0f6400a95378b1c7c8464476607fd97ca30e49cb", func := "sheave/sheavelaw03.ClampStands", spec := "clampStands", inPlace := ["math/bits.Add64", "math/bits.Sub64"], named := ["sheave/clamp.prime"], apart := false, laid := [("sheave/clamp.prime", laid_sheave_clamp_prime)], narrowed := true }
def ClampStandsUptoSaid : Prop := clampStandsUptoRow.holds Tryd.pinned (OpenSpec.upto clampStandsSpec)

/-- 'sheavelaw05.PolySums', WHERE WHAT IT READS IS OF BULK AT MOST 1048576: true; the input reads as it did. -/
def polySumsUptoRow : OpenClaim := { program := "ytbdmahidobjaoaadoor", sum := "6dd0c55e744b4a2b3d7d39fd0f6400a95378b1c7c8464476607fd97ca30e49cb", func := "sheave/sheavelaw05.PolySums", spec := "polySums", inPlace := ["math/bits.Add64", "math/bits.Sub64"], named := ["sheave/clamp.prime"], apart := false, laid := [("sheave/clamp.prime", laid_sheave_clamp_prime)], narrowed := true }
def PolySumsUptoSaid : Prop := polySumsUptoRow.holds Tryd.pinned (OpenSpec.upto polySumsSpec)

/-- 'sheavelaw05.PolySame', WHERE WHAT IT READS IS OF BULK AT MOST 1048576: true; the input reads as it did. -/
def polySameUptoRow : OpenClaim := { program := "ytbdmahidobjaoaadoor", sum := "6dd0c55e744b4a2b3d7d39fd0f6400a95378b1c7c8464476607fd97ca30e49cb", func := "sheave/sheavelaw05.PolySame", spec := "polySame", inPlace := ["math/bits.Add64", "math/bits.Sub64"], named := ["sheave/clamp.prime"], apart := false, laid := [("sheave/clamp.prime", laid_sheave_clamp_prime)], narrowed := true }
def PolySameUptoSaid : Prop := polySameUptoRow.holds Tryd.pinned (OpenSpec.upto polySameSpec)

/-- 'sheavelaw05.PolyTrims', WHERE WHAT IT READS IS OF BULK AT MOST 1048576: true; the input reads as it did. -/
def polyTrimsUptoRow : OpenClaim := { program := "ytbdmahidobjaoaadoor", sum := "6dd0c55e744b4a2b3d7d39fd0f6400a95378b1c7c8464476607fd97ca30e49cb", func := "sheave/sheavelaw05.PolyTrims", spec := "polyTrims", inPlace := ["math/bits.Add64", "math/bits.Sub64"], named := ["sheave/clamp.prime"], apart := false, laid := [("sheave/clamp.prime", laid_sheave_clamp_prime)], narrowed := true }
def PolyTrimsUptoSaid : Prop := polyTrimsUptoRow.holds Tryd.pinned (OpenSpec.upto polyTrimsSpec)

/-- 'sheavelaw05.PolySteps', WHERE WHAT IT READS IS OF BULK AT MOST 1048576: true; the input reads as it did. -/
def polyStepsUptoRow : OpenClaim := { program := "ytbdmahidobjaoaadoor", sum := "6dd0c55e744b4a2b3d7d39fd0f6400a95378b1c7c8464476607fd97ca30e49cb", func := "sheave/sheavelaw05.PolySteps", spec := "polySteps", inPlace := ["math/bits.Add64", "math/bits.Sub64"], named := ["sheave/clamp.prime"], apart := false, laid := [("sheave/clamp.prime", laid_sheave_clamp_prime)], narrowed := true }
def PolyStepsUptoSaid : Prop := polyStepsUptoRow.holds Tryd.pinned (OpenSpec.upto polyStepsSpec)

/-- 'sheavelaw05.PolyHalves', WHERE WHAT IT READS IS OF BULK AT MOST 1048576: true; the input reads as it did. -/
def polyHalvesUptoRow : OpenClaim := { program := "ytbdmahidobjaoaadoor", sum := "6dd0c55e744b4a2b3d7d39fd0f6400a95378b1c7c8464476607fd97ca30e49cb", func := "sheave/sheavelaw05.PolyHalves", spec := "polyHalves", inPlace := ["math/bits.Add64", "math/bits.Sub64"], named := ["sheave/clamp.prime"], apart := false, laid := [("sheave/clamp.prime", laid_sheave_clamp_prime)], narrowed := true }
def PolyHalvesUptoSaid : Prop := polyHalvesUptoRow.holds Tryd.pinned (OpenSpec.upto polyHalvesSpec)

end Rows
end Go.Proofs.YtbdmahidobjaoaaDoor
