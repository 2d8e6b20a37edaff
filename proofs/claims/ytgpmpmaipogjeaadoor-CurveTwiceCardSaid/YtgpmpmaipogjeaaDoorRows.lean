/-
  NARROWER THAN 'FOR EVERY INPUT', by the rows' own cells (each row's printed sentence says how): CurveSubs: laid · CurveMuls: laid · CurveInverts: laid · CurveInverse: laid · CurveTwice: laid · CurveAdds: laid · CurveSquares: laid · CurveSides: laid · CurveGroups: laid.
  DERIVED. THE GIVEN ROWS OF THIS SEAT. 9 by the template 'for every input the law returns true; each argument reads behind the call as it read before'; 0 by the template 'total and deterministic' (their statements: YtgpmpmaipogjeaaDoorTotals.lean).
  GIVEN WITH THE SEED: the statements are not yours to turn. If you find one false, say at which input.
  Laid BY PROGRAM, IN A SANDBOX (cutbox-rows.mjs): the forced cells as the released guide's own fill.sh prints them over the translation e8480fe6e1491c8d… (all of the seat's roots in one cut). By AI agents, Wed Nov 11 2026. No macro, syntax, notation, axiom, sorry.
-/
import Derived.Test.YtgpmpmaipogjeaaDoorChecked
import GoSem.Claim
import GoSem.ClaimJoined
import GoSem.ClaimMapViews
import Derived.JoinedTies
import Derived.KernelRfl
namespace Go.Proofs.YtgpmpmaipogjeaaDoor
/- THE CELL 'sum', in the pinned program and in every row, IS THE sha256 OF THE DUMP (.gsa) THAT YtgpmpmaipogjeaaDoorProg.lean LOADS. Nothing in Lean hashes anything: it is a label: what it is worth is what the hold of that sum in a sandbox is worth. -/
noncomputable def Tryd.pinned : Pinned := { name := "ytgpmpmaipogjeaadoor", sum := "e8480fe6e1491c8da0d59e7d8663db7795ed0f0d6c621fa38a62f5f3fc0140e2", checked := Tryd.checked }
namespace Rows
def none {H : Type} : Left H := { results := [], args := [] }

/- WHAT THE LISTED PACKAGE-LEVEL VARIABLES READ AS WHEN THE CALL BEGINS. Each datum BY PROGRAM (the guide's laid-datum.mjs) off the statement by which the dump's own 'gosem.cut.vars' lays the variable. In a bare row this is a premise. The card (YtgpmpmaipogjeaaDoorCards.lean) ties it to the program's text. -/
def laid_sheave_curve_prime {H : Type} : DataW H := .agg [.lit (.int .u64 18446744073709551597), .lit (.int .u64 18446744073709551615), .lit (.int .u64 18446744073709551615), .lit (.int .u64 9223372036854775807)]

/-- 'sheavelaw01.CurveSubs': WHATEVER THE INPUT: true; the input reads as it did. -/
def curveSubsSpec : ChangeSpec := { name := "curveSubs", fn := fun _ => fun
  | [d1, d2] => { results := [.lit (.bool true)], args := [d1, d2] }
  | _ => none }
def curveSubsRow : OpenClaim := { program := "ytgpmpmaipogjeaadoor", sum := "e8480fe6e1491c8da0d59e7d8663db7795ed0f0d6c621fa38a62f5f3fc0140e2", func := "sheave/sheavelaw01.CurveSubs", spec := "curveSubs", inPlace := ["math/bits.Sub64", "math/bits.Add64"], named := ["sheave/curve.prime"], apart := false, laid := [("sheave/curve.prime", laid_sheave_curve_prime)] }
def CurveSubsSaid : Prop := curveSubsRow.holds Tryd.pinned (OpenSpec.ofChange curveSubsSpec)

/-- ITS FALSE NEIGHBOUR: 'it returns false'. Refute it at one input. -/
def curveSubsWrong : ChangeSpec := { name := "curveSubs", fn := fun _ => fun
  | [d1, d2] => { results := [.lit (.bool false)], args := [d1, d2] }
  | _ => none }
def CurveSubsWrongFalsely : Prop := curveSubsRow.holds Tryd.pinned (OpenSpec.ofChange curveSubsWrong)

/-- 'sheavelaw01.CurveMuls': WHATEVER THE INPUT: true; the input reads as it did. -/
def curveMulsSpec : ChangeSpec := { name := "curveMuls", fn := fun _ => fun
  | [d1, d2] => { results := [.lit (.bool true)], args := [d1, d2] }
  | _ => none }
def curveMulsRow : OpenClaim := { program := "ytgpmpmaipogjeaadoor", sum := "e8480fe6e1491c8da0d59e7d8663db7795ed0f0d6c621fa38a62f5f3fc0140e2", func := "sheave/sheavelaw01.CurveMuls", spec := "curveMuls", inPlace := ["math/bits.Sub64", "math/bits.Add64"], named := ["sheave/curve.prime"], apart := false, laid := [("sheave/curve.prime", laid_sheave_curve_prime)] }
def CurveMulsSaid : Prop := curveMulsRow.holds Tryd.pinned (OpenSpec.ofChange curveMulsSpec)

/-- ITS FALSE NEIGHBOUR: 'it returns false'. Refute it at one input. -/
def curveMulsWrong : ChangeSpec := { name := "curveMuls", fn := fun _ => fun
  | [d1, d2] => { results := [.lit (.bool false)], args := [d1, d2] }
  | _ => none }
def CurveMulsWrongFalsely : Prop := curveMulsRow.holds Tryd.pinned (OpenSpec.ofChange curveMulsWrong)

/-- 'sheavelaw01.CurveInverts': WHATEVER THE INPUT: true; the input reads as it did. -/
def curveInvertsSpec : ChangeSpec := { name := "curveInverts", fn := fun _ => fun
  | [d] => { results := [.lit (.bool true)], args := [d] }
  | _ => none }
def curveInvertsRow : OpenClaim := { program := "ytgpmpmaipogjeaadoor", sum := "e8480fe6e1491c8da0d59e7d8663db7795ed0f0d6c621fa38a62f5f3fc0140e2", func := "sheave/sheavelaw01.CurveInverts", spec := "curveInverts", inPlace := ["math/bits.Sub64", "math/bits.Add64"], named := ["sheave/curve.prime"], apart := false, laid := [("sheave/curve.prime", laid_sheave_curve_prime)] }
def CurveInvertsSaid : Prop := curveInvertsRow.holds Tryd.pinned (OpenSpec.ofChange curveInvertsSpec)

/-- ITS FALSE NEIGHBOUR: 'it returns false'. Refute it at one input. -/
def curveInvertsWrong : ChangeSpec := { name := "curveInverts", fn := fun _ => fun
  | [d] => { results := [.lit (.bool false)], args := [d] }
  | _ => none }
def CurveInvertsWrongFalsely : Prop := curveInvertsRow.holds Tryd.pinned (OpenSpec.ofChange curveInvertsWrong)

/-- 'sheavelaw01.CurveInverse': WHATEVER THE INPUT: true; the input reads as it did. -/
def curveInverseSpec : ChangeSpec := { name := "curveInverse", fn := fun _ => fun
  | [d] => { results := [.lit (.bool true)], args := [d] }
  | _ => none }
def curveInverseRow : OpenClaim := { program := "ytgpmpmaipogjeaadoor", sum := "e8480fe6e1491c8da0d59e7d8663db7795ed0f0d6c621fa38a62f5f3fc0140e2", func := "sheave/sheavelaw01.CurveInverse", spec := "curveInverse", inPlace := ["math/bits.Sub64", "math/bits.Add64"], named := ["sheave/curve.prime"], apart := false, laid := [("sheave/curve.prime", laid_sheave_curve_prime)] }
def CurveInverseSaid : Prop := curveInverseRow.holds Tryd.pinned (OpenSpec.ofChange curveInverseSpec)

/-- ITS FALSE NEIGHBOUR: 'it returns false'. Refute it at one input. -/
def curveInverseWrong : ChangeSpec := { name := "curveInverse", fn := fun _ => fun
  | [d] => { results := [.lit (.bool false)], args := [d] }
  | _ => none }
def CurveInverseWrongFalsely : Prop := curveInverseRow.holds Tryd.pinned (OpenSpec.ofChange curveInverseWrong)

/-- 'sheavelaw01.CurveTwice': WHATEVER THE INPUT: true; the input reads as it did. -/
def curveTwiceSpec : ChangeSpec := { name := "curveTwice", fn := fun _ => fun
  | [d1, d2] => { results := [.lit (.bool true)], args := [d1, d2] }
  | _ => none }
def curveTwiceRow : OpenClaim := { program := "ytgpmpmaipogjeaadoor", sum := "e8480fe6e1491c8da0d59e7d8663db7795ed0f0d6c621fa38a62f5f3fc0140e2", func := "sheave/sheavelaw01.CurveTwice", spec := "curveTwice", inPlace := ["math/bits.Sub64", "math/bits.Add64"], named := ["sheave/curve.prime"], apart := false, laid := [("sheave/curve.prime", laid_sheave_curve_prime)] }
def CurveTwiceSaid : Prop := curveTwiceRow.holds Tryd.pinned (OpenSpec.ofChange curveTwiceSpec)

/-- ITS FALSE NEIGHBOUR: 'it returns false'. Refute it at one input. -/
def curveTwiceWrong : ChangeSpec := { name := "curveTwice", fn := fun _ => fun
  | [d1, d2] => { results := [.lit (.bool false)], args := [d1, d2] }
  | _ => none }
def CurveTwiceWrongFalsely : Prop := curveTwiceRow.holds Tryd.pinned (OpenSpec.ofChange curveTwiceWrong)

/-- 'sheavelaw01.CurveAdds': WHATEVER THE INPUT: true; the input reads as it did. -/
def curveAddsSpec : ChangeSpec := { name := "curveAdds", fn := fun _ => fun
  | [d1, d2] => { results := [.lit (.bool true)], args := [d1, d2] }
  | _ => none }
def curveAddsRow : OpenClaim := { program := "ytgpmpmaipogjeaadoor", sum := "e8480fe6e1491c8da0d59e7d8663db7795ed0f0d6c621fa38a62f5f3fc0140e2", func := "sheave/sheavelaw01.CurveAdds", spec := "curveAdds", inPlace := ["math/bits.Sub64", "math/bits.Add64"], named := ["sheave/curve.prime"], apart := false, laid := [("sheave/curve.prime", laid_sheave_curve_prime)] }
def CurveAddsSaid : Prop := curveAddsRow.holds Tryd.pinned (OpenSpec.ofChange curveAddsSpec)

/-- ITS FALSE NEIGHBOUR: 'it returns false'. Refute it at one input. -/
def curveAddsWrong : ChangeSpec := { name := "curveAdds", fn := fun _ => fun
  | [d1, d2] => { results := [.lit (.bool false)], args := [d1, d2] }
  | _ => none }
def CurveAddsWrongFalsely : Prop := curveAddsRow.holds Tryd.pinned (OpenSpec.ofChange curveAddsWrong)

/-- 'sheavelaw01.CurveSquares': WHATEVER THE INPUT: true; the input reads as it did. -/
def curveSquaresSpec : ChangeSpec := { name := "curveSquares", fn := fun _ => fun
  | [d] => { results := [.lit (.bool true)], args := [d] }
  | _ => none }
def curveSquaresRow : OpenClaim := { program := "ytgpmpmaipogjeaadoor", sum := "e8480fe6e1491c8da0d59e7d8663db7795ed0f0d6c621fa38a62f5f3fc0140e2", func := "sheave/sheavelaw01.CurveSquares", spec := "curveSquares", inPlace := ["math/bits.Sub64", "math/bits.Add64"], named := ["sheave/curve.prime"], apart := false, laid := [("sheave/curve.prime", laid_sheave_curve_prime)] }
def CurveSquaresSaid : Prop := curveSquaresRow.holds Tryd.pinned (OpenSpec.ofChange curveSquaresSpec)

/-- ITS FALSE NEIGHBOUR: 'it returns false'. Refute it at one input. -/
def curveSquaresWrong : ChangeSpec := { name := "curveSquares", fn := fun _ => fun
  | [d] => { results := [.lit (.bool false)], args := [d] }
  | _ => none }
def CurveSquaresWrongFalsely : Prop := curveSquaresRow.holds Tryd.pinned (OpenSpec.ofChange curveSquaresWrong)

/-- 'sheavelaw01.CurveSides': WHATEVER THE INPUT: true; the input reads as it did. -/
def curveSidesSpec : ChangeSpec := { name := "curveSides", fn := fun _ => fun
  | [d1, d2] => { results := [.lit (.bool true)], args := [d1, d2] }
  | _ => none }
def curveSidesRow : OpenClaim := { program := "ytgpmpmaipogjeaadoor", sum := "e8480fe6e1491c8da0d59e7d8663db7795ed0f0d6c621fa38a62f5f3fc0140e2", func := "sheave/sheavelaw01.CurveSides", spec := "curveSides", inPlace := ["math/bits.Sub64", "math/bits.Add64"], named := ["sheave/curve.prime"], apart := false, laid := [("sheave/curve.prime", laid_sheave_curve_prime)] }
def CurveSidesSaid : Prop := curveSidesRow.holds Tryd.pinned (OpenSpec.ofChange curveSidesSpec)

/-- ITS FALSE NEIGHBOUR: 'it returns false'. Refute it at one input. -/
def curveSidesWrong : ChangeSpec := { name := "curveSides", fn := fun _ => fun
  | [d1, d2] => { results := [.lit (.bool false)], args := [d1, d2] }
  | _ => none }
def CurveSidesWrongFalsely : Prop := curveSidesRow.holds Tryd.pinned (OpenSpec.ofChange curveSidesWrong)

/-- 'sheavelaw01.CurveGroups': WHATEVER THE INPUT: true; the input reads as it did. -/
def curveGroupsSpec : ChangeSpec := { name := "curveGroups", fn := fun _ => fun
  | [d1, d2, d3] => { results := [.lit (.bool true)], args := [d1, d2, d3] }
  | _ => none }
def curveGroupsRow : OpenClaim := { program := "ytgpmpmaipogjeaadoor", sum := "e8480fe6e1491c8da0d59e7d8663db7795ed0f0d6c621fa38a62f5f3fc0140e2", func := "sheave/sheavelaw01.CurveGroups", spec := "curveGroups", inPlace := ["math/bits.Sub64", "math/bits.Add64"], named := ["sheave/curve.prime"], apart := false, laid := [("sheave/curve.prime", laid_sheave_curve_prime)] }
def CurveGroupsSaid : Prop := curveGroupsRow.holds Tryd.pinned (OpenSpec.ofChange curveGroupsSpec)

/-- ITS FALSE NEIGHBOUR: 'it returns false'. Refute it at one input. -/
def curveGroupsWrong : ChangeSpec := { name := "curveGroups", fn := fun _ => fun
  | [d1, d2, d3] => { results := [.lit (.bool false)], args := [d1, d2, d3] }
  | _ => none }
def CurveGroupsWrongFalsely : Prop := curveGroupsRow.holds Tryd.pinned (OpenSpec.ofChange curveGroupsWrong)

/- THE SECOND FORM. 'bulk': how many values and letters a reading holds, each counted each time it is reached (what is shared counts as often as it is met; a slice's spare places count too). A statement '..UptoSaid' is the law's where the arguments, and the package variables that the reading takes, are together of bulk at most 1048576: NARROWER than '..Said'. Prove '..Said' where nothing that the law and all that it calls make is longer than what came in: it says more and counts as full. Else prove '..UptoSaid'. A law counts once. -/
mutual
def uptoBulk {H : Type} : DataW H → Nat
  | .lit (.string bytes) => bytes.length + 1
  | .lit _ => 1
  | .nil => 1
  | .ptr d => uptoBulk d + 1
  | .slice elems spare => uptoBulkAll elems + uptoBulkAll spare + 1
  | .agg parts => uptoBulkAll parts + 1
  | .iface _ d => uptoBulk d + 1
  | .map entries => uptoBulkEntries entries + 1
  | .held _ => 1
def uptoBulkAll {H : Type} : List (DataW H) → Nat
  | [] => 0
  | d :: r => uptoBulk d + uptoBulkAll r
def uptoBulkEntries {H : Type} : List (Lit × DataW H) → Nat
  | [] => 0
  | x :: r => uptoBulkEntry x + uptoBulkEntries r
def uptoBulkEntry {H : Type} : Lit × DataW H → Nat
  | (.string bytes, d) => bytes.length + uptoBulk d + 1
  | (_, d) => uptoBulk d + 1
 end
def uptoSmall : (H : Type) → List (DataW H) → Bool := fun _ ds => decide (uptoBulkAll ds ≤ 1048576)
def OpenSpec.upto (s : _root_.Go.ChangeSpec) : _root_.Go.OpenSpec := { _root_.Go.OpenSpec.ofChange s with cond := some uptoSmall }

/-- 'sheavelaw01.CurveSubs', WHERE WHAT IT READS IS OF BULK AT MOST 1048576: true; the input reads as it did. -/
def curveSubsUptoRow : OpenClaim := { program := "ytgpmpmaipogjeaadoor", sum := "e8480fe6e1491c8da0d59e7d8663db7795ed0f0d6c621fa38a62f5f3fc0140e2", func := "sheave/sheavelaw01.CurveSubs", spec := "curveSubs", inPlace := ["math/bits.Sub64", "math/bits.Add64"], named := ["sheave/curve.prime"], apart := false, laid := [("sheave/curve.prime", laid_sheave_curve_prime)], narrowed := true }
def CurveSubsUptoSaid : Prop := curveSubsUptoRow.holds Tryd.pinned (OpenSpec.upto curveSubsSpec)

/-- 'sheavelaw01.CurveMuls', WHERE WHAT IT READS IS OF BULK AT MOST 1048576: true; the input reads as it did. -/
def curveMulsUptoRow : OpenClaim := { program := "ytgpmpmaipogjeaadoor", sum := "e8480fe6e1491c8da0d59e7d8663db7795ed0f0d6c621fa38a62f5f3fc0140e2", func := "sheave/sheavelaw01.CurveMuls", spec := "curveMuls", inPlace := ["math/bits.Sub64", "math/bits.Add64"], named := ["sheave/curve.prime"], apart := false, laid := [("sheave/curve.prime", laid_sheave_curve_prime)], narrowed := true }
def CurveMulsUptoSaid : Prop := curveMulsUptoRow.holds Tryd.pinned (OpenSpec.upto curveMulsSpec)

/-- 'sheavelaw01.CurveInverts', WHERE WHAT IT READS IS OF BULK AT MOST 1048576: true; the input reads as it did. -/
def curveInvertsUptoRow : OpenClaim := { program := "ytgpmpmaipogjeaadoor", sum := "e8480fe6e1491c8da0d59e7d8663db7795ed0f0d6c621fa38a62f5f3fc0140e2", func := "sheave/sheavelaw01.CurveInverts", spec := "curveInverts", inPlace := ["math/bits.Sub64", "math/bits.Add64"], named := ["sheave/curve.prime"], apart := false, laid := [("sheave/curve.prime", laid_sheave_curve_prime)], narrowed := true }
def CurveInvertsUptoSaid : Prop := curveInvertsUptoRow.holds Tryd.pinned (OpenSpec.upto curveInvertsSpec)

/-- 'sheavelaw01.CurveInverse', WHERE WHAT IT READS IS OF BULK AT MOST 1048576: true; the input reads as it did. -/
def curveInverseUptoRow : OpenClaim := { program := "ytgpmpmaipogjeaadoor", sum := "e8480fe6e1491c8da0d59e7d8663db7795ed0f0d6c621fa38a62f5f3fc0140e2", func := "sheave/sheavelaw01.CurveInverse", spec := "curveInverse", inPlace := ["math/bits.Sub64", "math/bits.Add64"], named := ["sheave/curve.prime"], apart := false, laid := [("sheave/curve.prime", laid_sheave_curve_prime)], narrowed := true }
def CurveInverseUptoSaid : Prop := curveInverseUptoRow.holds Tryd.pinned (OpenSpec.upto curveInverseSpec)

/-- 'sheavelaw01.CurveTwice', WHERE WHAT IT READS IS OF BULK AT MOST 1048576: true; the input reads as it did. -/
def curveTwiceUptoRow : OpenClaim := { program := "ytgpmpmaipogjeaadoor", sum := "e8480fe6e1491c8da0d59e7d8663db7795ed0f0d6c621fa38a62f5f3fc0140e2", func := "sheave/sheavelaw01.CurveTwice", spec := "curveTwice", inPlace := ["math/bits.Sub64", "math/bits.Add64"], named := ["sheave/curve.prime"], apart := false, laid := [("sheave/curve.prime", laid_sheave_curve_prime)], narrowed := true }
def CurveTwiceUptoSaid : Prop := curveTwiceUptoRow.holds Tryd.pinned (OpenSpec.upto curveTwiceSpec)

/-- 'sheavelaw01.CurveAdds', WHERE WHAT IT READS IS OF BULK AT MOST 1048576: true; the input reads as it did. -/
def curveAddsUptoRow : OpenClaim := { program := "ytgpmpmaipogjeaadoor", sum := "e8480fe6e1491c8da0d59e7d8663db7795ed0f0d6c621fa38a62f5f3fc0140e2", func := "sheave/sheavelaw01.CurveAdds", spec := "curveAdds", inPlace := ["math/bits.Sub64", "math/bits.Add64"], named := ["sheave/curve.prime"], apart := false, laid := [("sheave/curve.prime", laid_sheave_curve_prime)], narrowed := true }
def CurveAddsUptoSaid : Prop := curveAddsUptoRow.holds Tryd.pinned (OpenSpec.upto curveAddsSpec)

/-- 'sheavelaw01.CurveSquares', WHERE WHAT IT READS IS OF BULK AT MOST 1048576: true; the input reads as it did. -/
def curveSquaresUptoRow : OpenClaim := { program := "ytgpmpmaipogjeaadoor", sum := "e8480fe6e1491c8da0d59e7d8663db7795ed0f0d6c621fa38a62f5f3fc0140e2", func := "sheave/sheavelaw01.CurveSquares", spec := "curveSquares", inPlace := ["math/bits.Sub64", "math/bits.Add64"], named := ["sheave/curve.prime"], apart := false, laid := [("sheave/curve.prime", laid_sheave_curve_prime)], narrowed := true }
def CurveSquaresUptoSaid : Prop := curveSquaresUptoRow.holds Tryd.pinned (OpenSpec.upto curveSquaresSpec)

/-- 'sheavelaw01.CurveSides', WHERE WHAT IT READS IS OF BULK AT MOST 1048576: true; the input reads as it did. -/
def curveSidesUptoRow : OpenClaim := { program := "ytgpmpmaipogjeaadoor", sum := "e8480fe6e1491c8da0d59e7d8663db7795ed0f0d6c621fa38a62f5f3fc0140e2", func := "sheave/sheavelaw01.CurveSides", spec := "curveSides", inPlace := ["math/bits.Sub64", "math/bits.Add64"], named := ["sheave/curve.prime"], apart := false, laid := [("sheave/curve.prime", laid_sheave_curve_prime)], narrowed := true }
def CurveSidesUptoSaid : Prop := curveSidesUptoRow.holds Tryd.pinned (OpenSpec.upto curveSidesSpec)

/-- 'sheavelaw01.CurveGroups', WHERE WHAT IT READS IS OF BULK AT MOST 1048576: true; the input reads as it did. -/
def curveGroupsUptoRow : OpenClaim := { program := "ytgpmpmaipogjeaadoor", sum := "e8480fe6e1491c8da0d59e7d8663db7795ed0f0d6c621fa38a62f5f3fc0140e2", func := "sheave/sheavelaw01.CurveGroups", spec := "curveGroups", inPlace := ["math/bits.Sub64", "math/bits.Add64"], named := ["sheave/curve.prime"], apart := false, laid := [("sheave/curve.prime", laid_sheave_curve_prime)], narrowed := true }
def CurveGroupsUptoSaid : Prop := curveGroupsUptoRow.holds Tryd.pinned (OpenSpec.upto curveGroupsSpec)

end Rows
end Go.Proofs.YtgpmpmaipogjeaaDoor
