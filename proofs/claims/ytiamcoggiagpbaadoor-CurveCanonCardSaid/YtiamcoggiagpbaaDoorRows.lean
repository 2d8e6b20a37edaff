/-
  NARROWER THAN 'FOR EVERY INPUT', by the rows' own cells (each row's printed sentence says how): CurveSpreads: laid · CurveUndoes: laid · CurveOnes: laid · CurveBinomial: laid · CurvePicks: laid · CurveCanon: laid · CurveSame: laid · CurveStands: laid.
  DERIVED. THE GIVEN ROWS OF THIS SEAT. 8 by the template 'for every input the law returns true; each argument reads behind the call as it read before'; 0 by the template 'total and deterministic' (their statements: YtiamcoggiagpbaaDoorTotals.lean).
  GIVEN WITH THE SEED: the statements are not yours to turn. If you find one false, say at which input.
  Laid BY PROGRAM, IN A SANDBOX (cutbox-rows.mjs): the forced cells as the released guide's own fill.sh prints them over the translation dbd5c304b6672de0… (all of the seat's roots in one cut). By AI agents, Wed Nov 11 2026. No macro, syntax, notation, axiom, sorry.
-/
import Derived.Test.YtiamcoggiagpbaaDoorChecked
import GoSem.Claim
import GoSem.ClaimJoined
import GoSem.ClaimMapViews
import Derived.JoinedTies
import Derived.KernelRfl
namespace Go.Proofs.YtiamcoggiagpbaaDoor
/- THE CELL 'sum', in the pinned program and in every row, IS THE sha256 OF THE DUMP (.gsa) THAT YtiamcoggiagpbaaDoorProg.lean LOADS. Nothing in Lean hashes anything: it is a label: what it is worth is what the hold of that sum in a sandbox is worth. -/
noncomputable def Tryd.pinned : Pinned := { name := "ytiamcoggiagpbaadoor", sum := "dbd5c304b6672de013c181bf832b24e7c02c7640daed25675063066d80d33e13", checked := Tryd.checked }
namespace Rows
def none {H : Type} : Left H := { results := [], args := [] }

/- WHAT THE LISTED PACKAGE-LEVEL VARIABLES READ AS WHEN THE CALL BEGINS. Each datum BY PROGRAM (the guide's laid-datum.mjs) off the statement by which the dump's own 'gosem.cut.vars' lays the variable. In a bare row this is a premise. The card (YtiamcoggiagpbaaDoorCards.lean) ties it to the program's text. -/
def laid_sheave_curve_prime {H : Type} : DataW H := .agg [.lit (.int .u64 18446744073709551597), .lit (.int .u64 18446744073709551615), .lit (.int .u64 18446744073709551615), .lit (.int .u64 9223372036854775807)]

/-- 'sheavelaw01.CurveSpreads': WHATEVER THE INPUT: true; the input reads as it did. -/
def curveSpreadsSpec : ChangeSpec := { name := "curveSpreads", fn := fun _ => fun
  | [d1, d2, d3] => { results := [.lit (.bool true)], args := [d1, d2, d3] }
  | _ => none }
def curveSpreadsRow : OpenClaim := { program := "ytiamcoggiagpbaadoor", sum := "dbd5c304b6672de013c181bf832b24e7c02c7640daed25675063066d80d33e13", func := "sheave/sheavelaw01.CurveSpreads", spec := "curveSpreads", inPlace := ["math/bits.Sub64", "math/bits.Add64"], named := ["sheave/curve.prime"], apart := false, laid := [("sheave/curve.prime", laid_sheave_curve_prime)] }
def CurveSpreadsSaid : Prop := curveSpreadsRow.holds Tryd.pinned (OpenSpec.ofChange curveSpreadsSpec)

/-- ITS FALSE NEIGHBOUR: 'it returns false'. Refute it at one input. -/
def curveSpreadsWrong : ChangeSpec := { name := "curveSpreads", fn := fun _ => fun
  | [d1, d2, d3] => { results := [.lit (.bool false)], args := [d1, d2, d3] }
  | _ => none }
def CurveSpreadsWrongFalsely : Prop := curveSpreadsRow.holds Tryd.pinned (OpenSpec.ofChange curveSpreadsWrong)

/-- 'sheavelaw01.CurveUndoes': WHATEVER THE INPUT: true; the input reads as it did. -/
def curveUndoesSpec : ChangeSpec := { name := "curveUndoes", fn := fun _ => fun
  | [d1, d2] => { results := [.lit (.bool true)], args := [d1, d2] }
  | _ => none }
def curveUndoesRow : OpenClaim := { program := "ytiamcoggiagpbaadoor", sum := "dbd5c304b6672de013c181bf832b24e7c02c7640daed25675063066d80d33e13", func := "sheave/sheavelaw01.CurveUndoes", spec := "curveUndoes", inPlace := ["math/bits.Sub64", "math/bits.Add64"], named := ["sheave/curve.prime"], apart := false, laid := [("sheave/curve.prime", laid_sheave_curve_prime)] }
def CurveUndoesSaid : Prop := curveUndoesRow.holds Tryd.pinned (OpenSpec.ofChange curveUndoesSpec)

/-- ITS FALSE NEIGHBOUR: 'it returns false'. Refute it at one input. -/
def curveUndoesWrong : ChangeSpec := { name := "curveUndoes", fn := fun _ => fun
  | [d1, d2] => { results := [.lit (.bool false)], args := [d1, d2] }
  | _ => none }
def CurveUndoesWrongFalsely : Prop := curveUndoesRow.holds Tryd.pinned (OpenSpec.ofChange curveUndoesWrong)

/-- 'sheavelaw01.CurveOnes': WHATEVER THE INPUT: true; the input reads as it did. -/
def curveOnesSpec : ChangeSpec := { name := "curveOnes", fn := fun _ => fun
  | [d] => { results := [.lit (.bool true)], args := [d] }
  | _ => none }
def curveOnesRow : OpenClaim := { program := "ytiamcoggiagpbaadoor", sum := "dbd5c304b6672de013c181bf832b24e7c02c7640daed25675063066d80d33e13", func := "sheave/sheavelaw01.CurveOnes", spec := "curveOnes", inPlace := ["math/bits.Sub64", "math/bits.Add64"], named := ["sheave/curve.prime"], apart := false, laid := [("sheave/curve.prime", laid_sheave_curve_prime)] }
def CurveOnesSaid : Prop := curveOnesRow.holds Tryd.pinned (OpenSpec.ofChange curveOnesSpec)

/-- ITS FALSE NEIGHBOUR: 'it returns false'. Refute it at one input. -/
def curveOnesWrong : ChangeSpec := { name := "curveOnes", fn := fun _ => fun
  | [d] => { results := [.lit (.bool false)], args := [d] }
  | _ => none }
def CurveOnesWrongFalsely : Prop := curveOnesRow.holds Tryd.pinned (OpenSpec.ofChange curveOnesWrong)

/-- 'sheavelaw01.CurveBinomial': WHATEVER THE INPUT: true; the input reads as it did. -/
def curveBinomialSpec : ChangeSpec := { name := "curveBinomial", fn := fun _ => fun
  | [d1, d2] => { results := [.lit (.bool true)], args := [d1, d2] }
  | _ => none }
def curveBinomialRow : OpenClaim := { program := "ytiamcoggiagpbaadoor", sum := "dbd5c304b6672de013c181bf832b24e7c02c7640daed25675063066d80d33e13", func := "sheave/sheavelaw01.CurveBinomial", spec := "curveBinomial", inPlace := ["math/bits.Sub64", "math/bits.Add64"], named := ["sheave/curve.prime"], apart := false, laid := [("sheave/curve.prime", laid_sheave_curve_prime)] }
def CurveBinomialSaid : Prop := curveBinomialRow.holds Tryd.pinned (OpenSpec.ofChange curveBinomialSpec)

/-- ITS FALSE NEIGHBOUR: 'it returns false'. Refute it at one input. -/
def curveBinomialWrong : ChangeSpec := { name := "curveBinomial", fn := fun _ => fun
  | [d1, d2] => { results := [.lit (.bool false)], args := [d1, d2] }
  | _ => none }
def CurveBinomialWrongFalsely : Prop := curveBinomialRow.holds Tryd.pinned (OpenSpec.ofChange curveBinomialWrong)

/-- 'sheavelaw01.CurvePicks': WHATEVER THE INPUT: true; the input reads as it did. -/
def curvePicksSpec : ChangeSpec := { name := "curvePicks", fn := fun _ => fun
  | [d1, d2, d3] => { results := [.lit (.bool true)], args := [d1, d2, d3] }
  | _ => none }
def curvePicksRow : OpenClaim := { program := "ytiamcoggiagpbaadoor", sum := "dbd5c304b6672de013c181bf832b24e7c02c7640daed25675063066d80d33e13", func := "sheave/sheavelaw01.CurvePicks", spec := "curvePicks", inPlace := ["math/bits.Sub64", "math/bits.Add64"], named := ["sheave/curve.prime"], apart := false, laid := [("sheave/curve.prime", laid_sheave_curve_prime)] }
def CurvePicksSaid : Prop := curvePicksRow.holds Tryd.pinned (OpenSpec.ofChange curvePicksSpec)

/-- ITS FALSE NEIGHBOUR: 'it returns false'. Refute it at one input. -/
def curvePicksWrong : ChangeSpec := { name := "curvePicks", fn := fun _ => fun
  | [d1, d2, d3] => { results := [.lit (.bool false)], args := [d1, d2, d3] }
  | _ => none }
def CurvePicksWrongFalsely : Prop := curvePicksRow.holds Tryd.pinned (OpenSpec.ofChange curvePicksWrong)

/-- 'sheavelaw01.CurveCanon': WHATEVER THE INPUT: true; the input reads as it did. -/
def curveCanonSpec : ChangeSpec := { name := "curveCanon", fn := fun _ => fun
  | [d] => { results := [.lit (.bool true)], args := [d] }
  | _ => none }
def curveCanonRow : OpenClaim := { program := "ytiamcoggiagpbaadoor", sum := "dbd5c304b6672de013c181bf832b24e7c02c7640daed25675063066d80d33e13", func := "sheave/sheavelaw01.CurveCanon", spec := "curveCanon", inPlace := ["math/bits.Sub64", "math/bits.Add64"], named := ["sheave/curve.prime"], apart := false, laid := [("sheave/curve.prime", laid_sheave_curve_prime)] }
def CurveCanonSaid : Prop := curveCanonRow.holds Tryd.pinned (OpenSpec.ofChange curveCanonSpec)

/-- ITS FALSE NEIGHBOUR: 'it returns false'. Refute it at one input. -/
def curveCanonWrong : ChangeSpec := { name := "curveCanon", fn := fun _ => fun
  | [d] => { results := [.lit (.bool false)], args := [d] }
  | _ => none }
def CurveCanonWrongFalsely : Prop := curveCanonRow.holds Tryd.pinned (OpenSpec.ofChange curveCanonWrong)

/-- 'sheavelaw01.CurveSame': WHATEVER THE INPUT: true; the input reads as it did. -/
def curveSameSpec : ChangeSpec := { name := "curveSame", fn := fun _ => fun
  | [d1, d2] => { results := [.lit (.bool true)], args := [d1, d2] }
  | _ => none }
def curveSameRow : OpenClaim := { program := "ytiamcoggiagpbaadoor", sum := "dbd5c304b6672de013c181bf832b24e7c02c7640daed25675063066d80d33e13", func := "sheave/sheavelaw01.CurveSame", spec := "curveSame", inPlace := ["math/bits.Sub64", "math/bits.Add64"], named := ["sheave/curve.prime"], apart := false, laid := [("sheave/curve.prime", laid_sheave_curve_prime)] }
def CurveSameSaid : Prop := curveSameRow.holds Tryd.pinned (OpenSpec.ofChange curveSameSpec)

/-- ITS FALSE NEIGHBOUR: 'it returns false'. Refute it at one input. -/
def curveSameWrong : ChangeSpec := { name := "curveSame", fn := fun _ => fun
  | [d1, d2] => { results := [.lit (.bool false)], args := [d1, d2] }
  | _ => none }
def CurveSameWrongFalsely : Prop := curveSameRow.holds Tryd.pinned (OpenSpec.ofChange curveSameWrong)

/-- 'sheavelaw01.CurveStands': WHATEVER THE INPUT: true; the input reads as it did. -/
def curveStandsSpec : ChangeSpec := { name := "curveStands", fn := fun _ => fun
  | [d1, d2] => { results := [.lit (.bool true)], args := [d1, d2] }
  | _ => none }
def curveStandsRow : OpenClaim := { program := "ytiamcoggiagpbaadoor", sum := "dbd5c304b6672de013c181bf832b24e7c02c7640daed25675063066d80d33e13", func := "sheave/sheavelaw01.CurveStands", spec := "curveStands", inPlace := ["math/bits.Sub64", "math/bits.Add64"], named := ["sheave/curve.prime"], apart := false, laid := [("sheave/curve.prime", laid_sheave_curve_prime)] }
def CurveStandsSaid : Prop := curveStandsRow.holds Tryd.pinned (OpenSpec.ofChange curveStandsSpec)

/-- ITS FALSE NEIGHBOUR: 'it returns false'. Refute it at one input. -/
def curveStandsWrong : ChangeSpec := { name := "curveStands", fn := fun _ => fun
  | [d1, d2] => { results := [.lit (.bool false)], args := [d1, d2] }
  | _ => none }
def CurveStandsWrongFalsely : Prop := curveStandsRow.holds Tryd.pinned (OpenSpec.ofChange curveStandsWrong)

/- THE SECOND FORM. 'bulk': how many values and letters a reading holds, each counted each time it is reached (what is shared counts as often as it is met; a slice's spare places count too). A statement '..UptoSaid' is the law's where the arguments, and the package variables that the reading takes, are together of bulk at most 1048576: NARROWER than '..Said'. Prove '..Said' where nothing that the law and all that it calls make is longer than what came in: it says more and counts as full. Else prove '..UptoSaid'. A law counts once. -/
mutual
def uptoBulk {H : Type} : DataW H → Nat
  | .lit (.string bytes) => bytes.length + 1
  | .lit _ => 1
  | .nil => 1
  | .ptr d => uptoBulk d + 1
  | .slice elems spare => uptoBulkAll elems + uptoBulkAll spare + 1
  | .agg parts => uptoBulkAll parts + 1
  | .iface _ d => uptoBulk d + 1
  | .map entries => uptoBulkEntries entries + 1
  | .held _ => 1
def uptoBulkAll {H : Type} : List (DataW H) → Nat
  | [] => 0
  | d :: r => uptoBulk d + uptoBulkAll r
def uptoBulkEntries {H : Type} : List (Lit × DataW H) → Nat
  | [] => 0
  | x :: r => uptoBulkEntry x + uptoBulkEntries r
def uptoBulkEntry {H : Type} : Lit × DataW H → Nat
  | (.string bytes, d) => bytes.length + uptoBulk d + 1
  | (_, d) => uptoBulk d + 1
 end
def uptoSmall : (H : Type) → List (DataW H) → Bool := fun _ ds => decide (uptoBulkAll ds ≤ 1048576)
def OpenSpec.upto (s : _root_.Go.ChangeSpec) : _root_.Go.OpenSpec := { _root_.Go.OpenSpec.ofChange s with cond := some uptoSmall }

/-- 'sheavelaw01.CurveSpreads', WHERE WHAT IT READS IS OF BULK AT MOST 1048576: true; the input reads as it did. -/
def curveSpreadsUptoRow : OpenClaim := { program := "ytiamcoggiagpbaadoor", sum := "dbd5c304b6672de013c181bf832b24e7c02c7640daed25675063066d80d33e13", func := "sheave/sheavelaw01.CurveSpreads", spec := "curveSpreads", inPlace := ["math/bits.Sub64", "math/bits.Add64"], named := ["sheave/curve.prime"], apart := false, laid := [("sheave/curve.prime", laid_sheave_curve_prime)], narrowed := true }
def CurveSpreadsUptoSaid : Prop := curveSpreadsUptoRow.holds Tryd.pinned (OpenSpec.upto curveSpreadsSpec)

/-- 'sheavelaw01.CurveUndoes', WHERE WHAT IT READS IS OF BULK AT MOST 1048576: true; the input reads as it did. -/
def curveUndoesUptoRow : OpenClaim := { program := "ytiamcoggiagpbaadoor", sum := "dbd5c304b6672de013c181bf832b24e7c02c7640daed25675063066d80d33e13", func := "sheave/sheavelaw01.CurveUndoes", spec := "curveUndoes", inPlace := ["math/bits.Sub64", "math/bits.Add64"], named := ["sheave/curve.prime"], apart := false, laid := [("sheave/curve.prime", laid_sheave_curve_prime)], narrowed := true }
def CurveUndoesUptoSaid : Prop := curveUndoesUptoRow.holds Tryd.pinned (OpenSpec.upto curveUndoesSpec)

/-- 'sheavelaw01.CurveOnes', WHERE WHAT IT READS IS OF BULK AT MOST 1048576: true; the input reads as it did. -/
def curveOnesUptoRow : OpenClaim := { program := "ytiamcoggiagpbaadoor", sum := "dbd5c304b6672de013c181bf832b24e7c02c7640daed25675063066d80d33e13", func := "sheave/sheavelaw01.CurveOnes", spec := "curveOnes", inPlace := ["math/bits.Sub64", "math/bits.Add64"], named := ["sheave/curve.prime"], apart := false, laid := [("sheave/curve.prime", laid_sheave_curve_prime)], narrowed := true }
def CurveOnesUptoSaid : Prop := curveOnesUptoRow.holds Tryd.pinned (OpenSpec.upto curveOnesSpec)

/-- 'sheavelaw01.CurveBinomial', WHERE WHAT IT READS IS OF BULK AT MOST 1048576: true; the input reads as it did. -/
def curveBinomialUptoRow : OpenClaim := { program := "ytiamcoggiagpbaadoor", sum := "dbd5c304b6672de013c181bf832b24e7c02c7640daed25675063066d80d33e13", func := "sheave/sheavelaw01.CurveBinomial", spec := "curveBinomial", inPlace := ["math/bits.Sub64", "math/bits.Add64"], named := ["sheave/curve.prime"], apart := false, laid := [("sheave/curve.prime", laid_sheave_curve_prime)], narrowed := true }
def CurveBinomialUptoSaid : Prop := curveBinomialUptoRow.holds Tryd.pinned (OpenSpec.upto curveBinomialSpec)

/-- 'sheavelaw01.CurvePicks', WHERE WHAT IT READS IS OF BULK AT MOST 1048576: true; the input reads as it did. -/
def curvePicksUptoRow : OpenClaim := { program := "ytiamcoggiagpbaadoor", sum := "dbd5c304b6672de013c181bf832b24e7c02c7640daed25675063066d80d33e13", func := "sheave/sheavelaw01.CurvePicks", spec := "curvePicks", inPlace := ["math/bits.Sub64", "math/bits.Add64"], named := ["sheave/curve.prime"], apart := false, laid := [("sheave/curve.prime", laid_sheave_curve_prime)], narrowed := true }
def CurvePicksUptoSaid : Prop := curvePicksUptoRow.holds Tryd.pinned (OpenSpec.upto curvePicksSpec)

/-- 'sheavelaw01.CurveCanon', WHERE WHAT IT READS IS OF BULK AT MOST 1048576: true; the input reads as it did. -/
def curveCanonUptoRow : OpenClaim := { program := "ytiamcoggiagpbaadoor", sum := "dbd5c304b6672de013c181bf832b24e7c02c7640daed25675063066d80d33e13", func := "sheave/sheavelaw01.CurveCanon", spec := "curveCanon", inPlace := ["math/bits.Sub64", "math/bits.Add64"], named := ["sheave/curve.prime"], apart := false, laid := [("sheave/curve.prime", laid_sheave_curve_prime)], narrowed := true }
def CurveCanonUptoSaid : Prop := curveCanonUptoRow.holds Tryd.pinned (OpenSpec.upto curveCanonSpec)

/-- 'sheavelaw01.CurveSame', WHERE WHAT IT READS IS OF BULK AT MOST 1048576: true; the input reads as it did. -/
def curveSameUptoRow : OpenClaim := { program := "ytiamcoggiagpbaadoor", sum := "dbd5c304b6672de013c181bf832b24e7c02c7640daed25675063066d80d33e13", func := "sheave/sheavelaw01.CurveSame", spec := "curveSame", inPlace := ["math/bits.Sub64", "math/bits.Add64"], named := ["sheave/curve.prime"], apart := false, laid := [("sheave/curve.prime", laid_sheave_curve_prime)], narrowed := true }
def CurveSameUptoSaid : Prop := curveSameUptoRow.holds Tryd.pinned (OpenSpec.upto curveSameSpec)

/-- 'sheavelaw01.CurveStands', WHERE WHAT IT READS IS OF BULK AT MOST 1048576: true; the input reads as it did. -/
def curveStandsUptoRow : OpenClaim := { program := "ytiamcoggiagpbaadoor", sum := "dbd5c304b6672de013c181bf832b24e7c02c7640daed25675063066d80d33e13", func := "sheave/sheavelaw01.CurveStands", spec := "curveStands", inPlace := ["math/bits.Sub64", "math/bits.Add64"], named := ["sheave/curve.prime"], apart := false, laid := [("sheave/curve.prime", laid_sheave_curve_prime)], narrowed := true }
def CurveStandsUptoSaid : Prop := curveStandsUptoRow.holds Tryd.pinned (OpenSpec.upto curveStandsSpec)

end Rows
end Go.Proofs.YtiamcoggiagpbaaDoor
