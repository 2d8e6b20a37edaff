/-
  NARROWER THAN 'FOR EVERY INPUT', by the rows' own cells (each row's printed sentence says how): LadderTrims: laid · LadderTimes: laid · LadderShares: laid · LadderSmall: laid · LadderBits: laid · LadderPublic: laid · LadderAgrees: laid · LadderNine: laid.
  DERIVED. THE GIVEN ROWS OF THIS SEAT. 8 by the template 'for every input the law returns true; each argument reads behind the call as it read before'; 0 by the template 'total and deterministic' (their statements: YtechbdggjfahhaaDoorTotals.lean).
  GIVEN WITH THE SEED: the statements are not yours to turn. If you find one false, say at which input.
  Laid BY PROGRAM, IN A SANDBOX (cutbox-rows.mjs): the forced cells as the released guide's own fill.sh prints them over the translation 00ee92e2baae9604… (all of the seat's roots in one cut). By AI agents, Wed Nov 11 2026. No macro, syntax, notation, axiom, sorry.
-/
import Derived.Test.YtechbdggjfahhaaDoorChecked
import GoSem.Claim
import GoSem.ClaimJoined
import GoSem.ClaimMapViews
import Derived.JoinedTies
import Derived.KernelRfl
namespace Go.Proofs.YtechbdggjfahhaaDoor
/- THE CELL 'sum', in the pinned program and in every row, IS THE sha256 OF THE DUMP (.gsa) THAT YtechbdggjfahhaaDoorProg.lean LOADS. Nothing in Lean hashes anything: it is a label: what it is worth is what the hold of that sum in a sandbox is worth. -/
noncomputable def Tryd.pinned : Pinned := { name := "ytechbdggjfahhaadoor", sum := "00ee92e2baae96045ece42d98c31357189bf54cf2827972e25f577cdf2ec44eb", checked := Tryd.checked }
namespace Rows
def none {H : Type} : Left H := { results := [], args := [] }

/- WHAT THE LISTED PACKAGE-LEVEL VARIABLES READ AS WHEN THE CALL BEGINS. Each datum BY PROGRAM (the guide's laid-datum.mjs) off the statement by which the dump's own 'gosem.cut.vars' lays the variable. In a bare row this is a premise. The card (YtechbdggjfahhaaDoorCards.lean) ties it to the program's text. -/
def laid_sheave_curve_prime {H : Type} : DataW H := .agg [.lit (.int .u64 18446744073709551597), .lit (.int .u64 18446744073709551615), .lit (.int .u64 18446744073709551615), .lit (.int .u64 9223372036854775807)]
def laid_sheave_ladder_small {H : Type} : DataW H := .agg [.lit (.int .u8 65), .lit (.int .u8 219), .lit (.int .u8 1), .lit (.int .u8 0), .lit (.int .u8 0), .lit (.int .u8 0), .lit (.int .u8 0), .lit (.int .u8 0), .lit (.int .u8 0), .lit (.int .u8 0), .lit (.int .u8 0), .lit (.int .u8 0), .lit (.int .u8 0), .lit (.int .u8 0), .lit (.int .u8 0), .lit (.int .u8 0), .lit (.int .u8 0), .lit (.int .u8 0), .lit (.int .u8 0), .lit (.int .u8 0), .lit (.int .u8 0), .lit (.int .u8 0), .lit (.int .u8 0), .lit (.int .u8 0), .lit (.int .u8 0), .lit (.int .u8 0), .lit (.int .u8 0), .lit (.int .u8 0), .lit (.int .u8 0), .lit (.int .u8 0), .lit (.int .u8 0), .lit (.int .u8 0)]
def laid_sheave_ladder_begin {H : Type} : DataW H := .agg [.lit (.int .u8 9), .lit (.int .u8 0), .lit (.int .u8 0), .lit (.int .u8 0), .lit (.int .u8 0), .lit (.int .u8 0), .lit (.int .u8 0), .lit (.int .u8 0), .lit (.int .u8 0), .lit (.int .u8 0), .lit (.int .u8 0), .lit (.int .u8 0), .lit (.int .u8 0), .lit (.int .u8 0), .lit (.int .u8 0), .lit (.int .u8 0), .lit (.int .u8 0), .lit (.int .u8 0), .lit (.int .u8 0), .lit (.int .u8 0), .lit (.int .u8 0), .lit (.int .u8 0), .lit (.int .u8 0), .lit (.int .u8 0), .lit (.int .u8 0), .lit (.int .u8 0), .lit (.int .u8 0), .lit (.int .u8 0), .lit (.int .u8 0), .lit (.int .u8 0), .lit (.int .u8 0), .lit (.int .u8 0)]

/-- 'sheavelaw02.LadderTrims': WHATEVER THE INPUT: true; the input reads as it did. -/
def ladderTrimsSpec : ChangeSpec := { name := "ladderTrims", fn := fun _ => fun
  | [d] => { results := [.lit (.bool true)], args := [d] }
  | _ => none }
def ladderTrimsRow : OpenClaim := { program := "ytechbdggjfahhaadoor", sum := "00ee92e2baae96045ece42d98c31357189bf54cf2827972e25f577cdf2ec44eb", func := "sheave/sheavelaw02.LadderTrims", spec := "ladderTrims", inPlace := ["math/bits.Add64", "math/bits.Sub64"], named := ["sheave/ladder.small", "sheave/curve.prime"], apart := false, laid := [("sheave/curve.prime", laid_sheave_curve_prime), ("sheave/ladder.small", laid_sheave_ladder_small)] }
def LadderTrimsSaid : Prop := ladderTrimsRow.holds Tryd.pinned (OpenSpec.ofChange ladderTrimsSpec)

/-- ITS FALSE NEIGHBOUR: 'it returns false'. Refute it at one input. -/
def ladderTrimsWrong : ChangeSpec := { name := "ladderTrims", fn := fun _ => fun
  | [d] => { results := [.lit (.bool false)], args := [d] }
  | _ => none }
def LadderTrimsWrongFalsely : Prop := ladderTrimsRow.holds Tryd.pinned (OpenSpec.ofChange ladderTrimsWrong)

/-- 'sheavelaw02.LadderTimes': WHATEVER THE INPUT: true; the input reads as it did. -/
def ladderTimesSpec : ChangeSpec := { name := "ladderTimes", fn := fun _ => fun
  | [d1, d2] => { results := [.lit (.bool true)], args := [d1, d2] }
  | _ => none }
def ladderTimesRow : OpenClaim := { program := "ytechbdggjfahhaadoor", sum := "00ee92e2baae96045ece42d98c31357189bf54cf2827972e25f577cdf2ec44eb", func := "sheave/sheavelaw02.LadderTimes", spec := "ladderTimes", inPlace := ["math/bits.Add64", "math/bits.Sub64"], named := ["sheave/ladder.small", "sheave/curve.prime"], apart := false, laid := [("sheave/curve.prime", laid_sheave_curve_prime), ("sheave/ladder.small", laid_sheave_ladder_small)] }
def LadderTimesSaid : Prop := ladderTimesRow.holds Tryd.pinned (OpenSpec.ofChange ladderTimesSpec)

/-- ITS FALSE NEIGHBOUR: 'it returns false'. Refute it at one input. -/
def ladderTimesWrong : ChangeSpec := { name := "ladderTimes", fn := fun _ => fun
  | [d1, d2] => { results := [.lit (.bool false)], args := [d1, d2] }
  | _ => none }
def LadderTimesWrongFalsely : Prop := ladderTimesRow.holds Tryd.pinned (OpenSpec.ofChange ladderTimesWrong)

/-- 'sheavelaw02.LadderShares': WHATEVER THE INPUT: true; the input reads as it did. -/
def ladderSharesSpec : ChangeSpec := { name := "ladderShares", fn := fun _ => fun
  | [d1, d2] => { results := [.lit (.bool true)], args := [d1, d2] }
  | _ => none }
def ladderSharesRow : OpenClaim := { program := "ytechbdggjfahhaadoor", sum := "00ee92e2baae96045ece42d98c31357189bf54cf2827972e25f577cdf2ec44eb", func := "sheave/sheavelaw02.LadderShares", spec := "ladderShares", inPlace := ["math/bits.Add64", "math/bits.Sub64"], named := ["sheave/ladder.small", "sheave/curve.prime"], apart := false, laid := [("sheave/curve.prime", laid_sheave_curve_prime), ("sheave/ladder.small", laid_sheave_ladder_small)] }
def LadderSharesSaid : Prop := ladderSharesRow.holds Tryd.pinned (OpenSpec.ofChange ladderSharesSpec)

/-- ITS FALSE NEIGHBOUR: 'it returns false'. Refute it at one input. -/
def ladderSharesWrong : ChangeSpec := { name := "ladderShares", fn := fun _ => fun
  | [d1, d2] => { results := [.lit (.bool false)], args := [d1, d2] }
  | _ => none }
def LadderSharesWrongFalsely : Prop := ladderSharesRow.holds Tryd.pinned (OpenSpec.ofChange ladderSharesWrong)

/-- 'sheavelaw02.LadderSmall': WHATEVER THE INPUT: true; the input reads as it did. -/
def ladderSmallSpec : ChangeSpec := { name := "ladderSmall", fn := fun _ => fun
  | [d] => { results := [.lit (.bool true)], args := [d] }
  | _ => none }
def ladderSmallRow : OpenClaim := { program := "ytechbdggjfahhaadoor", sum := "00ee92e2baae96045ece42d98c31357189bf54cf2827972e25f577cdf2ec44eb", func := "sheave/sheavelaw02.LadderSmall", spec := "ladderSmall", inPlace := ["math/bits.Add64", "math/bits.Sub64"], named := ["sheave/ladder.small", "sheave/curve.prime"], apart := false, laid := [("sheave/curve.prime", laid_sheave_curve_prime), ("sheave/ladder.small", laid_sheave_ladder_small)] }
def LadderSmallSaid : Prop := ladderSmallRow.holds Tryd.pinned (OpenSpec.ofChange ladderSmallSpec)

/-- ITS FALSE NEIGHBOUR: 'it returns false'. Refute it at one input. -/
def ladderSmallWrong : ChangeSpec := { name := "ladderSmall", fn := fun _ => fun
  | [d] => { results := [.lit (.bool false)], args := [d] }
  | _ => none }
def LadderSmallWrongFalsely : Prop := ladderSmallRow.holds Tryd.pinned (OpenSpec.ofChange ladderSmallWrong)

/-- 'sheavelaw02.LadderBits': WHATEVER THE INPUT: true; the input reads as it did. -/
def ladderBitsSpec : ChangeSpec := { name := "ladderBits", fn := fun _ => fun
  | [d1, d2] => { results := [.lit (.bool true)], args := [d1, d2] }
  | _ => none }
def ladderBitsRow : OpenClaim := { program := "ytechbdggjfahhaadoor", sum := "00ee92e2baae96045ece42d98c31357189bf54cf2827972e25f577cdf2ec44eb", func := "sheave/sheavelaw02.LadderBits", spec := "ladderBits", inPlace := ["math/bits.Add64", "math/bits.Sub64"], named := ["sheave/ladder.small", "sheave/curve.prime"], apart := false, laid := [("sheave/curve.prime", laid_sheave_curve_prime), ("sheave/ladder.small", laid_sheave_ladder_small)] }
def LadderBitsSaid : Prop := ladderBitsRow.holds Tryd.pinned (OpenSpec.ofChange ladderBitsSpec)

/-- ITS FALSE NEIGHBOUR: 'it returns false'. Refute it at one input. -/
def ladderBitsWrong : ChangeSpec := { name := "ladderBits", fn := fun _ => fun
  | [d1, d2] => { results := [.lit (.bool false)], args := [d1, d2] }
  | _ => none }
def LadderBitsWrongFalsely : Prop := ladderBitsRow.holds Tryd.pinned (OpenSpec.ofChange ladderBitsWrong)

/-- 'sheavelaw02.LadderPublic': WHATEVER THE INPUT: true; the input reads as it did. -/
def ladderPublicSpec : ChangeSpec := { name := "ladderPublic", fn := fun _ => fun
  | [d] => { results := [.lit (.bool true)], args := [d] }
  | _ => none }
def ladderPublicRow : OpenClaim := { program := "ytechbdggjfahhaadoor", sum := "00ee92e2baae96045ece42d98c31357189bf54cf2827972e25f577cdf2ec44eb", func := "sheave/sheavelaw02.LadderPublic", spec := "ladderPublic", inPlace := ["math/bits.Add64", "math/bits.Sub64"], named := ["sheave/ladder.small", "sheave/curve.prime", "sheave/ladder.begin"], apart := false, laid := [("sheave/curve.prime", laid_sheave_curve_prime), ("sheave/ladder.begin", laid_sheave_ladder_begin), ("sheave/ladder.small", laid_sheave_ladder_small)] }
def LadderPublicSaid : Prop := ladderPublicRow.holds Tryd.pinned (OpenSpec.ofChange ladderPublicSpec)

/-- ITS FALSE NEIGHBOUR: 'it returns false'. Refute it at one input. -/
def ladderPublicWrong : ChangeSpec := { name := "ladderPublic", fn := fun _ => fun
  | [d] => { results := [.lit (.bool false)], args := [d] }
  | _ => none }
def LadderPublicWrongFalsely : Prop := ladderPublicRow.holds Tryd.pinned (OpenSpec.ofChange ladderPublicWrong)

/-- 'sheavelaw02.LadderAgrees': WHATEVER THE INPUT: true; the input reads as it did. -/
def ladderAgreesSpec : ChangeSpec := { name := "ladderAgrees", fn := fun _ => fun
  | [d1, d2] => { results := [.lit (.bool true)], args := [d1, d2] }
  | _ => none }
def ladderAgreesRow : OpenClaim := { program := "ytechbdggjfahhaadoor", sum := "00ee92e2baae96045ece42d98c31357189bf54cf2827972e25f577cdf2ec44eb", func := "sheave/sheavelaw02.LadderAgrees", spec := "ladderAgrees", inPlace := ["math/bits.Add64", "math/bits.Sub64"], named := ["sheave/ladder.small", "sheave/curve.prime", "sheave/ladder.begin"], apart := false, laid := [("sheave/curve.prime", laid_sheave_curve_prime), ("sheave/ladder.begin", laid_sheave_ladder_begin), ("sheave/ladder.small", laid_sheave_ladder_small)] }
def LadderAgreesSaid : Prop := ladderAgreesRow.holds Tryd.pinned (OpenSpec.ofChange ladderAgreesSpec)

/-- ITS FALSE NEIGHBOUR: 'it returns false'. Refute it at one input. -/
def ladderAgreesWrong : ChangeSpec := { name := "ladderAgrees", fn := fun _ => fun
  | [d1, d2] => { results := [.lit (.bool false)], args := [d1, d2] }
  | _ => none }
def LadderAgreesWrongFalsely : Prop := ladderAgreesRow.holds Tryd.pinned (OpenSpec.ofChange ladderAgreesWrong)

/-- 'sheavelaw02.LadderNine': WHATEVER THE INPUT: true; the input reads as it did. -/
def ladderNineSpec : ChangeSpec := { name := "ladderNine", fn := fun _ => fun
  | [d1, d2] => { results := [.lit (.bool true)], args := [d1, d2] }
  | _ => none }
def ladderNineRow : OpenClaim := { program := "ytechbdggjfahhaadoor", sum := "00ee92e2baae96045ece42d98c31357189bf54cf2827972e25f577cdf2ec44eb", func := "sheave/sheavelaw02.LadderNine", spec := "ladderNine", inPlace := ["math/bits.Add64", "math/bits.Sub64"], named := ["sheave/ladder.small", "sheave/curve.prime", "sheave/ladder.begin"], apart := false, laid := [("sheave/curve.prime", laid_sheave_curve_prime), ("sheave/ladder.begin", laid_sheave_ladder_begin), ("sheave/ladder.small", laid_sheave_ladder_small)] }
def LadderNineSaid : Prop := ladderNineRow.holds Tryd.pinned (OpenSpec.ofChange ladderNineSpec)

/-- ITS FALSE NEIGHBOUR: 'it returns false'. Refute it at one input. -/
def ladderNineWrong : ChangeSpec := { name := "ladderNine", fn := fun _ => fun
  | [d1, d2] => { results := [.lit (.bool false)], args := [d1, d2] }
  | _ => none }
def LadderNineWrongFalsely : Prop := ladderNineRow.holds Tryd.pinned (OpenSpec.ofChange ladderNineWrong)

/- THE SECOND FORM. 'bulk': how many values and letters a reading holds, each counted each time it is reached (what is shared counts as often as it is met; a slice's spare places count too). A statement '..UptoSaid' is the law's where the arguments, and the package variables that the reading takes, are together of bulk at most 1048576: NARROWER than '..Said'. Prove '..Said' where nothing that the law and all that it calls make is longer than what came in: it says more and counts as full. Else prove '..UptoSaid'. A law counts once. -/
mutual
def uptoBulk {H : Type} : DataW H → Nat
  | .lit (.string bytes) => bytes.length + 1
  | .lit _ => 1
  | .nil => 1
  | .ptr d => uptoBulk d + 1
  | .slice elems spare => uptoBulkAll elems + uptoBulkAll spare + 1
  | .agg parts => uptoBulkAll parts + 1
  | .iface _ d => uptoBulk d + 1
  | .map entries => uptoBulkEntries entries + 1
  | .held _ => 1
def uptoBulkAll {H : Type} : List (DataW H) → Nat
  | [] => 0
  | d :: r => uptoBulk d + uptoBulkAll r
def uptoBulkEntries {H : Type} : List (Lit × DataW H) → Nat
  | [] => 0
  | x :: r => uptoBulkEntry x + uptoBulkEntries r
def uptoBulkEntry {H : Type} : Lit × DataW H → Nat
  | (.string bytes, d) => bytes.length + uptoBulk d + 1
  | (_, d) => uptoBulk d + 1
 end
def uptoSmall : (H : Type) → List (DataW H) → Bool := fun _ ds => decide (uptoBulkAll ds ≤ 1048576)
def OpenSpec.upto (s : _root_.Go.ChangeSpec) : _root_.Go.OpenSpec := { _root_.Go.OpenSpec.ofChange s with cond := some uptoSmall }

/-- 'sheavelaw02.LadderTrims', WHERE WHAT IT READS IS OF BULK AT MOST 1048576: true; the input reads as it did. -/
def ladderTrimsUptoRow : OpenClaim := { program := "ytechbdggjfahhaadoor", sum := "00ee92e2baae96045ece42d98c31357189bf54cf2827972e25f577cdf2ec44eb", func := "sheave/sheavelaw02.LadderTrims", spec := "ladderTrims", inPlace := ["math/bits.Add64", "math/bits.Sub64"], named := ["sheave/ladder.small", "sheave/curve.prime"], apart := false, laid := [("sheave/curve.prime", laid_sheave_curve_prime), ("sheave/ladder.small", laid_sheave_ladder_small)], narrowed := true }
def LadderTrimsUptoSaid : Prop := ladderTrimsUptoRow.holds Tryd.pinned (OpenSpec.upto ladderTrimsSpec)

/-- 'sheavelaw02.LadderTimes', WHERE WHAT IT READS IS OF BULK AT MOST 1048576: true; the input reads as it did. -/
def ladderTimesUptoRow : OpenClaim := { program := "ytechbdggjfahhaadoor", sum := "00ee92e2baae96045ece42d98c31357189bf54cf2827972e25f577cdf2ec44eb", func := "sheave/sheavelaw02.LadderTimes", spec := "ladderTimes", inPlace := ["math/bits.Add64", "math/bits.Sub64"], named := ["sheave/ladder.small", "sheave/curve.prime"], apart := false, laid := [("sheave/curve.prime", laid_sheave_curve_prime), ("sheave/ladder.small", laid_sheave_ladder_small)], narrowed := true }
def LadderTimesUptoSaid : Prop := ladderTimesUptoRow.holds Tryd.pinned (OpenSpec.upto ladderTimesSpec)

/-- 'sheavelaw02.LadderShares', WHERE WHAT IT READS IS OF BULK AT MOST 1048576: true; the input reads as it did. -/
def ladderSharesUptoRow : OpenClaim := { program := "ytechbdggjfahhaadoor", sum := "00ee92e2baae96045ece42d98c31357189bf54cf2827972e25f577cdf2ec44eb", func := "sheave/sheavelaw02.LadderShares", spec := "ladderShares", inPlace := ["math/bits.Add64", "math/bits.Sub64"], named := ["sheave/ladder.small", "sheave/curve.prime"], apart := false, laid := [("sheave/curve.prime", laid_sheave_curve_prime), ("sheave/ladder.small", laid_sheave_ladder_small)], narrowed := true }
def LadderSharesUptoSaid : Prop := ladderSharesUptoRow.holds Tryd.pinned (OpenSpec.upto ladderSharesSpec)

/-- 'sheavelaw02.LadderSmall', WHERE WHAT IT READS IS OF BULK AT MOST 1048576: true; the input reads as it did. -/
def ladderSmallUptoRow : OpenClaim := { program := "ytechbdggjfahhaadoor", sum := "00ee92e2baae96045ece42d98c31357189bf54cf2827972e25f577cdf2ec44eb", func := "sheave/sheavelaw02.LadderSmall", spec := "ladderSmall", inPlace := ["math/bits.Add64", "math/bits.Sub64"], named := ["sheave/ladder.small", "sheave/curve.prime"], apart := false, laid := [("sheave/curve.prime", laid_sheave_curve_prime), ("sheave/ladder.small", laid_sheave_ladder_small)], narrowed := true }
def LadderSmallUptoSaid : Prop := ladderSmallUptoRow.holds Tryd.pinned (OpenSpec.upto ladderSmallSpec)

/-- 'sheavelaw02.LadderBits', WHERE WHAT IT READS IS OF BULK AT MOST 1048576: true; the input reads as it did. -/
def ladderBitsUptoRow : OpenClaim := { program := "ytechbdggjfahhaadoor", sum := "00ee92e2baae96045ece42d98c31357189bf54cf2827972e25f577cdf2ec44eb", func := "sheave/sheavelaw02.LadderBits", spec := "ladderBits", inPlace := ["math/bits.Add64", "math/bits.Sub64"], named := ["sheave/ladder.small", "sheave/curve.prime"], apart := false, laid := [("sheave/curve.prime", laid_sheave_curve_prime), ("sheave/ladder.small", laid_sheave_ladder_small)], narrowed := true }
def LadderBitsUptoSaid : Prop := ladderBitsUptoRow.holds Tryd.pinned (OpenSpec.upto ladderBitsSpec)

/-- 'sheavelaw02.LadderPublic', WHERE WHAT IT READS IS OF BULK AT MOST 1048576: true; the input reads as it did. -/
def ladderPublicUptoRow : OpenClaim := { program := "ytechbdggjfahhaadoor", sum := "00ee92e2baae96045ece42d98c31357189bf54cf2827972e25f577cdf2ec44eb", func := "sheave/sheavelaw02.LadderPublic", spec := "ladderPublic", inPlace := ["math/bits.Add64", "math/bits.Sub64"], named := ["sheave/ladder.small", "sheave/curve.prime", "sheave/ladder.begin"], apart := false, laid := [("sheave/curve.prime", laid_sheave_curve_prime), ("sheave/ladder.begin", laid_sheave_ladder_begin), ("sheave/ladder.small", laid_sheave_ladder_small)], narrowed := true }
def LadderPublicUptoSaid : Prop := ladderPublicUptoRow.holds Tryd.pinned (OpenSpec.upto ladderPublicSpec)

/-- 'sheavelaw02.LadderAgrees', WHERE WHAT IT READS IS OF BULK AT MOST 1048576: true; the input reads as it did. -/
def ladderAgreesUptoRow : OpenClaim := { program := "ytechbdggjfahhaadoor", sum := "00ee92e2baae96045ece42d98c31357189bf54cf2827972e25f577cdf2ec44eb", func := "sheave/sheavelaw02.LadderAgrees", spec := "ladderAgrees", inPlace := ["math/bits.Add64", "math/bits.Sub64"], named := ["sheave/ladder.small", "sheave/curve.prime", "sheave/ladder.begin"], apart := false, laid := [("sheave/curve.prime", laid_sheave_curve_prime), ("sheave/ladder.begin", laid_sheave_ladder_begin), ("sheave/ladder.small", laid_sheave_ladder_small)], narrowed := true }
def LadderAgreesUptoSaid : Prop := ladderAgreesUptoRow.holds Tryd.pinned (OpenSpec.upto ladderAgreesSpec)

/-- 'sheavelaw02.LadderNine', WHERE WHAT IT READS IS OF BULK AT MOST 1048576: true; the input reads as it did. -/
def ladderNineUptoRow : OpenClaim := { program := "ytechbdggjfahhaadoor", sum := "00ee92e2baae96045ece42d98c31357189bf54cf2827972e25f577cdf2ec44eb", func := "sheave/sheavelaw02.LadderNine", spec := "ladderNine", inPlace := ["math/bits.Add64", "math/bits.Sub64"], named := ["sheave/ladder.small", "sheave/curve.prime", "sheave/ladder.begin"], apart := false, laid := [("sheave/curve.prime", laid_sheave_curve_prime), ("sheave/ladder.begin", laid_sheave_ladder_begin), ("sheave/ladder.small", laid_sheave_ladder_small)], narrowed := true }
def LadderNineUptoSaid : Prop := ladderNineUptoRow.holds Tryd.pinned (OpenSpec.upto ladderNineSpec)

end Rows
end Go.Proofs.YtechbdggjfahhaaDoor
