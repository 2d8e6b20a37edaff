/-
  DERIVED. GIVEN WITH THE SEED: THE PROGRAM's TIES (one call each: nine closed facts by the kernel) AND EACH ROW's TIE, after the 31st guide's Derived/Test/Toyas{Tie, Card}.lean. No idea stands in it: it is a product of the set-up. Laid BY PROGRAM, IN A SANDBOX (cutbox-door.mjs). By AI agents, Wed Nov 11 2026. No macro, syntax, notation, axiom, sorry.
-/
import Derived.Test.YtechbdggjfahhaaDoorRows
import Derived.LaidByTextLater
import Derived.SevenTiedAt
import Derived.LaidSub
import Derived.LaidOnce
namespace Go.Proofs.YtechbdggjfahhaaDoor
open Go
set_option maxRecDepth 100000
theorem seatTie1 : Tryd.prog.laidByTextLater [("sheave/curve.prime", Rows.laid_sheave_curve_prime), ("sheave/ladder.begin", Rows.laid_sheave_ladder_begin), ("sheave/ladder.small", Rows.laid_sheave_ladder_small)] [.data, .data, .data] true :=
  Program.laidByTextLater_by_one 24 8 33 (by kernel_rfl) (by kernel_rfl) (by kernel_rfl) (by kernel_rfl) (by kernel_rfl) (by kernel_rfl) (fun _ _ => by kernel_rfl)
theorem noOwnUnsafe : Tryd.pinned.checked.prog.headLifts.contains "ownunsafe" = false := by kernel_rfl
theorem tie : Tryd.prog.laidByTextLater [("sheave/curve.prime", Rows.laid_sheave_curve_prime), ("sheave/ladder.small", Rows.laid_sheave_ladder_small)] [.data, .data] true :=
  Program.laidByTextLater.sub seatTie1 ["sheave/curve.prime", "sheave/ladder.small"] (by kernel_rfl) (by kernel_rfl)
theorem ladderTrims_row_tie : Rows.ladderTrimsRow.laidByTextAt .later Tryd.pinned [.data, .data] true :=
  OpenClaim.laidByTextAt_later rfl rfl tie noOwnUnsafe
theorem ladderTimes_row_tie : Rows.ladderTimesRow.laidByTextAt .later Tryd.pinned [.data, .data] true :=
  OpenClaim.laidByTextAt_later rfl rfl tie noOwnUnsafe
theorem ladderShares_row_tie : Rows.ladderSharesRow.laidByTextAt .later Tryd.pinned [.data, .data] true :=
  OpenClaim.laidByTextAt_later rfl rfl tie noOwnUnsafe
theorem ladderSmall_row_tie : Rows.ladderSmallRow.laidByTextAt .later Tryd.pinned [.data, .data] true :=
  OpenClaim.laidByTextAt_later rfl rfl tie noOwnUnsafe
theorem ladderBits_row_tie : Rows.ladderBitsRow.laidByTextAt .later Tryd.pinned [.data, .data] true :=
  OpenClaim.laidByTextAt_later rfl rfl tie noOwnUnsafe
theorem tie2 : Tryd.prog.laidByTextLater [("sheave/curve.prime", Rows.laid_sheave_curve_prime), ("sheave/ladder.begin", Rows.laid_sheave_ladder_begin), ("sheave/ladder.small", Rows.laid_sheave_ladder_small)] [.data, .data, .data] true :=
  Program.laidByTextLater.sub seatTie1 ["sheave/curve.prime", "sheave/ladder.begin", "sheave/ladder.small"] (by kernel_rfl) (by kernel_rfl)
theorem ladderPublic_row_tie : Rows.ladderPublicRow.laidByTextAt .later Tryd.pinned [.data, .data, .data] true :=
  OpenClaim.laidByTextAt_later rfl rfl tie2 noOwnUnsafe
theorem ladderAgrees_row_tie : Rows.ladderAgreesRow.laidByTextAt .later Tryd.pinned [.data, .data, .data] true :=
  OpenClaim.laidByTextAt_later rfl rfl tie2 noOwnUnsafe
theorem ladderNine_row_tie : Rows.ladderNineRow.laidByTextAt .later Tryd.pinned [.data, .data, .data] true :=
  OpenClaim.laidByTextAt_later rfl rfl tie2 noOwnUnsafe
theorem ladderTrimsUpto_row_tie : Rows.ladderTrimsUptoRow.laidByTextAt .later Tryd.pinned [.data, .data] true :=
  OpenClaim.laidByTextAt_later rfl rfl tie noOwnUnsafe
theorem ladderTimesUpto_row_tie : Rows.ladderTimesUptoRow.laidByTextAt .later Tryd.pinned [.data, .data] true :=
  OpenClaim.laidByTextAt_later rfl rfl tie noOwnUnsafe
theorem ladderSharesUpto_row_tie : Rows.ladderSharesUptoRow.laidByTextAt .later Tryd.pinned [.data, .data] true :=
  OpenClaim.laidByTextAt_later rfl rfl tie noOwnUnsafe
theorem ladderSmallUpto_row_tie : Rows.ladderSmallUptoRow.laidByTextAt .later Tryd.pinned [.data, .data] true :=
  OpenClaim.laidByTextAt_later rfl rfl tie noOwnUnsafe
theorem ladderBitsUpto_row_tie : Rows.ladderBitsUptoRow.laidByTextAt .later Tryd.pinned [.data, .data] true :=
  OpenClaim.laidByTextAt_later rfl rfl tie noOwnUnsafe
theorem ladderPublicUpto_row_tie : Rows.ladderPublicUptoRow.laidByTextAt .later Tryd.pinned [.data, .data, .data] true :=
  OpenClaim.laidByTextAt_later rfl rfl tie2 noOwnUnsafe
theorem ladderAgreesUpto_row_tie : Rows.ladderAgreesUptoRow.laidByTextAt .later Tryd.pinned [.data, .data, .data] true :=
  OpenClaim.laidByTextAt_later rfl rfl tie2 noOwnUnsafe
theorem ladderNineUpto_row_tie : Rows.ladderNineUptoRow.laidByTextAt .later Tryd.pinned [.data, .data, .data] true :=
  OpenClaim.laidByTextAt_later rfl rfl tie2 noOwnUnsafe
end Go.Proofs.YtechbdggjfahhaaDoor
