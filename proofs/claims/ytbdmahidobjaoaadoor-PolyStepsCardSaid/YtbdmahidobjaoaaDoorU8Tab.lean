/-
  Two bytes: when their or, their xor is 0: looked up, all of them (about two minutes).
-/
import Derived.Test.YtbdmahidobjaoaaDoorSxBase
namespace Go.Proofs.YtbdmahidobjaoaaDoor.Sx
open Go
set_option maxRecDepth 100000

theorem xor_nat : ∀ i : Fin 256, ∀ j : Fin 256, (bits .xor .u8 (i.val : Int) (j.val : Int) == 0) = (Nat.beq i.val j.val) := by decide +kernel

theorem or_nat : ∀ i : Fin 256, ∀ j : Fin 256, (bits .or .u8 (i.val : Int) (j.val : Int) == 0) = (Nat.beq i.val 0 && Nat.beq j.val 0) := by decide +kernel

end Go.Proofs.YtbdmahidobjaoaaDoor.Sx
