/-
  The first message taken.
-/
import Derived.Test.YtiojkpgcmhlhnaaGreatDoorTkO
namespace Go.Proofs.YtiojkpgcmhlhnaaGreatDoor.Ty
open Go
set_option maxRecDepth 100000
set_option linter.unusedSimpArgs false
set_option linter.unusedVariables false
section
theorem ev4 (p : Int) : Goes (callRun tc ((env kOp).fn 20) Tryz.f11 100000 [wp, evt 5 0 0 0 0 nl] (M_C03 p)) [] ps4 ⟨V_E04 p, M_E04 p⟩ := by
 unfold Goes
 kernel_rfl
end
end Go.Proofs.YtiojkpgcmhlhnaaGreatDoor.Ty
