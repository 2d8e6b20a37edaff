/-
  The second message sent and taken.
-/
import Derived.Test.YtiojkpgcmhlhnaaGreatDoorTkO
namespace Go.Proofs.YtiojkpgcmhlhnaaGreatDoor.Ty
open Go
set_option maxRecDepth 100000
set_option linter.unusedSimpArgs false
set_option linter.unusedVariables false
section
theorem ev5 (p : Int) : Goes (callRun tc ((env kOp).fn 20) Tryz.f11 100000 [wp, evt 4 1 0 9 0 nl] (M_C04 p)) [] [] ⟨V_E05 p, M_E05 p⟩ := by
 unfold Goes
 kernel_rfl
theorem ev6 (p : Int) : Goes (callRun tc ((env kOp).fn 20) Tryz.f11 100000 [wp, evt 5 0 0 0 0 nl] (M_C05 p)) [] ps6 ⟨V_E06 p, M_E06 p⟩ := by
 unfold Goes
 kernel_rfl
end
end Go.Proofs.YtiojkpgcmhlhnaaGreatDoor.Ty
