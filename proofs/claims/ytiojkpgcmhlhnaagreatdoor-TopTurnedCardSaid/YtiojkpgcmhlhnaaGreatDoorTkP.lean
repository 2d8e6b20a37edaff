/-
  New and the first Poll.
-/
import Derived.Test.YtiojkpgcmhlhnaaGreatDoorTkO
namespace Go.Proofs.YtiojkpgcmhlhnaaGreatDoor.Ty
open Go
set_option maxRecDepth 100000
set_option linter.unusedSimpArgs false
set_option linter.unusedVariables false
section
theorem ev2 (p : Int) : Goes (callRun tc ((env kOp).fn 20) Tryz.f8 100000 [V_E00 p, V_E01 p] []) [] [] ⟨V_E02 p, M_E02 p⟩ := by
 unfold Goes
 kernel_rfl
theorem ev3 (p : Int) : Goes (callRun tc ((env kOp).fn 20) Tryz.f11 100000 [wp, evt 4 0 0 9 0 nl] (M_E02 p)) [] [] ⟨V_E03 p, M_E03 p⟩ := by
 unfold Goes
 kernel_rfl
end
end Go.Proofs.YtiojkpgcmhlhnaaGreatDoor.Ty
