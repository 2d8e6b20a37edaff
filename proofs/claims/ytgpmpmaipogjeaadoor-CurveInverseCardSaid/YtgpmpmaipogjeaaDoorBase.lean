/-
  The program of this place as the shadow takes it: its one global (the curve's prime), bits.Add64, bits.Sub64.
-/
import Derived.Test.YtgpmpmaipogjeaaDoorSxFn
import Derived.Test.YtgpmpmaipogjeaaDoorRows
namespace Go.Proofs.YtgpmpmaipogjeaaDoor.Sx
open Go

abbrev gl : List Blk := [⟨.u64, 0, [18446744073709551597, 18446744073709551615, 18446744073709551615, 9223372036854775807], false⟩]

theorem base : Base Tryd.prog gl 34 36 := by
  refine ⟨fun g b h => ?_, by kernel_rfl, fun args w => ?_, fun args w => ?_⟩
  · match g, h with
    | 0, h => simp only [List.getElem?_cons_zero, Option.some.injEq] at h; rw [← h]
    | g + 1, h => simp at h
  · exact run_callFunc_extern Tryd.func34 (by kernel_rfl) (by kernel_rfl) (by kernel_rfl) (by kernel_rfl) args w
  · exact run_callFunc_extern Tryd.func36 (by kernel_rfl) (by kernel_rfl) (by kernel_rfl) (by kernel_rfl) args w

end Go.Proofs.YtgpmpmaipogjeaaDoor.Sx
