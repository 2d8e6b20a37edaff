/-
  The program of this place as the shadow takes it: its one global, bits.Add64, bits.Sub64.
-/
import Derived.Test.YtbdmahidobjaoaaDoorSxFn
import Derived.Test.YtbdmahidobjaoaaDoorRows
namespace Go.Proofs.YtbdmahidobjaoaaDoor.Sx
open Go

abbrev gl : List Blk := [⟨.u64, 0, [18446744073709551611, 18446744073709551615, 3], false⟩]

theorem base : Base Tryd.prog gl 45 46 := by
  refine ⟨fun g b h => ?_, by kernel_rfl, fun args w => ?_, fun args w => ?_⟩
  · match g, h with
    | 0, h => simp only [List.getElem?_cons_zero, Option.some.injEq] at h; rw [← h]
    | g + 1, h => simp at h
  · exact run_callFunc_extern Tryd.func45 (by kernel_rfl) (by kernel_rfl) (by kernel_rfl) (by kernel_rfl) args w
  · exact run_callFunc_extern Tryd.func46 (by kernel_rfl) (by kernel_rfl) (by kernel_rfl) (by kernel_rfl) args w

end Go.Proofs.YtbdmahidobjaoaaDoor.Sx
