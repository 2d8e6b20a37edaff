/-
  The program of this place as the shadow takes it: its three globals (the ladder's small number; its base point, of which nothing is known here; the curve's prime), bits.Add64, bits.Sub64.
-/
import Derived.Test.YtechbdggjfahhaaDoorSxFn
import Derived.Test.YtechbdggjfahhaaDoorRows
namespace Go.Proofs.YtechbdggjfahhaaDoor.Sx
open Go

abbrev gl : List Blk := [⟨.u8, 0, 65 :: 219 :: 1 :: List.replicate 29 0, false⟩, ⟨.u8, 0, [], false⟩, ⟨.u64, 0, [18446744073709551597, 18446744073709551615, 18446744073709551615, 9223372036854775807], false⟩]

theorem base : Base Tryd.prog gl 45 47 := by
  refine ⟨fun g b h => ?_, by kernel_rfl, fun args w => ?_, fun args w => ?_⟩
  · match g, h with
    | 0, h => simp only [List.getElem?_cons_zero, Option.some.injEq] at h; rw [← h]
    | 1, h => simp only [List.getElem?_cons_zero, List.getElem?_cons_succ, Option.some.injEq] at h; rw [← h]
    | 2, h => simp only [List.getElem?_cons_zero, List.getElem?_cons_succ, Option.some.injEq] at h; rw [← h]
    | g + 3, h => simp at h
  · exact run_callFunc_extern Tryd.func45 (by kernel_rfl) (by kernel_rfl) (by kernel_rfl) (by kernel_rfl) args w
  · exact run_callFunc_extern Tryd.func47 (by kernel_rfl) (by kernel_rfl) (by kernel_rfl) (by kernel_rfl) args w

end Go.Proofs.YtechbdggjfahhaaDoor.Sx
