/-
  TopTurned's body: none to three records.
-/
import Derived.Test.YtiojkpgcmhlhnaaGreatDoorTkK
namespace Go.Proofs.YtiojkpgcmhlhnaaGreatDoor.Ty
open Go
set_option maxRecDepth 100000
set_option linter.unusedSimpArgs false
set_option linter.unusedVariables false
section
theorem tt00 (p : Int) (S U xs os : List Int) : Goes (callRun tc ((env (kB p S U [sWr p S U xs, sPo p S U xs 0 [], sR0 p S U xs])).fn 20) Tryz.f6 1000 [.int false .i64 p, .fzi false .u8 xs, .fzi false .i64 os] []) [.f, .t]
  [decide ((xs.length : Int) > 512) = false, decide ([] = xs) = true] ⟨.bool true true, []⟩ := by
 unfold Goes
 kernel_rfl
theorem tt10 (p : Int) (S U xs os : List Int) (nx1 : Int) (ws1 : List Int) (l0 : List Way) : Goes (callRun tc ((env (kB p S U [sWr p S U xs, sPo p S U xs 1 l0, sRd p S U xs 1 ws1 nx1, sWr p S U xs, sD1 p S U xs 1 0 nx1 ws1 (xs) [⟨0, (xs).length⟩] l0 [⟨0, []⟩]])).fn 20) Tryz.f6 1000 [.int false .i64 p, .fzi false .u8 xs, .fzi false .i64 os] []) [.f, .t, .f, .t]
  [decide ((xs.length : Int) > 512) = false, (l0[(0 : Nat)]?).isSome = true, decide ((0 : Int) < (os.length : Int)) = false, decide (xs = xs) = true] ⟨.bool true true, []⟩ := by
 unfold Goes
 kernel_rfl
theorem tt11 (p : Int) (S U xs os : List Int) (nx1 : Int) (ws1 : List Int) (l0 : List Way) : Goes (callRun tc ((env (kB p S U [sWr p S U xs, sPo p S U xs 1 l0, sRd p S U xs 1 ws1 nx1, sWr p S U xs, sD1 p S U xs 1 (os[0]?.getD 0) nx1 ws1 (xs) [⟨0, (xs).length⟩] l0 [⟨0, []⟩]])).fn 20) Tryz.f6 1000 [.int false .i64 p, .fzi false .u8 xs, .fzi false .i64 os] []) [.f, .t, .t, .t]
  [decide ((xs.length : Int) > 512) = false, (l0[(0 : Nat)]?).isSome = true, decide ((0 : Int) < (os.length : Int)) = true, (0 : Int) ≤ 0 ∧ (0 : Int) < (os.length : Int), decide (xs = xs) = true] ⟨.bool true true, []⟩ := by
 unfold Goes
 kernel_rfl
theorem tt20 (p : Int) (S U xs os : List Int) (nx1 nx2 : Int) (ws1 ws2 bs1 : List Int) (rs1 : List Rng) (l0 l1 : List Way) : Goes (callRun tc ((env (kB p S U [sWr p S U xs, sPo p S U xs 2 l0, sRd p S U xs 2 ws2 nx2, sD1 p S U xs 2 0 nx1 ws1 bs1 rs1 l0 l1, sDn p S U xs 2 1 0 nx1 nx2 ws1 ws2 bs1 (xs) rs1 [⟨0, (xs).length⟩] l1 [⟨0, []⟩]])).fn 20) Tryz.f6 1000 [.int false .i64 p, .fzi false .u8 xs, .fzi false .i64 os] []) [.f, .t, .t, .f, .t, .f, .t]
  [decide ((xs.length : Int) > 512) = false, (l0[(0 : Nat)]?).isSome = true, (l0[(1 : Nat)]?).isSome = true, decide ((0 : Int) < (os.length : Int)) = false, (l1[(0 : Nat)]?).isSome = true, decide ((1 : Int) < (os.length : Int)) = false, decide (xs = xs) = true] ⟨.bool true true, []⟩ := by
 unfold Goes
 kernel_rfl
theorem tt21 (p : Int) (S U xs os : List Int) (nx1 nx2 : Int) (ws1 ws2 bs1 : List Int) (rs1 : List Rng) (l0 l1 : List Way) : Goes (callRun tc ((env (kB p S U [sWr p S U xs, sPo p S U xs 2 l0, sRd p S U xs 2 ws2 nx2, sD1 p S U xs 2 (os[0]?.getD 0) nx1 ws1 bs1 rs1 l0 l1, sDn p S U xs 2 1 0 nx1 nx2 ws1 ws2 bs1 (xs) rs1 [⟨0, (xs).length⟩] l1 [⟨0, []⟩]])).fn 20) Tryz.f6 1000 [.int false .i64 p, .fzi false .u8 xs, .fzi false .i64 os] []) [.f, .t, .t, .t, .t, .f, .t]
  [decide ((xs.length : Int) > 512) = false, (l0[(0 : Nat)]?).isSome = true, (l0[(1 : Nat)]?).isSome = true, decide ((0 : Int) < (os.length : Int)) = true, (0 : Int) ≤ 0 ∧ (0 : Int) < (os.length : Int), (l1[(0 : Nat)]?).isSome = true, decide ((1 : Int) < (os.length : Int)) = false, decide (xs = xs) = true] ⟨.bool true true, []⟩ := by
 unfold Goes
 kernel_rfl
theorem tt22 (p : Int) (S U xs os : List Int) (nx1 nx2 : Int) (ws1 ws2 bs1 : List Int) (rs1 : List Rng) (l0 l1 : List Way) : Goes (callRun tc ((env (kB p S U [sWr p S U xs, sPo p S U xs 2 l0, sRd p S U xs 2 ws2 nx2, sD1 p S U xs 2 (os[0]?.getD 0) nx1 ws1 bs1 rs1 l0 l1, sDn p S U xs 2 1 (os[1]?.getD 0) nx1 nx2 ws1 ws2 bs1 (xs) rs1 [⟨0, (xs).length⟩] l1 [⟨0, []⟩]])).fn 20) Tryz.f6 1000 [.int false .i64 p, .fzi false .u8 xs, .fzi false .i64 os] []) [.f, .t, .t, .t, .t, .t, .t]
  [decide ((xs.length : Int) > 512) = false, (l0[(0 : Nat)]?).isSome = true, (l0[(1 : Nat)]?).isSome = true, decide ((0 : Int) < (os.length : Int)) = true, (0 : Int) ≤ 0 ∧ (0 : Int) < (os.length : Int), (l1[(0 : Nat)]?).isSome = true, decide ((1 : Int) < (os.length : Int)) = true, (0 : Int) ≤ 1 ∧ (1 : Int) < (os.length : Int), decide (xs = xs) = true] ⟨.bool true true, []⟩ := by
 unfold Goes
 kernel_rfl
theorem tt30 (p : Int) (S U xs os : List Int) (nx1 nx2 nx3 : Int) (ws1 ws2 ws3 bs1 bs2 : List Int) (rs1 rs2 : List Rng) (l0 l1 l2 : List Way) : Goes (callRun tc ((env (kB p S U [sWr p S U xs, sPo p S U xs 3 l0, sRd p S U xs 3 ws3 nx3, sD1 p S U xs 3 0 nx1 ws1 bs1 rs1 l0 l1, sDn p S U xs 3 1 0 nx2 nx3 ws2 ws3 bs2 (xs) rs2 [⟨0, (xs).length⟩] l2 [⟨0, []⟩], sDn p S U xs 3 2 0 nx1 nx2 ws1 ws2 bs1 bs2 rs1 rs2 l1 l2])).fn 20) Tryz.f6 1000 [.int false .i64 p, .fzi false .u8 xs, .fzi false .i64 os] []) [.f, .t, .t, .t, .f, .t, .t, .f, .t, .f, .t]
  [decide ((xs.length : Int) > 512) = false, (l0[(0 : Nat)]?).isSome = true, (l0[(1 : Nat)]?).isSome = true, (l0[(2 : Nat)]?).isSome = true, decide ((0 : Int) < (os.length : Int)) = false, (l1[(0 : Nat)]?).isSome = true, (l1[(1 : Nat)]?).isSome = true, decide ((1 : Int) < (os.length : Int)) = false, (l2[(0 : Nat)]?).isSome = true, decide ((2 : Int) < (os.length : Int)) = false, decide (xs = xs) = true] ⟨.bool true true, []⟩ := by
 unfold Goes
 kernel_rfl
theorem tt31 (p : Int) (S U xs os : List Int) (nx1 nx2 nx3 : Int) (ws1 ws2 ws3 bs1 bs2 : List Int) (rs1 rs2 : List Rng) (l0 l1 l2 : List Way) : Goes (callRun tc ((env (kB p S U [sWr p S U xs, sPo p S U xs 3 l0, sRd p S U xs 3 ws3 nx3, sD1 p S U xs 3 (os[0]?.getD 0) nx1 ws1 bs1 rs1 l0 l1, sDn p S U xs 3 1 0 nx2 nx3 ws2 ws3 bs2 (xs) rs2 [⟨0, (xs).length⟩] l2 [⟨0, []⟩], sDn p S U xs 3 2 0 nx1 nx2 ws1 ws2 bs1 bs2 rs1 rs2 l1 l2])).fn 20) Tryz.f6 1000 [.int false .i64 p, .fzi false .u8 xs, .fzi false .i64 os] []) [.f, .t, .t, .t, .t, .t, .t, .f, .t, .f, .t]
  [decide ((xs.length : Int) > 512) = false, (l0[(0 : Nat)]?).isSome = true, (l0[(1 : Nat)]?).isSome = true, (l0[(2 : Nat)]?).isSome = true, decide ((0 : Int) < (os.length : Int)) = true, (0 : Int) ≤ 0 ∧ (0 : Int) < (os.length : Int), (l1[(0 : Nat)]?).isSome = true, (l1[(1 : Nat)]?).isSome = true, decide ((1 : Int) < (os.length : Int)) = false, (l2[(0 : Nat)]?).isSome = true, decide ((2 : Int) < (os.length : Int)) = false, decide (xs = xs) = true] ⟨.bool true true, []⟩ := by
 unfold Goes
 kernel_rfl
theorem tt32 (p : Int) (S U xs os : List Int) (nx1 nx2 nx3 : Int) (ws1 ws2 ws3 bs1 bs2 : List Int) (rs1 rs2 : List Rng) (l0 l1 l2 : List Way) : Goes (callRun tc ((env (kB p S U [sWr p S U xs, sPo p S U xs 3 l0, sRd p S U xs 3 ws3 nx3, sD1 p S U xs 3 (os[0]?.getD 0) nx1 ws1 bs1 rs1 l0 l1, sDn p S U xs 3 1 0 nx2 nx3 ws2 ws3 bs2 (xs) rs2 [⟨0, (xs).length⟩] l2 [⟨0, []⟩], sDn p S U xs 3 2 (os[1]?.getD 0) nx1 nx2 ws1 ws2 bs1 bs2 rs1 rs2 l1 l2])).fn 20) Tryz.f6 1000 [.int false .i64 p, .fzi false .u8 xs, .fzi false .i64 os] []) [.f, .t, .t, .t, .t, .t, .t, .t, .t, .f, .t]
  [decide ((xs.length : Int) > 512) = false, (l0[(0 : Nat)]?).isSome = true, (l0[(1 : Nat)]?).isSome = true, (l0[(2 : Nat)]?).isSome = true, decide ((0 : Int) < (os.length : Int)) = true, (0 : Int) ≤ 0 ∧ (0 : Int) < (os.length : Int), (l1[(0 : Nat)]?).isSome = true, (l1[(1 : Nat)]?).isSome = true, decide ((1 : Int) < (os.length : Int)) = true, (0 : Int) ≤ 1 ∧ (1 : Int) < (os.length : Int), (l2[(0 : Nat)]?).isSome = true, decide ((2 : Int) < (os.length : Int)) = false, decide (xs = xs) = true] ⟨.bool true true, []⟩ := by
 unfold Goes
 kernel_rfl
theorem tt33 (p : Int) (S U xs os : List Int) (nx1 nx2 nx3 : Int) (ws1 ws2 ws3 bs1 bs2 : List Int) (rs1 rs2 : List Rng) (l0 l1 l2 : List Way) : Goes (callRun tc ((env (kB p S U [sWr p S U xs, sPo p S U xs 3 l0, sRd p S U xs 3 ws3 nx3, sD1 p S U xs 3 (os[0]?.getD 0) nx1 ws1 bs1 rs1 l0 l1, sDn p S U xs 3 1 (os[2]?.getD 0) nx2 nx3 ws2 ws3 bs2 (xs) rs2 [⟨0, (xs).length⟩] l2 [⟨0, []⟩], sDn p S U xs 3 2 (os[1]?.getD 0) nx1 nx2 ws1 ws2 bs1 bs2 rs1 rs2 l1 l2])).fn 20) Tryz.f6 1000 [.int false .i64 p, .fzi false .u8 xs, .fzi false .i64 os] []) [.f, .t, .t, .t, .t, .t, .t, .t, .t, .t, .t]
  [decide ((xs.length : Int) > 512) = false, (l0[(0 : Nat)]?).isSome = true, (l0[(1 : Nat)]?).isSome = true, (l0[(2 : Nat)]?).isSome = true, decide ((0 : Int) < (os.length : Int)) = true, (0 : Int) ≤ 0 ∧ (0 : Int) < (os.length : Int), (l1[(0 : Nat)]?).isSome = true, (l1[(1 : Nat)]?).isSome = true, decide ((1 : Int) < (os.length : Int)) = true, (0 : Int) ≤ 1 ∧ (1 : Int) < (os.length : Int), (l2[(0 : Nat)]?).isSome = true, decide ((2 : Int) < (os.length : Int)) = true, (0 : Int) ≤ 2 ∧ (2 : Int) < (os.length : Int), decide (xs = xs) = true] ⟨.bool true true, []⟩ := by
 unfold Goes
 kernel_rfl
end
end Go.Proofs.YtiojkpgcmhlhnaaGreatDoor.Ty
