/-
  The law Small: the points that have no more than a few sums.
-/
import Derived.Test.YtechbdggjfahhaaDoorLadderLaws
namespace Go.Proofs.YtechbdggjfahhaaDoor.Sx
open Go
set_option maxRecDepth 100000

def hintS (t : Tmp) : Option Bool :=
  match t with
  | 22 => some false
  | 34 => some false
  | 36 => some true
  | 43 => some true
  | 51 => some false
  | _ => none

/-- The numbers 2^255 - 20 + i. -/
def lastP (x : Int) : List Int := x :: (List.replicate 30 255 ++ [127])

/-- What the law's appends take for granted. -/
def roomP (m : Nat) : Prop := 0 + 1 * 32 ≤ 32 ∧ 1 ≤ 1 ∧ m * 32 = m * 32 ∧ (m + 1) * 32 ≤ 140737488355328 ∧ m + 1 < 9223372036854775808

theorem ladderSmall_run (k : List Int) : plainRun (mkh hintS lawF) Tryd.f6 600 [.agg .u8 (tab 32 k)] =
    some (.bool true, [roomP 2, roomP 3, roomP 4, (errV (tV (tab 32 k) zeroL) != 20) = false, (errV (tV (tab 32 k) oneL) != 20) = false, (errV (tV (tab 32 k) (lastP 236)) != 20) = false, (errV (tV (tab 32 k) (lastP 237)) != 20) = false, (errV (tV (tab 32 k) (lastP 238)) != 20) = false]) := by kernel_rfl

theorem roomP_ok (m : Nat) (h : m ≤ 4) : roomP m := by unfold roomP; omega

theorem tkN_8 (n : Int) : tkN n % 8 = 0 := by unfold tkN; omega

theorem errV_0 {v : Int} (h : v = 0) : (errV v != 20) = false := by
  unfold errV
  rw [if_pos h]
  rfl

theorem ladderSmall_ok : FnOk Tryd.prog gl 6 (FT [32]) := by
  refine fnOk_FT (C := mkh hintS lawF) (mkh_ok lawF_ok) Tryd.func6 (by kernel_rfl) rfl (by kernel_rfl) (fun ls h _ => ?_)
  obtain ⟨l, rfl, hl⟩ := map1 h
  have run := ladderSmall_run l
  rw [tab_eq 32 l hl] at run
  refine ⟨600, _, run, fun p hp => ?_⟩
  simp only [List.mem_cons, List.not_mem_nil, or_false] at hp
  have e0 : lt255 (num zeroL) = 0 := by decide +kernel
  have e1 : lt255 (num oneL) = 1 := by decide +kernel
  have e2 : lt255 (num (lastP 236)) = p25 - 1 := by decide +kernel
  have e3 : lt255 (num (lastP 237)) = p25 := by decide +kernel
  have e4 : lt255 (num (lastP 238)) = p25 + 1 := by decide +kernel
  rcases hp with rfl | rfl | rfl | rfl | rfl | rfl | rfl | rfl
  · exact roomP_ok 2 (by decide)
  · exact roomP_ok 3 (by decide)
  · exact roomP_ok 4 (by decide)
  · refine errV_0 ?_
    unfold tV
    rw [e0]
    exact lad_null _ _ D_0
  · refine errV_0 ?_
    unfold tV
    rw [e1]
    exact lad_small (e := 1) _ _ (by decide) (by decide +kernel) (tkN_8 _)
  · refine errV_0 ?_
    unfold tV
    rw [e2]
    exact lad_small (e := -1) _ _ (by decide) (by decide +kernel) (tkN_8 _)
  · refine errV_0 ?_
    unfold tV
    rw [e3]
    exact lad_null _ _ (by decide +kernel)
  · refine errV_0 ?_
    unfold tV
    rw [e4]
    exact lad_small (e := 1) _ _ (by decide) (by decide +kernel) (tkN_8 _)

end Go.Proofs.YtechbdggjfahhaaDoor.Sx
