/-
  The contract of the document's Pick.
-/
import Derived.Test.YtiamcoggiagpbaaDoorCurveEq
namespace Go.Proofs.YtiamcoggiagpbaaDoor.Sx
open Go
set_option maxRecDepth 100000

theorem rpick_run0 (x : Int) (l m : List Int) : plainRun (mkh (hintAt 9 true) []) Tryd.f18 100 [.int .u8 x, .agg .u8 (tab 32 l), .agg .u8 (tab 32 m)] = some (.agg .u8 (tab 32 l), [(x.tmod 2 == 0) = true]) := by kernel_rfl
theorem rpick_run1 (x : Int) (l m : List Int) : plainRun (mkh (hintAt 9 false) []) Tryd.f18 100 [.int .u8 x, .agg .u8 (tab 32 l), .agg .u8 (tab 32 m)] = some (.agg .u8 (tab 32 m), [(x.tmod 2 == 0) = false]) := by kernel_rfl

theorem rpick_ok : FnOk Tryd.prog gl 18 fPick := by
  refine fnOk_plainH Tryd.func18 (by kernel_rfl) rfl (fun args mem r hr _ => ?_)
  unfold fPick at hr
  split at hr
  · rename_i x k l k' m
    split at hr
    · rename_i hc
      simp only [Bool.and_eq_true] at hc
      have e0 := of_decide_eq_true hc.1.1.1
      have e1 := of_decide_eq_true hc.1.1.2
      have hl := Nat.eq_of_beq_eq_true hc.1.2
      have hm := Nat.eq_of_beq_eq_true hc.2
      subst e0 e1
      simp only [Option.some.injEq] at hr
      subst hr
      refine ⟨rfl, rfl, rfl, beq_le (by kernel_rfl), fun hw => ?_⟩
      have hx := wf_u8.1 (hw (.int .u8 x) (by simp))
      have bl : ∀ x ∈ l, 0 ≤ x ∧ x < 256 := fun y hy => wf_u8.1 (hw (.agg .u8 l) (by simp) y hy)
      have bm : ∀ x ∈ m, 0 ≤ x ∧ x < 256 := fun y hy => wf_u8.1 (hw (.agg .u8 m) (by simp) y hy)
      have et : x.tmod 2 = x % 2 := Int.tmod_eq_emod_of_nonneg hx.1
      by_cases h2 : x % 2 = 0
      · have run := rpick_run0 x l m
        rw [tab_eq 32 l hl, tab_eq 32 m hm] at run
        exact ⟨hintAt 9 true, [], 100, _, by simp, by rw [run, cP_0 h2 hl bl], Holds.one (by rw [et]; exact beq_iff_eq.2 h2)⟩
      · have run := rpick_run1 x l m
        rw [tab_eq 32 l hl, tab_eq 32 m hm] at run
        exact ⟨hintAt 9 false, [], 100, _, by simp, by rw [run, cP_1 h2 hm bm], Holds.one (by rw [et]; exact beq_eq_false_iff_ne.2 h2)⟩
    · cases hr
  · cases hr

end Go.Proofs.YtiamcoggiagpbaaDoor.Sx
