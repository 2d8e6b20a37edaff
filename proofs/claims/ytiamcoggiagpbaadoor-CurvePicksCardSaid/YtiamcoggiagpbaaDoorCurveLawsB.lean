/-
  The laws of the chapter, the second half: what each answers.
-/
import Derived.Test.YtiamcoggiagpbaaDoorCurveLaw
import Derived.Test.YtiamcoggiagpbaaDoorCurveRefDC
import Derived.Test.YtiamcoggiagpbaaDoorCurvePick
namespace Go.Proofs.YtiamcoggiagpbaaDoor.Sx
open Go
set_option maxRecDepth 100000

noncomputable abbrev lawF : List (FuncId × (List A → List Blk → Option Res)) := [(19, fCanon), (18, fPick), (17, fPick), (20, fEqual)] ++ lawF0

theorem lawF_ok : ∀ p ∈ lawF, FnOk Tryd.prog gl p.1 p.2 := by
  intro p hp
  rcases List.mem_append.1 hp with hp | hp
  · simp only [List.mem_cons, List.not_mem_nil, or_false] at hp
    rcases hp with rfl | rfl | rfl | rfl
    · exact rcanon_ok
    · exact rpick_ok
    · exact pick_ok
    · exact equal_ok
  · exact lawF0_ok p hp

def zeros32 : List Int := List.replicate 32 0
def one32 : List Int := 1 :: List.replicate 31 0
theorem num_zeros32 : num zeros32 = 0 := by decide
theorem num_one32 : num one32 = 1 := by decide

theorem curveSpreads_run (l m n : List Int) : plainRun (mkh hintsT lawF) Tryd.f3 400 [.agg .u8 (tab 32 l), .agg .u8 (tab 32 m), .agg .u8 (tab 32 n)] =
    some (.bool true, [decide (cM (tab 32 l) (cA (tab 32 m) (tab 32 n)) = cA (cM (tab 32 l) (tab 32 m)) (cM (tab 32 l) (tab 32 n))) = true]) := by kernel_rfl

theorem curveSpreads_ok : FnOk Tryd.prog gl 3 (FT [32, 32, 32]) := by
  refine fnOk_FT (C := mkh hintsT lawF) (mkh_ok lawF_ok) Tryd.func3 (by kernel_rfl) rfl (by kernel_rfl) (fun ls h hw => ?_)
  obtain ⟨l, m, n, rfl, hl, hm, hn⟩ := map3 h
  have run := curveSpreads_run l m n
  rw [tab_eq 32 l hl, tab_eq 32 m hm, tab_eq 32 n hn] at run
  refine ⟨400, _, run, ?_⟩
  refine Holds.one (dT ?_)
  show bytesOf 32 (num l * num (cA m n) % p25) = bytesOf 32 ((num (cM l m) + num (cM l n)) % p25)
  rw [num_cA, num_cM, num_cM, mem, Int.emod_add_emod, Int.add_emod_emod, Int.mul_add]
theorem curveUndoes_run (l m : List Int) : plainRun (mkh hintsT lawF) Tryd.f4 400 [.agg .u8 (tab 32 l), .agg .u8 (tab 32 m)] =
    some (.bool true, [decide (cS (cA (tab 32 l) (tab 32 m)) (tab 32 m) = cC (tab 32 l)) = true, decide (cA (cS (tab 32 l) (tab 32 m)) (tab 32 m) = cC (tab 32 l)) = true, decide (cS (tab 32 l) (tab 32 l) = zeros32) = true]) := by kernel_rfl

theorem curveUndoes_ok : FnOk Tryd.prog gl 4 (FT [32, 32]) := by
  refine fnOk_FT (C := mkh hintsT lawF) (mkh_ok lawF_ok) Tryd.func4 (by kernel_rfl) rfl (by kernel_rfl) (fun ls h hw => ?_)
  obtain ⟨l, m, rfl, hl, hm⟩ := map2 h
  have run := curveUndoes_run l m
  rw [tab_eq 32 l hl, tab_eq 32 m hm] at run
  refine ⟨400, _, run, ?_⟩
  refine holds3 (dT ?_) (dT ?_) (dT ?_)
  · show bytesOf 32 ((num (cA l m) - num m) % p25) = _
    rw [num_cA, Int.emod_sub_emod, Int.add_sub_cancel]
    rfl
  · show bytesOf 32 ((num (cS l m) + num m) % p25) = _
    rw [num_cS, Int.emod_add_emod, Int.sub_add_cancel]
    rfl
  · rw [cS, Int.sub_self]
    decide
theorem curveOnes_run (l : List Int) : plainRun (mkh hintsT lawF) Tryd.f5 400 [.agg .u8 (tab 32 l)] =
    some (.bool true, [decide (cA (tab 32 l) zeros32 = cC (tab 32 l)) = true, decide (cM (tab 32 l) one32 = cC (tab 32 l)) = true, decide (cM (tab 32 l) zeros32 = zeros32) = true, decide (cS (tab 32 l) zeros32 = cC (tab 32 l)) = true]) := by kernel_rfl

theorem curveOnes_ok : FnOk Tryd.prog gl 5 (FT [32]) := by
  refine fnOk_FT (C := mkh hintsT lawF) (mkh_ok lawF_ok) Tryd.func5 (by kernel_rfl) rfl (by kernel_rfl) (fun ls h hw => ?_)
  obtain ⟨l, rfl, hl⟩ := map1 h
  have run := curveOnes_run l
  rw [tab_eq 32 l hl] at run
  refine ⟨400, _, run, ?_⟩
  refine holds4 (dT ?_) (dT ?_) (dT ?_) (dT ?_)
  · rw [cA, num_zeros32, Int.add_zero]
    rfl
  · rw [cM, num_one32, Int.mul_one]
    rfl
  · rw [cM, num_zeros32, Int.mul_zero]
    decide
  · rw [cS, num_zeros32, Int.sub_zero]
    rfl
theorem curveBinomial_run (l m : List Int) : plainRun (mkh hintsT lawF) Tryd.f6 400 [.agg .u8 (tab 32 l), .agg .u8 (tab 32 m)] =
    some (.bool true, [decide (cM (cA (tab 32 l) (tab 32 m)) (cA (tab 32 l) (tab 32 m)) = cA (cA (cM (tab 32 l) (tab 32 l)) (cM (tab 32 m) (tab 32 m))) (cA (cM (tab 32 l) (tab 32 m)) (cM (tab 32 l) (tab 32 m)))) = true]) := by kernel_rfl

theorem curveBinomial_ok : FnOk Tryd.prog gl 6 (FT [32, 32]) := by
  refine fnOk_FT (C := mkh hintsT lawF) (mkh_ok lawF_ok) Tryd.func6 (by kernel_rfl) rfl (by kernel_rfl) (fun ls h hw => ?_)
  obtain ⟨l, m, rfl, hl, hm⟩ := map2 h
  have run := curveBinomial_run l m
  rw [tab_eq 32 l hl, tab_eq 32 m hm] at run
  refine ⟨400, _, run, ?_⟩
  refine Holds.one (dT ?_)
  show bytesOf 32 (num (cA l m) * num (cA l m) % p25) = bytesOf 32 ((num (cA (cM l l) (cM m m)) + num (cA (cM l m) (cM l m))) % p25)
  rw [num_cA, num_cA, num_cA, num_cM, num_cM, num_cM, emm, mem, Int.emod_add_emod, Int.add_emod_emod]
  have e1 : (num l * num l % p25 + num m * num m % p25) % p25 = (num l * num l + num m * num m) % p25 := by rw [Int.emod_add_emod, Int.add_emod_emod]
  have e2 : (num l * num m % p25 + num l * num m % p25) % p25 = (num l * num m + num l * num m) % p25 := by rw [Int.emod_add_emod, Int.add_emod_emod]
  rw [← Int.emod_add_emod, e1, Int.emod_add_emod, ← Int.add_emod_emod, e2, Int.add_emod_emod]
  congr 2
  grind
theorem curveCanon_run (l : List Int) : plainRun (mkh hintsT lawF) Tryd.f8 400 [.agg .u8 (tab 32 l)] =
    some (.bool (decide (num (tab 32 l) % p25 = num (cC (tab 32 l)) % p25)), [decide (cC (tab 32 l) = cC (tab 32 l)) = true, decide (cC (cC (tab 32 l)) = cC (tab 32 l)) = true]) := by kernel_rfl

theorem curveCanon_ok : FnOk Tryd.prog gl 8 (FT [32]) := by
  refine fnOk_FT (C := mkh hintsT lawF) (mkh_ok lawF_ok) Tryd.func8 (by kernel_rfl) rfl (by kernel_rfl) (fun ls h hw => ?_)
  obtain ⟨l, rfl, hl⟩ := map1 h
  have run := curveCanon_run l
  rw [tab_eq 32 l hl, decide_eq_true (show num l % p25 = num (cC l) % p25 by rw [num_cC, Int.emod_emod])] at run
  refine ⟨400, _, run, holds2 (dT rfl) (dT ?_)⟩
  show bytesOf 32 (num (cC l) % p25) = _
  rw [num_cC, Int.emod_emod]
  rfl

theorem curveSame_run (l m : List Int) : plainRun (mkh hintsT lawF) Tryd.f9 400 [.agg .u8 (tab 32 l), .agg .u8 (tab 32 m)] =
    some (.bool (decide (num (tab 32 l) % p25 = num (tab 32 l) % p25)), [decide (cC (tab 32 l) = cC (tab 32 m)) = true, (decide (num (tab 32 l) % p25 = num (tab 32 m) % p25) == true) = true]) := by kernel_rfl

theorem curveSame_run2 (l m : List Int) : plainRun (mkh (hintBut 16) lawF) Tryd.f9 400 [.agg .u8 (tab 32 l), .agg .u8 (tab 32 m)] =
    some (.bool (decide (num (tab 32 l) % p25 = num (tab 32 l) % p25)), [decide (cC (tab 32 l) = cC (tab 32 m)) = false, (decide (num (tab 32 l) % p25 = num (tab 32 m) % p25) == false) = true]) := by kernel_rfl

theorem curveSame_ok : FnOk Tryd.prog gl 9 (FT [32, 32]) := by
  refine fnOk_FTH Tryd.func9 (by kernel_rfl) rfl (by kernel_rfl) (fun ls h hw => ?_)
  obtain ⟨l, m, rfl, hl, hm⟩ := map2 h
  by_cases hz : num l % p25 = num m % p25
  · have run := curveSame_run l m
    rw [tab_eq 32 l hl, tab_eq 32 m hm, decide_eq_true (show num l % p25 = num l % p25 from rfl)] at run
    refine ⟨hintsT, lawF, 400, _, lawF_ok, run, holds2 (dT ?_) (by rw [decide_eq_true hz]; rfl)⟩
    unfold cC
    rw [hz]
  · have run := curveSame_run2 l m
    rw [tab_eq 32 l hl, tab_eq 32 m hm, decide_eq_true (show num l % p25 = num l % p25 from rfl)] at run
    refine ⟨hintBut 16, lawF, 400, _, lawF_ok, run, holds2 (decide_eq_false (fun e => hz ?_)) (by rw [decide_eq_false hz]; rfl)⟩
    have := congrArg num e
    rwa [num_cC, num_cC] at this

theorem curveStands_run (l m : List Int) : plainRun (mkh hintsT lawF) Tryd.f10 600 [.agg .u8 (tab 32 l), .agg .u8 (tab 32 m)] =
    some (.bool true, [decide (cA (tab 32 l) (tab 32 m) = cA (cC (tab 32 l)) (cC (tab 32 m))) = true, decide (cS (tab 32 l) (tab 32 m) = cS (cC (tab 32 l)) (cC (tab 32 m))) = true, decide (cM (tab 32 l) (tab 32 m) = cM (cC (tab 32 l)) (cC (tab 32 m))) = true,
      decide (cI (tab 32 l) = cI (cC (tab 32 l))) = true, (decide (num (tab 32 l) % p25 = num (tab 32 m) % p25) == decide (num (cC (tab 32 l)) % p25 = num (cC (tab 32 m)) % p25)) = true]) := by kernel_rfl

theorem curveStands_ok : FnOk Tryd.prog gl 10 (FT [32, 32]) := by
  refine fnOk_FT (C := mkh hintsT lawF) (mkh_ok lawF_ok) Tryd.func10 (by kernel_rfl) rfl (by kernel_rfl) (fun ls h hw => ?_)
  obtain ⟨l, m, rfl, hl, hm⟩ := map2 h
  have run := curveStands_run l m
  rw [tab_eq 32 l hl, tab_eq 32 m hm] at run
  refine ⟨600, _, run, hcons (dT ?_) (holds4 (dT ?_) (dT ?_) (dT ?_) ?_)⟩
  · show _ = bytesOf 32 ((num (cC l) + num (cC m)) % p25)
    rw [num_cC, num_cC, Int.emod_add_emod, Int.add_emod_emod]
    rfl
  · show _ = bytesOf 32 ((num (cC l) - num (cC m)) % p25)
    rw [num_cC, num_cC, Int.emod_sub_emod, Int.sub_emod_emod]
    rfl
  · show _ = bytesOf 32 (num (cC l) * num (cC m) % p25)
    rw [num_cC, num_cC, emm, mem]
    rfl
  · show bytesOf 32 (inv (num l)) = bytesOf 32 (inv (num (cC l)))
    rw [num_cC, inv_congr]
  · rw [num_cC, num_cC, Int.emod_emod, Int.emod_emod]
    exact beq_self_eq_true _

/-- A byte and two arrays: always true. -/
def FPT : List A → List Blk → Option Res
  | [.int .u8 _, .agg k l, .agg k' m], [] => match decide (k = .u8) && decide (k' = .u8) && Nat.beq l.length 32 && Nat.beq m.length 32 with
    | true => some ⟨.bool true, [], none, []⟩
    | false => none
  | _, _ => none

theorem curvePicks_run (x : Int) (l m : List Int) : plainRun (mkh hintsT lawF) Tryd.f7 400 [.int .u8 x, .agg .u8 (tab 32 l), .agg .u8 (tab 32 m)] =
    some (.bool true, [decide (cP x (tab 32 l) (tab 32 m) = cP x (tab 32 l) (tab 32 m)) = true]) := by kernel_rfl

theorem curvePicks_ok : FnOk Tryd.prog gl 7 FPT := by
  refine fnOk_plain (C := mkh hintsT lawF) (mkh_ok lawF_ok) Tryd.func7 (by kernel_rfl) rfl (fun args mem r hr _ => ?_)
  unfold FPT at hr
  split at hr
  · rename_i x k l k' m
    split at hr
    · rename_i hc
      simp only [Bool.and_eq_true] at hc
      have e0 := of_decide_eq_true hc.1.1.1
      have e1 := of_decide_eq_true hc.1.1.2
      have hl := Nat.eq_of_beq_eq_true hc.1.2
      have hm := Nat.eq_of_beq_eq_true hc.2
      subst e0 e1
      simp only [Option.some.injEq] at hr
      subst hr
      have run := curvePicks_run x l m
      rw [tab_eq 32 l hl, tab_eq 32 m hm] at run
      exact ⟨rfl, rfl, rfl, beq_le (by kernel_rfl), fun _ => ⟨400, _, run, Holds.one (dT rfl)⟩⟩
    · cases hr
  · cases hr

end Go.Proofs.YtiamcoggiagpbaaDoor.Sx
