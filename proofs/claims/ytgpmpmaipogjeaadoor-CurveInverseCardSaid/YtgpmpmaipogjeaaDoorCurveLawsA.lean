/-
  The laws of the chapter, the first half: what each answers.
-/
import Derived.Test.YtgpmpmaipogjeaaDoorCurveLaw
import Derived.Test.YtgpmpmaipogjeaaDoorCurveRefG
namespace Go.Proofs.YtgpmpmaipogjeaaDoor.Sx
open Go
set_option maxRecDepth 100000

noncomputable abbrev lawF : List (FuncId × (List A → List Blk → Option Res)) := [(21, fAdd), (14, fSub), (16, fMul), (19, fInvert)] ++ lawF0

theorem lawF_ok : ∀ p ∈ lawF, FnOk Tryd.prog gl p.1 p.2 := by
  intro p hp
  rcases List.mem_append.1 hp with hp | hp
  · simp only [List.mem_cons, List.not_mem_nil, or_false] at hp
    rcases hp with rfl | rfl | rfl | rfl
    · exact radd_ok
    · exact rsub_ok
    · exact rmul_ok
    · exact rinvert_ok
  · exact lawF0_ok p hp

theorem curveSubs_run (l m : List Int) : plainRun (mkh hintsT lawF) Tryd.f3 400 [.agg .u8 (tab 32 l), .agg .u8 (tab 32 m)] =
    some (.bool true, [decide (cS (tab 32 l) (tab 32 m) = cS (tab 32 l) (tab 32 m)) = true]) := by kernel_rfl

theorem curveSubs_ok : FnOk Tryd.prog gl 3 (FT [32, 32]) := by
  refine fnOk_FT (C := mkh hintsT lawF) (mkh_ok lawF_ok) Tryd.func3 (by kernel_rfl) rfl (by kernel_rfl) (fun ls h hw => ?_)
  obtain ⟨l, m, rfl, hl, hm⟩ := map2 h
  have run := curveSubs_run l m
  rw [tab_eq 32 l hl, tab_eq 32 m hm] at run
  refine ⟨400, _, run, ?_⟩
  exact Holds.one (dT rfl)
theorem curveAdds_run (l m : List Int) : plainRun (mkh hintsT lawF) Tryd.f8 400 [.agg .u8 (tab 32 l), .agg .u8 (tab 32 m)] =
    some (.bool true, [decide (cA (tab 32 l) (tab 32 m) = cA (tab 32 l) (tab 32 m)) = true]) := by kernel_rfl

theorem curveAdds_ok : FnOk Tryd.prog gl 8 (FT [32, 32]) := by
  refine fnOk_FT (C := mkh hintsT lawF) (mkh_ok lawF_ok) Tryd.func8 (by kernel_rfl) rfl (by kernel_rfl) (fun ls h hw => ?_)
  obtain ⟨l, m, rfl, hl, hm⟩ := map2 h
  have run := curveAdds_run l m
  rw [tab_eq 32 l hl, tab_eq 32 m hm] at run
  refine ⟨400, _, run, ?_⟩
  exact Holds.one (dT rfl)
theorem curveMuls_run (l m : List Int) : plainRun (mkh hintsT lawF) Tryd.f4 400 [.agg .u8 (tab 32 l), .agg .u8 (tab 32 m)] =
    some (.bool true, [decide (cM (tab 32 l) (tab 32 m) = cM (tab 32 l) (tab 32 m)) = true]) := by kernel_rfl

theorem curveMuls_ok : FnOk Tryd.prog gl 4 (FT [32, 32]) := by
  refine fnOk_FT (C := mkh hintsT lawF) (mkh_ok lawF_ok) Tryd.func4 (by kernel_rfl) rfl (by kernel_rfl) (fun ls h hw => ?_)
  obtain ⟨l, m, rfl, hl, hm⟩ := map2 h
  have run := curveMuls_run l m
  rw [tab_eq 32 l hl, tab_eq 32 m hm] at run
  refine ⟨400, _, run, ?_⟩
  exact Holds.one (dT rfl)
theorem curveInverse_run (l : List Int) : plainRun (mkh hintsT lawF) Tryd.f6 400 [.agg .u8 (tab 32 l)] =
    some (.bool true, [decide (cI (tab 32 l) = cI (tab 32 l)) = true]) := by kernel_rfl

theorem curveInverse_ok : FnOk Tryd.prog gl 6 (FT [32]) := by
  refine fnOk_FT (C := mkh hintsT lawF) (mkh_ok lawF_ok) Tryd.func6 (by kernel_rfl) rfl (by kernel_rfl) (fun ls h hw => ?_)
  obtain ⟨l, rfl, hl⟩ := map1 h
  have run := curveInverse_run l
  rw [tab_eq 32 l hl] at run
  refine ⟨400, _, run, ?_⟩
  exact Holds.one (dT rfl)
theorem curveSquares_run (l : List Int) : plainRun (mkh hintsT lawF) Tryd.f9 400 [.agg .u8 (tab 32 l)] =
    some (.bool true, [decide (cM (tab 32 l) (tab 32 l) = cM (tab 32 l) (tab 32 l)) = true, decide (cM (tab 32 l) (tab 32 l) = cM (tab 32 l) (tab 32 l)) = true]) := by kernel_rfl

theorem curveSquares_ok : FnOk Tryd.prog gl 9 (FT [32]) := by
  refine fnOk_FT (C := mkh hintsT lawF) (mkh_ok lawF_ok) Tryd.func9 (by kernel_rfl) rfl (by kernel_rfl) (fun ls h hw => ?_)
  obtain ⟨l, rfl, hl⟩ := map1 h
  have run := curveSquares_run l
  rw [tab_eq 32 l hl] at run
  refine ⟨400, _, run, ?_⟩
  exact holds2 (dT rfl) (dT rfl)
theorem curveSides_run (l m : List Int) : plainRun (mkh hintsT lawF) Tryd.f10 400 [.agg .u8 (tab 32 l), .agg .u8 (tab 32 m)] =
    some (.bool true, [decide (cA (tab 32 l) (tab 32 m) = cA (tab 32 m) (tab 32 l)) = true, decide (cM (tab 32 l) (tab 32 m) = cM (tab 32 m) (tab 32 l)) = true]) := by kernel_rfl

theorem curveSides_ok : FnOk Tryd.prog gl 10 (FT [32, 32]) := by
  refine fnOk_FT (C := mkh hintsT lawF) (mkh_ok lawF_ok) Tryd.func10 (by kernel_rfl) rfl (by kernel_rfl) (fun ls h hw => ?_)
  obtain ⟨l, m, rfl, hl, hm⟩ := map2 h
  have run := curveSides_run l m
  rw [tab_eq 32 l hl, tab_eq 32 m hm] at run
  refine ⟨400, _, run, ?_⟩
  exact holds2 (dT (by unfold cA; rw [Int.add_comm])) (dT (by unfold cM; rw [Int.mul_comm]))
theorem curveGroups_run (l m n : List Int) : plainRun (mkh hintsT lawF) Tryd.f11 400 [.agg .u8 (tab 32 l), .agg .u8 (tab 32 m), .agg .u8 (tab 32 n)] =
    some (.bool true, [decide (cA (cA (tab 32 l) (tab 32 m)) (tab 32 n) = cA (tab 32 l) (cA (tab 32 m) (tab 32 n))) = true, decide (cM (cM (tab 32 l) (tab 32 m)) (tab 32 n) = cM (tab 32 l) (cM (tab 32 m) (tab 32 n))) = true]) := by kernel_rfl

theorem curveGroups_ok : FnOk Tryd.prog gl 11 (FT [32, 32, 32]) := by
  refine fnOk_FT (C := mkh hintsT lawF) (mkh_ok lawF_ok) Tryd.func11 (by kernel_rfl) rfl (by kernel_rfl) (fun ls h hw => ?_)
  obtain ⟨l, m, n, rfl, hl, hm, hn⟩ := map3 h
  have run := curveGroups_run l m n
  rw [tab_eq 32 l hl, tab_eq 32 m hm, tab_eq 32 n hn] at run
  refine ⟨400, _, run, ?_⟩
  refine holds2 (dT ?_) (dT ?_)
  · show bytesOf 32 ((num (cA l m) + num n) % p25) = bytesOf 32 ((num l + num (cA m n)) % p25)
    rw [num_cA, num_cA, Int.emod_add_emod, Int.add_emod_emod, Int.add_assoc]
  · show bytesOf 32 (num (cM l m) * num n % p25) = bytesOf 32 (num l * num (cM m n) % p25)
    rw [num_cM, num_cM, emm, mem, Int.mul_assoc]
theorem curveTwice_run (l m : List Int) : plainRun (mkh hintsT lawF) Tryd.f7 400 [.agg .u8 (tab 32 l), .agg .u8 (tab 32 m)] =
    some (.bool true, [decide (cI (cI (tab 32 l)) = cC (tab 32 l)) = true, decide (cI (cM (tab 32 l) (tab 32 m)) = cM (cI (tab 32 l)) (cI (tab 32 m))) = true]) := by kernel_rfl

theorem curveTwice_ok : FnOk Tryd.prog gl 7 (FT [32, 32]) := by
  refine fnOk_FT (C := mkh hintsT lawF) (mkh_ok lawF_ok) Tryd.func7 (by kernel_rfl) rfl (by kernel_rfl) (fun ls h hw => ?_)
  obtain ⟨l, m, rfl, hl, hm⟩ := map2 h
  have run := curveTwice_run l m
  rw [tab_eq 32 l hl, tab_eq 32 m hm] at run
  refine ⟨400, _, run, ?_⟩
  refine holds2 (dT ?_) (dT ?_)
  · unfold cI cC
    have e := num_cI l
    unfold cI at e
    rw [e]
    show bytesOf 32 (inv (inv (num l))) = _
    rw [inv_inv]
  · show bytesOf 32 (inv (num (cM l m))) = bytesOf 32 (num (cI l) * num (cI m) % p25)
    rw [num_cM, num_cI, num_cI]
    show bytesOf 32 (inv (num l * num m % p25)) = bytesOf 32 (inv (num l) * inv (num m) % p25)
    rw [inv_congr, inv_prod]

theorem curveInverts_run0 (l : List Int) : plainRun (mkh hintsT lawF) Tryd.f5 400 [.agg .u8 (tab 32 l)] =
    some (.bool true, [decide (cC (tab 32 l) = List.replicate 32 0) = true, decide (cI (tab 32 l) = List.replicate 32 0) = true]) := by kernel_rfl

theorem curveInverts_run1 (l : List Int) : plainRun (mkh (hintBut 11) lawF) Tryd.f5 400 [.agg .u8 (tab 32 l)] =
    some (.bool true, [decide (cC (tab 32 l) = List.replicate 32 0) = false, decide (cM (tab 32 l) (cI (tab 32 l)) = 1 :: List.replicate 31 0) = true, decide (cC (cI (tab 32 l)) = cI (tab 32 l)) = true]) := by kernel_rfl

theorem curveInverts_ok : FnOk Tryd.prog gl 5 (FT [32]) := by
  refine fnOk_FTH Tryd.func5 (by kernel_rfl) rfl (by kernel_rfl) (fun ls h hw => ?_)
  obtain ⟨l, rfl, hl⟩ := map1 h
  by_cases hz : num l % p25 = 0
  · have run := curveInverts_run0 l
    rw [tab_eq 32 l hl] at run
    refine ⟨hintsT, lawF, 400, _, lawF_ok, run, holds2 (dT ((bytes_eq_zero _).2 hz)) (dT ?_)⟩
    show bytesOf 32 (inv (num l)) = _
    rw [inv_zero _ hz, bytes_zero]
  · have run := curveInverts_run1 l
    rw [tab_eq 32 l hl] at run
    refine ⟨hintBut 11, lawF, 400, _, lawF_ok, run, holds3 (decide_eq_false (fun e => hz ((bytes_eq_zero _).1 e))) (dT ?_) (dT ?_)⟩
    · show bytesOf 32 (num l * num (cI l) % p25) = _
      rw [num_cI]
      show bytesOf 32 (num l * inv (num l) % p25) = _
      rw [Int.mul_comm, inv_mul _ hz, bytes_one]
    · show bytesOf 32 (num (cI l) % p25) = _
      rw [num_cI]
      show bytesOf 32 (inv (num l) % p25) = bytesOf 32 (inv (num l))
      rw [inv_mod]

end Go.Proofs.YtgpmpmaipogjeaaDoor.Sx
