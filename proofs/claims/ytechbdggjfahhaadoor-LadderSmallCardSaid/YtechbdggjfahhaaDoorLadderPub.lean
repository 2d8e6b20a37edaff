/-
  The laws that read the base point: its variable is known here.
-/
import Derived.Test.YtechbdggjfahhaaDoorLadderLaws
import Derived.Test.YtechbdggjfahhaaDoorSxGl
namespace Go.Proofs.YtechbdggjfahhaaDoor.Sx
open Go
set_option maxRecDepth 100000

def beginL : List Int := 9 :: List.replicate 31 0
abbrev glS : List Blk := [⟨.u8, 0, 65 :: 219 :: 1 :: List.replicate 29 0, false⟩, ⟨.u8, 0, beginL, false⟩, ⟨.u64, 0, [18446744073709551597, 18446744073709551615, 18446744073709551615, 9223372036854775807], false⟩]

theorem baseS : Base Tryd.prog glS 45 47 := by
  refine ⟨fun g b h => ?_, base.mixed, base.add, base.sub⟩
  match g, h with
  | 0, h => simp only [List.getElem?_cons_zero, Option.some.injEq] at h; rw [← h]
  | 1, h => simp only [List.getElem?_cons_zero, List.getElem?_cons_succ, Option.some.injEq] at h; rw [← h]
  | 2, h => simp only [List.getElem?_cons_zero, List.getElem?_cons_succ, Option.some.injEq] at h; rw [← h]
  | g + 3, h => simp at h

theorem glW : GlW gl glS := by
  refine ⟨rfl, fun g b bs h hs => ?_⟩
  match g, h, hs with
  | 0, h, hs =>
    simp only [List.getElem?_cons_zero, Option.some.injEq] at h hs
    subst h hs
    exact ⟨rfl, rfl, Or.inl rfl⟩
  | 1, h, hs =>
    simp only [List.getElem?_cons_zero, List.getElem?_cons_succ, Option.some.injEq] at h hs
    subst h hs
    exact ⟨rfl, rfl, Or.inr rfl⟩
  | 2, h, hs =>
    simp only [List.getElem?_cons_zero, List.getElem?_cons_succ, Option.some.injEq] at h hs
    subst h hs
    exact ⟨rfl, rfl, Or.inl rfl⟩
  | g + 3, h, _ => simp at h

noncomputable abbrev mkS (hint : Tmp → Option Bool) (l : List (FuncId × (List A → List Blk → Option Res))) : Ctx := mkC Tryd.prog glS 45 47 hint l
theorem mkS_ok {hint : Tmp → Option Bool} {l : List (FuncId × (List A → List Blk → Option Res))} (hl : ∀ p ∈ l, FnOk Tryd.prog glS p.1 p.2) : (mkS hint l).Ok := mkC_ok baseS _ l hl

def nineL : List Int := 9 :: List.replicate 31 0
theorem num_nineL : lt255 (num nineL) = 9 := by decide

def fPub : List A → List Blk → Option Res := F1 .u8 .u8 32 fun k => bytesOf 32 (lad (tkN (num k)) 9)

theorem pub_run (k : List Int) : plainRun (mkS (fun _ => none) [(14, fTimes)]) Tryd.f18 100 [.agg .u8 (tab 32 k)] = some (.agg .u8 (bytesOf 32 (tV (tab 32 k) nineL)), []) := by kernel_rfl
theorem rpub_run (k : List Int) : plainRun (mkS (fun _ => none) [(15, fTimes)]) Tryd.f19 100 [.agg .u8 (tab 32 k)] = some (.agg .u8 (bytesOf 32 (tV (tab 32 k) nineL)), []) := by kernel_rfl

theorem pub_ok : FnOk Tryd.prog glS 18 fPub := by
  refine fnOk_F1 (C := mkS (fun _ => none) [(14, fTimes)]) (mkS_ok (by intro p hp; rw [List.mem_singleton.1 hp]; exact fnOk_lift glW times_ok)) Tryd.func18 (by kernel_rfl) rfl (by kernel_rfl) (fun k hk _ => ?_)
  have run := pub_run k
  rw [tab_eq 32 k hk] at run
  refine ⟨100, _, run, ?_⟩
  unfold tV
  rw [num_nineL]

theorem rpub_ok : FnOk Tryd.prog glS 19 fPub := by
  refine fnOk_F1 (C := mkS (fun _ => none) [(15, fTimes)]) (mkS_ok (by intro p hp; rw [List.mem_singleton.1 hp]; exact fnOk_lift glW rtimes_ok)) Tryd.func19 (by kernel_rfl) rfl (by kernel_rfl) (fun k hk _ => ?_)
  have run := rpub_run k
  rw [tab_eq 32 k hk] at run
  refine ⟨100, _, run, ?_⟩
  unfold tV
  rw [num_nineL]


noncomputable abbrev lawS : List (FuncId × (List A → List Blk → Option Res)) := (18, fPub) :: (19, fPub) :: lawF
theorem lawS_ok : ∀ p ∈ lawS, FnOk Tryd.prog glS p.1 p.2 := by
  intro p hp
  rcases List.mem_cons.1 hp with rfl | hp
  · exact pub_ok
  · rcases List.mem_cons.1 hp with rfl | hp
    · exact rpub_ok
    · exact fnOk_lift glW (lawF_ok p hp)

theorem ladderPublic_run (l : List Int) : plainRun (mkS hintsT lawS) Tryd.f8 400 [.agg .u8 (tab 32 l)] =
    some (.bool true, [decide (bytesOf 32 (lad (tkN (num (tab 32 l))) 9) = bytesOf 32 (lad (tkN (num (tab 32 l))) 9)) = true]) := by kernel_rfl

theorem ladderPublic_ok : FnOk Tryd.prog glS 8 (FT [32]) := by
  refine fnOk_FT (C := mkS hintsT lawS) (mkS_ok lawS_ok) Tryd.func8 (by kernel_rfl) rfl (by kernel_rfl) (fun ls h hw => ?_)
  obtain ⟨l, rfl, hl⟩ := map1 h
  have run := ladderPublic_run l
  rw [tab_eq 32 l hl] at run
  exact ⟨400, _, run, Holds.one (dT rfl)⟩

theorem ladderAgrees_run (l m : List Int) : plainRun (mkS hintsT lawS) Tryd.f9 400 [.agg .u8 (tab 32 l), .agg .u8 (tab 32 m)] =
    some (.bool true, [decide (bytesOf 32 (tV (tab 32 l) (bytesOf 32 (lad (tkN (num (tab 32 m))) 9))) = bytesOf 32 (tV (tab 32 m) (bytesOf 32 (lad (tkN (num (tab 32 l))) 9)))) = true]) := by kernel_rfl

theorem tV_lad (k : List Int) (a b : Int) : tV k (bytesOf 32 (lad a b)) = lad (tkN (num k)) (lad a b) := by
  unfold tV
  rw [num_lad, lt255_lad]

theorem ladderAgrees_ok : FnOk Tryd.prog glS 9 (FT [32, 32]) := by
  refine fnOk_FT (C := mkS hintsT lawS) (mkS_ok lawS_ok) Tryd.func9 (by kernel_rfl) rfl (by kernel_rfl) (fun ls h hw => ?_)
  obtain ⟨l, m, rfl, hl, hm⟩ := map2 h
  have run := ladderAgrees_run l m
  rw [tab_eq 32 l hl, tab_eq 32 m hm, tV_lad, tV_lad] at run
  refine ⟨400, _, run, Holds.one (dT ?_)⟩
  obtain ⟨K, hK, tK⟩ := tkN_trimmed (num l)
  obtain ⟨M, hM, tM⟩ := tkN_trimmed (num m)
  rw [hK, hM, lad_agrees tK tM]

theorem ladderNine_run (l m : List Int) : plainRun (mkS hintsT lawS) Tryd.f10 400 [.agg .u8 (tab 32 l), .agg .u8 (tab 32 m)] =
    some (.bool true, [decide (bytesOf 32 (lad (tkN (num (tab 32 l))) 9) = bytesOf 32 (tV (tab 32 l) nineL)) = true, (errV (tV (tab 32 m) (bytesOf 32 (lad (tkN (num (tab 32 l))) 9))) == 0) = true,
      decide (bytesOf 32 (tV (tab 32 m) (bytesOf 32 (lad (tkN (num (tab 32 l))) 9))) = bytesOf 32 (tV (tab 32 m) (bytesOf 32 (lad (tkN (num (tab 32 l))) 9)))) = true]) := by kernel_rfl

theorem ladderNine_ok : FnOk Tryd.prog glS 10 (FT [32, 32]) := by
  refine fnOk_FT (C := mkS hintsT lawS) (mkS_ok lawS_ok) Tryd.func10 (by kernel_rfl) rfl (by kernel_rfl) (fun ls h hw => ?_)
  obtain ⟨l, m, rfl, hl, hm⟩ := map2 h
  have run := ladderNine_run l m
  rw [tab_eq 32 l hl, tab_eq 32 m hm, tV_lad] at run
  refine ⟨400, _, run, holds3 (dT ?_) ?_ (dT rfl)⟩
  · unfold tV
    rw [num_nineL]
  · obtain ⟨K, hK, tK⟩ := tkN_trimmed (num l)
    obtain ⟨M, hM, tM⟩ := tkN_trimmed (num m)
    rw [hK, hM]
    unfold errV
    rw [if_neg (lad_not_zero tM tK)]
    rfl


end Go.Proofs.YtechbdggjfahhaaDoor.Sx
