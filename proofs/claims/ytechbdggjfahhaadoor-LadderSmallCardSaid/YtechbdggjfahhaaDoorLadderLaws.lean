/-
  The laws of the chapter: what each answers.
-/
import Derived.Test.YtechbdggjfahhaaDoorLadderLaw
namespace Go.Proofs.YtechbdggjfahhaaDoor.Sx
open Go
set_option maxRecDepth 100000

theorem holds3 {p q r : Prop} (h1 : p) (h2 : q) (h3 : r) : Holds [p, q, r] := hcons h1 (holds2 h2 h3)
theorem holds4 {p q r s : Prop} (h1 : p) (h2 : q) (h3 : r) (h4 : s) : Holds [p, q, r, s] := hcons h1 (holds3 h2 h3 h4)

def hintsT (_ : Tmp) : Option Bool := some true
def hintBut (d : Nat) (t : Tmp) : Option Bool :=
  match Nat.beq t d with
  | true => some false
  | false => some true

theorem fnOk_FTH {f : FuncId} {fn : Func} {c : Code} {ns : List Nat} (hf : Tryd.prog.funcs[f]? = some fn) (hname : (fn.name == "runtime.NumGoroutine") = false) (hb : fn.body = some c) (ht : Nat.ble ns.length fn.ntmps = true)
    (h : ∀ ls : List (List Int), ls.map List.length = ns → (∀ l ∈ ls, ∀ x ∈ l, wf .u8 x) → ∃ hint l fuel ob, (∀ p ∈ l, FnOk Tryd.prog gl p.1 p.2) ∧ plainRun (mkh hint l) fn fuel (ls.map (A.agg .u8)) = some (.bool true, ob) ∧ Holds ob) : FnOk Tryd.prog gl f (FT ns) := by
  refine fnOk_plainH hf hname hb (fun args mem r hr _ => ?_)
  unfold FT at hr
  split at hr
  · split at hr
    · rename_i hs
      simp only [Option.some.injEq] at hr
      subst hr
      refine ⟨rfl, rfl, rfl, by rw [shapeOk_length _ _ hs]; exact beq_le ht, fun hw => ?_⟩
      obtain ⟨ls, h1, rfl, h3⟩ := shapeOk_spec _ _ hs hw
      exact h ls h1 h3
    · cases hr
  · cases hr

theorem tkN_tkN (n : Int) : tkN (tkN n) = tkN n := by unfold tkN; omega

theorem trimB_twice {l : List Int} (hl : l.length = 32) (hb : ∀ x ∈ l, 0 ≤ x ∧ x < 256) : trimB (trimB l) = trimB l := by
  have l1 : (trimB l).length = 32 := by rw [trimB_length]; exact hl
  have b1 := trimB_bytes hl hb
  have l2 : (trimB (trimB l)).length = 32 := by rw [trimB_length]; exact l1
  have b2 := trimB_bytes l1 b1
  have e1 := bytesOf_num (trimB l) b1
  have e2 := bytesOf_num (trimB (trimB l)) b2
  rw [l1] at e1
  rw [l2, num_trimB l1 b1, num_trimB hl hb, tkN_tkN, ← num_trimB hl hb, e1] at e2
  exact e2.symm

theorem ladderTrims_run (l : List Int) : plainRun (mkh hintsT lawF) Tryd.f3 400 [.agg .u8 (tab 32 l)] =
    some (.bool true, [decide (trimB (tab 32 l) = trimB (tab 32 l)) = true, decide (trimB (trimB (tab 32 l)) = trimB (tab 32 l)) = true]) := by kernel_rfl

theorem ladderTrims_ok : FnOk Tryd.prog gl 3 (FT [32]) := by
  refine fnOk_FT (C := mkh hintsT lawF) (mkh_ok lawF_ok) Tryd.func3 (by kernel_rfl) rfl (by kernel_rfl) (fun ls h hw => ?_)
  obtain ⟨l, rfl, hl⟩ := map1 h
  have run := ladderTrims_run l
  rw [tab_eq 32 l hl] at run
  exact ⟨400, _, run, holds2 (dT rfl) (dT (trimB_twice hl (fun x hx => wf_u8.1 (hw l (by simp) x hx))))⟩

theorem ladderTimes_run (l m : List Int) : plainRun (mkh hintsT lawF) Tryd.f4 400 [.agg .u8 (tab 32 l), .agg .u8 (tab 32 m)] =
    some (.bool true, [decide (bytesOf 32 (tV (tab 32 l) (tab 32 m)) = bytesOf 32 (tV (tab 32 l) (tab 32 m))) = true]) := by kernel_rfl

theorem ladderTimes_ok : FnOk Tryd.prog gl 4 (FT [32, 32]) := by
  refine fnOk_FT (C := mkh hintsT lawF) (mkh_ok lawF_ok) Tryd.func4 (by kernel_rfl) rfl (by kernel_rfl) (fun ls h hw => ?_)
  obtain ⟨l, m, rfl, hl, hm⟩ := map2 h
  have run := ladderTimes_run l m
  rw [tab_eq 32 l hl, tab_eq 32 m hm] at run
  exact ⟨400, _, run, Holds.one (dT rfl)⟩

theorem ladderShares_run1 (l m : List Int) : plainRun (mkh hintsT lawF) Tryd.f5 400 [.agg .u8 (tab 32 l), .agg .u8 (tab 32 m)] =
    some (.bool true, [decide (bytesOf 32 (tV (tab 32 l) (tab 32 m)) = zeroL) = true, (errV (tV (tab 32 l) (tab 32 m)) == 20) = true, decide (bytesOf 32 (tV (tab 32 l) (tab 32 m)) = bytesOf 32 (tV (tab 32 l) (tab 32 m))) = true]) := by kernel_rfl
theorem ladderShares_run0 (l m : List Int) : plainRun (mkh (hintBut 21) lawF) Tryd.f5 400 [.agg .u8 (tab 32 l), .agg .u8 (tab 32 m)] =
    some (.bool true, [decide (bytesOf 32 (tV (tab 32 l) (tab 32 m)) = zeroL) = false, (errV (tV (tab 32 l) (tab 32 m)) == 0) = true, decide (bytesOf 32 (tV (tab 32 l) (tab 32 m)) = bytesOf 32 (tV (tab 32 l) (tab 32 m))) = true]) := by kernel_rfl

theorem ladderShares_ok : FnOk Tryd.prog gl 5 (FT [32, 32]) := by
  refine fnOk_FTH Tryd.func5 (by kernel_rfl) rfl (by kernel_rfl) (fun ls h hw => ?_)
  obtain ⟨l, m, rfl, hl, hm⟩ := map2 h
  by_cases hz : tV l m = 0
  · have run := ladderShares_run1 l m
    rw [tab_eq 32 l hl, tab_eq 32 m hm, hz, bytes_zero32] at run
    exact ⟨hintsT, lawF, 400, _, lawF_ok, run, holds3 (dT rfl) (by decide) (dT rfl)⟩
  · have run := ladderShares_run0 l m
    rw [tab_eq 32 l hl, tab_eq 32 m hm] at run
    refine ⟨hintBut 21, lawF, 400, _, lawF_ok, run, holds3 (decide_eq_false (fun e => hz ?_)) ?_ (dT rfl)⟩
    · have := congrArg num e
      unfold tV at this ⊢
      rw [num_lad, num_zeroL] at this
      exact this
    · unfold errV
      rw [if_neg hz]
      rfl

/-! ### What is not seen -/

def highU (l : List Int) : List Int := l.set 31 (bits .xor .u8 (l.getD 31 0) 128)

theorem byte_x128 : ∀ i : Fin 256, bits .xor .u8 (i.val : Int) 128 % 128 = (i.val : Int) % 128 := by decide +kernel

theorem num_highU {l : List Int} (hl : l.length = 32) (hb : ∀ x ∈ l, 0 ≤ x ∧ x < 256) : lt255 (num (highU l)) = lt255 (num l) := by
  have h31 := mem_getD hb 31 (by omega)
  obtain ⟨e0, r, r0, r1, e⟩ := num_ends hl hb
  obtain ⟨j, hj⟩ := byteF h31
  have hx := byte_x128 j
  rw [← hj] at hx
  have hr := bits_byte .xor (l.getD 31 0) 128
  unfold highU lt255
  rw [num_set _ 31 _ (by omega), show (256 : Int) ^ 31 = 452312848583266388373324160190187140051835877600158453279131187530910662656 by decide]
  generalize bits .xor .u8 (l.getD 31 0) 128 = v at *
  generalize l.getD 31 0 = b at *
  generalize num l = n at *
  omega

theorem tV_num (k u : List Int) : num (bytesOf 32 (tV k u)) = tV k u := num_lad _ _
theorem tV_mod (k u : List Int) : tV k u % p25 = tV k u := lad_range _ _

theorem lt255_small {n : Int} (h0 : 0 ≤ n) (h1 : n < p25) : lt255 n = n := by
  unfold lt255
  refine Int.emod_eq_of_lt h0 ?_
  have : p25 < 57896044618658097711785492504343953926634992332820282019728792003956564819968 := by decide
  omega

theorem tV_canon (l : List Int) {m : List Int} (hm : m.length = 32) (bm : ∀ x ∈ m, 0 ≤ x ∧ x < 256) : tV l (cC (maskU m)) = tV l m := by
  have e : lt255 (num (cC (maskU m))) = lt255 (num m) % p25 := by
    rw [num_cC, num_maskU hm bm]
    exact lt255_small (Int.emod_nonneg _ (by decide)) (Int.emod_lt_of_pos _ (by decide))
  have h := lad_congr (tkN (num l)) (R_mod (lt255 (num m)))
  rw [← e] at h
  exact h

theorem ladderBits_run (l m : List Int) : plainRun (mkh hintsT lawF) Tryd.f7 600 [.agg .u8 (tab 32 l), .agg .u8 (tab 32 m)] =
    some (.bool true, [decide (bytesOf 32 (tV (trimB (tab 32 l)) (tab 32 m)) = bytesOf 32 (tV (tab 32 l) (tab 32 m))) = true, decide (bytesOf 32 (tV (tab 32 l) (highU (tab 32 m))) = bytesOf 32 (tV (tab 32 l) (tab 32 m))) = true,
      decide (bytesOf 32 (tV (tab 32 l) (cC (maskU (tab 32 m)))) = bytesOf 32 (tV (tab 32 l) (tab 32 m))) = true, decide (cC (bytesOf 32 (tV (tab 32 l) (tab 32 m))) = bytesOf 32 (tV (tab 32 l) (tab 32 m))) = true]) := by kernel_rfl

theorem ladderBits_ok : FnOk Tryd.prog gl 7 (FT [32, 32]) := by
  refine fnOk_FT (C := mkh hintsT lawF) (mkh_ok lawF_ok) Tryd.func7 (by kernel_rfl) rfl (by kernel_rfl) (fun ls h hw => ?_)
  obtain ⟨l, m, rfl, hl, hm⟩ := map2 h
  have run := ladderBits_run l m
  rw [tab_eq 32 l hl, tab_eq 32 m hm] at run
  have bl : ∀ x ∈ l, 0 ≤ x ∧ x < 256 := fun x hx => wf_u8.1 (hw l (by simp) x hx)
  have bm : ∀ x ∈ m, 0 ≤ x ∧ x < 256 := fun x hx => wf_u8.1 (hw m (by simp) x hx)
  refine ⟨600, _, run, holds4 (dT ?_) (dT ?_) (dT ?_) (dT ?_)⟩
  · unfold tV
    rw [num_trimB hl bl, tkN_tkN]
  · unfold tV
    rw [num_highU hm bm]
  · rw [tV_canon l hm bm]
  · rw [cC, tV_num, tV_mod]

end Go.Proofs.YtechbdggjfahhaaDoor.Sx
