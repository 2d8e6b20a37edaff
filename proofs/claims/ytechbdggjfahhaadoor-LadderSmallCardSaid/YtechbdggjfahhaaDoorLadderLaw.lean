/-
  What all laws of the chapter begin with: Public, Shared, a key out of its digits, the document's examples.
-/
import Derived.Test.YtechbdggjfahhaaDoorLadderRef2
namespace Go.Proofs.YtechbdggjfahhaaDoor.Sx
open Go
set_option maxRecDepth 100000

def lt255 (n : Int) : Int := n % 57896044618658097711785492504343953926634992332820282019728792003956564819968
/-- What Times answers, as a number. -/
def tV (k u : List Int) : Int := lad (tkN (num k)) (lt255 (num u))

theorem lad_range (k u : Int) : lad k u % p25 = lad k u := by
  rw [lad_def]
  exact Int.emod_emod _ _

theorem num_lad (k u : Int) : num (bytesOf 32 (lad k u)) = lad k u := by
  rw [← lad_range]
  exact num_q _

theorem lt255_lad (k u : Int) : lt255 (lad k u) = lad k u := by
  have h0 := Int.emod_nonneg (lad k u) (show p25 ≠ 0 by decide)
  have h1 := Int.emod_lt_of_pos (lad k u) (show (0 : Int) < p25 by decide)
  rw [lad_range] at h0 h1
  unfold lt255
  refine Int.emod_eq_of_lt h0 ?_
  have : p25 < 57896044618658097711785492504343953926634992332820282019728792003956564819968 := by decide
  omega

/-! ### Shared -/

/-- Equal, where its answer is known. -/
def fEqualB (b : Bool) : List A → List Blk → Option Res
  | [.agg k0 l, .agg k2 m], [] => match decide (k0 = .u8) && decide (k2 = .u8) && Nat.beq l.length 32 && Nat.beq m.length 32 with
    | true => some ⟨.bool b, [], none, [decide (num l % p25 = num m % p25) = b]⟩
    | false => none
  | _, _ => none

theorem equalB_ok (b : Bool) : FnOk Tryd.prog gl 31 (fEqualB b) := by
  refine ⟨equal_ok.1, fun args mem r hr hob => ?_⟩
  unfold fEqualB at hr
  split at hr
  · rename_i k0 l k2 m
    split at hr
    · rename_i hc
      simp only [Option.some.injEq] at hr
      subst hr
      have hb := hob _ (List.mem_singleton.2 rfl)
      have hF : fEqual [.agg k0 l, .agg k2 m] [] = some ⟨.bool b, [], none, []⟩ := by
        unfold fEqual FB2
        simp only [hc, hb]
      have h := equal_ok.2 _ _ ⟨.bool b, [], none, []⟩ hF Holds.nil
      exact h
    · cases hr
  · cases hr

noncomputable abbrev shF (b : Bool) : List (FuncId × (List A → List Blk → Option Res)) := [(14, fTimes), (31, fEqualB b)]
theorem shF_ok (b : Bool) : ∀ p ∈ shF b, FnOk Tryd.prog gl p.1 p.2 := by
  intro p hp
  simp only [shF, List.mem_cons, List.not_mem_nil, or_false] at hp
  rcases hp with rfl | rfl
  · exact times_ok
  · exact equalB_ok b

theorem shared_run1 (k u : List Int) : plainRun (mk (shF true)) Tryd.f16 100 [.agg .u8 (tab 32 k), .agg .u8 (tab 32 u)] =
    some (.pair (.agg .u8 zeroL) (.int .i64 20), [decide (num (bytesOf 32 (tV (tab 32 k) (tab 32 u))) % p25 = num zeroL % p25) = true]) := by kernel_rfl
theorem shared_run0 (k u : List Int) : plainRun (mk (shF false)) Tryd.f16 100 [.agg .u8 (tab 32 k), .agg .u8 (tab 32 u)] =
    some (.pair (.agg .u8 (bytesOf 32 (tV (tab 32 k) (tab 32 u)))) (.int .i64 0), [decide (num (bytesOf 32 (tV (tab 32 k) (tab 32 u))) % p25 = num zeroL % p25) = false]) := by kernel_rfl

def errV (v : Int) : Int := if v = 0 then 20 else 0

def fShared : List A → List Blk → Option Res
  | [.agg k0 k, .agg k2 u], [] => match decide (k0 = .u8) && decide (k2 = .u8) && Nat.beq k.length 32 && Nat.beq u.length 32 with
    | true => some ⟨.pair (.agg .u8 (bytesOf 32 (tV k u))) (.int .i64 (errV (tV k u))), [], none, []⟩
    | false => none
  | _, _ => none

theorem tV_dec (k u : List Int) : decide (num (bytesOf 32 (tV k u)) % p25 = num zeroL % p25) = decide (tV k u = 0) := by
  unfold tV
  rw [num_lad, lad_range, num_zeroL, Int.zero_emod]

theorem bytes_zero32 : bytesOf 32 0 = zeroL := by decide

theorem shared_ok : FnOk Tryd.prog gl 16 fShared := by
  refine fnOk_plainH Tryd.func16 (by kernel_rfl) rfl (fun args mem r hr _ => ?_)
  unfold fShared at hr
  split at hr
  · rename_i k0 k k2 u
    split at hr
    · rename_i hc
      simp only [Bool.and_eq_true] at hc
      have e0 := of_decide_eq_true hc.1.1.1
      have e1 := of_decide_eq_true hc.1.1.2
      have hk := Nat.eq_of_beq_eq_true hc.1.2
      have hu := Nat.eq_of_beq_eq_true hc.2
      subst e0; subst e1
      simp only [Option.some.injEq] at hr
      subst hr
      refine ⟨rfl, rfl, rfl, beq_le (by kernel_rfl), fun _ => ?_⟩
      by_cases hz : tV k u = 0
      · have run := shared_run1 k u
        rw [tab_eq 32 k hk, tab_eq 32 u hu, tV_dec, decide_eq_true hz] at run
        refine ⟨fun _ => none, shF true, 100, [true = true], shF_ok true, ?_, Holds.one rfl⟩
        rw [run, hz, bytes_zero32]
        rfl
      · have run := shared_run0 k u
        rw [tab_eq 32 k hk, tab_eq 32 u hu, tV_dec, decide_eq_false hz] at run
        refine ⟨fun _ => none, shF false, 100, [false = false], shF_ok false, ?_, Holds.one rfl⟩
        rw [run]
        unfold errV
        rw [if_neg hz]
    · cases hr
  · cases hr

/-! ### Keys out of their digits -/

def hex1 : ByteArray := ⟨#[97, 53, 52, 54, 101, 51, 54, 98, 102, 48, 53, 50, 55, 99, 57, 100, 51, 98, 49, 54, 49, 53, 52, 98, 56, 50, 52, 54, 53, 101, 100, 100, 54, 50, 49, 52, 52, 99, 48, 97, 99, 49, 102, 99, 53, 97, 49, 56, 53, 48, 54, 97, 50, 50, 52, 52, 98, 97, 52, 52, 57, 97, 99, 52]⟩
def hex2 : ByteArray := ⟨#[101, 54, 100, 98, 54, 56, 54, 55, 53, 56, 51, 48, 51, 48, 100, 98, 51, 53, 57, 52, 99, 49, 97, 52, 50, 52, 98, 49, 53, 102, 55, 99, 55, 50, 54, 54, 50, 52, 101, 99, 50, 54, 98, 51, 51, 53, 51, 98, 49, 48, 97, 57, 48, 51, 97, 54, 100, 48, 97, 98, 49, 99, 52, 99]⟩
def hex3 : ByteArray := ⟨#[99, 51, 100, 97, 53, 53, 51, 55, 57, 100, 101, 57, 99, 54, 57, 48, 56, 101, 57, 52, 101, 97, 52, 100, 102, 50, 56, 100, 48, 56, 52, 102, 51, 50, 101, 99, 99, 102, 48, 51, 52, 57, 49, 99, 55, 49, 102, 55, 53, 52, 98, 52, 48, 55, 53, 53, 55, 55, 97, 50, 56, 53, 53, 50]⟩
def key1 : List Int := [165, 70, 227, 107, 240, 82, 124, 157, 59, 22, 21, 75, 130, 70, 94, 221, 98, 20, 76, 10, 193, 252, 90, 24, 80, 106, 34, 68, 186, 68, 154, 196]
def key2 : List Int := [230, 219, 104, 103, 88, 48, 48, 219, 53, 148, 193, 164, 36, 177, 95, 124, 114, 102, 36, 236, 38, 179, 53, 59, 16, 169, 3, 166, 208, 171, 28, 76]
def key3 : List Int := [195, 218, 85, 55, 157, 233, 198, 144, 142, 148, 234, 77, 242, 141, 8, 79, 50, 236, 207, 3, 73, 28, 113, 247, 84, 180, 7, 85, 119, 162, 133, 82]

theorem key_run1 : plainRun (mk []) Tryd.f20 2000 [.str hex1] = some (.agg .u8 key1, []) := by kernel_rfl
theorem key_run2 : plainRun (mk []) Tryd.f20 2000 [.str hex2] = some (.agg .u8 key2, []) := by kernel_rfl
theorem key_run3 : plainRun (mk []) Tryd.f20 2000 [.str hex3] = some (.agg .u8 key3, []) := by kernel_rfl

def fKey : List A → List Blk → Option Res
  | [.str s], [] => match decide (s.data.toList = hex1.data.toList), decide (s.data.toList = hex2.data.toList), decide (s.data.toList = hex3.data.toList) with
    | true, _, _ => some ⟨.agg .u8 key1, [], none, []⟩
    | false, true, _ => some ⟨.agg .u8 key2, [], none, []⟩
    | false, false, true => some ⟨.agg .u8 key3, [], none, []⟩
    | false, false, false => none
  | _, _ => none

theorem ba_eq {s t : ByteArray} (h : decide (s.data.toList = t.data.toList) = true) : s = t := by
  have := Array.toList_inj.1 (of_decide_eq_true h)
  cases s
  cases t
  simp only at this
  rw [this]

theorem key_ok : FnOk Tryd.prog gl 20 fKey := by
  refine fnOk_plain (C := mk []) (mk_ok (by simp)) Tryd.func20 (by kernel_rfl) rfl (fun args mem r hr _ => ?_)
  unfold fKey at hr
  split at hr
  · rename_i s
    split at hr
    · rename_i h1
      simp only [Option.some.injEq] at hr
      subst hr
      exact ⟨rfl, rfl, rfl, beq_le (by kernel_rfl), fun _ => ⟨2000, [], by rw [ba_eq h1]; exact key_run1, Holds.nil⟩⟩
    · rename_i h1
      simp only [Option.some.injEq] at hr
      subst hr
      exact ⟨rfl, rfl, rfl, beq_le (by kernel_rfl), fun _ => ⟨2000, [], by rw [ba_eq h1]; exact key_run2, Holds.nil⟩⟩
    · rename_i h1
      simp only [Option.some.injEq] at hr
      subst hr
      exact ⟨rfl, rfl, rfl, beq_le (by kernel_rfl), fun _ => ⟨2000, [], by rw [ba_eq h1]; exact key_run3, Holds.nil⟩⟩
    · cases hr
  · cases hr

noncomputable abbrev ladF : List (FuncId × (List A → List Blk → Option Res)) :=
  [(20, fKey), (12, fTrim), (13, fTrim), (14, fTimes), (15, fTimes), (16, fShared), (17, fCanon)]
theorem ladF_ok : ∀ p ∈ ladF, FnOk Tryd.prog gl p.1 p.2 := by
  intro p hp
  simp only [ladF, List.mem_cons, List.not_mem_nil, or_false] at hp
  rcases hp with rfl | rfl | rfl | rfl | rfl | rfl | rfl
  · exact key_ok
  · exact trim_ok
  · exact rtrim_ok
  · exact times_ok
  · exact rtimes_ok
  · exact shared_ok
  · exact rcanon_ok

theorem shown_run : plainRun (mkh (fun _ => some true) ladF) Tryd.f11 600 [] =
    some (.bool true, [decide (bytesOf 32 (tV key1 key2) = key3) = true, (errV (tV oneL zeroL) == 20) = true, (errV (tV oneL oneL) == 20) = true]) := by kernel_rfl

theorem shown_1 : decide (bytesOf 32 (tV key1 key2) = key3) = true := by decide +kernel
theorem shown_2 : (errV (tV oneL zeroL) == 20) = true := by decide +kernel
theorem shown_3 : (errV (tV oneL oneL) == 20) = true := by decide +kernel

theorem shown_ok : FnOk Tryd.prog gl 11 (FC (.bool true)) :=
  fnOk_FC (C := mkh (fun _ => some true) ladF) (mkh_ok ladF_ok) Tryd.func11 (by kernel_rfl) rfl shown_run (hcons shown_1 (holds2 shown_2 shown_3))

noncomputable abbrev lawF : List (FuncId × (List A → List Blk → Option Res)) := (11, FC (.bool true)) :: ladF
theorem lawF_ok : ∀ p ∈ lawF, FnOk Tryd.prog gl p.1 p.2 := by
  intro p hp
  rcases List.mem_cons.1 hp with rfl | hp
  · exact shown_ok
  · exact ladF_ok p hp

end Go.Proofs.YtechbdggjfahhaaDoor.Sx
