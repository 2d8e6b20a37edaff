/-
  poly's Same: what it answers.
-/
import Derived.Test.YtbdmahidobjaoaaDoorClampTrims
import Derived.Test.YtbdmahidobjaoaaDoorU8Tab
namespace Go.Proofs.YtbdmahidobjaoaaDoor.Sx
open Go
set_option maxRecDepth 100000

def sameR : Int → List Int → List Int → Int
  | d, x :: xs, y :: ys => sameR (bits .or .u8 d (bits .xor .u8 x y)) xs ys
  | d, _, _ => d

theorem same_run (l m : List Int) (h : l.length = 16) (h' : m.length = 16) : plainRun (mk []) Tryd.f35 600 [.agg .u8 l, .agg .u8 m] = some (.bool (sameR 0 l m == 0), []) := by
  obtain ⟨a0, a1, a2, a3, a4, a5, a6, a7, a8, a9, a10, a11, a12, a13, a14, a15, rfl⟩ := list16 h
  obtain ⟨b0, b1, b2, b3, b4, b5, b6, b7, b8, b9, b10, b11, b12, b13, b14, b15, rfl⟩ := list16 h'
  kernel_rfl

theorem xor_zero (x y : Int) (hx : 0 ≤ x ∧ x < 256) (hy : 0 ≤ y ∧ y < 256) : bits .xor .u8 x y = 0 ↔ x = y := by
  have h := xor_nat ⟨x.toNat, by omega⟩ ⟨y.toNat, by omega⟩
  simp only [Int.toNat_of_nonneg hx.1, Int.toNat_of_nonneg hy.1] at h
  constructor
  · intro e
    rw [e] at h
    have := Nat.eq_of_beq_eq_true h.symm
    omega
  · intro e
    subst e
    rw [Nat.beq_refl] at h
    exact eq_of_beq h

theorem or_zero (x y : Int) (hx : 0 ≤ x ∧ x < 256) (hy : 0 ≤ y ∧ y < 256) : bits .or .u8 x y = 0 ↔ x = 0 ∧ y = 0 := by
  have h := or_nat ⟨x.toNat, by omega⟩ ⟨y.toNat, by omega⟩
  simp only [Int.toNat_of_nonneg hx.1, Int.toNat_of_nonneg hy.1] at h
  constructor
  · intro e
    rw [e] at h
    have h2 := h.symm
    simp only [beq_self_eq_true, Bool.and_eq_true] at h2
    have a := Nat.eq_of_beq_eq_true h2.1
    have b := Nat.eq_of_beq_eq_true h2.2
    omega
  · rintro ⟨e1, e2⟩
    subst e1 e2
    exact eq_of_beq h

theorem bits_byte (op : BinOp) (x y : Int) : 0 ≤ bits op .u8 x y ∧ bits op .u8 x y < 256 := wf_u8.1 (by unfold bits; exact wf_wrap' _ _)

theorem sameR_zero : ∀ (l m : List Int) (d : Int), l.length = m.length → (∀ x ∈ l, 0 ≤ x ∧ x < 256) → (∀ x ∈ m, 0 ≤ x ∧ x < 256) → 0 ≤ d ∧ d < 256 → (sameR d l m = 0 ↔ d = 0 ∧ l = m)
  | [], [], d, _, _, _, _ => by simp [sameR]
  | [], y :: m, d, h, _, _, _ => by simp at h
  | x :: l, [], d, h, _, _, _ => by simp at h
  | x :: l, y :: m, d, h, hl, hm, hd => by
    have ih := sameR_zero l m (bits .or .u8 d (bits .xor .u8 x y)) (by simpa using h) (fun z hz => hl z (by simp [hz])) (fun z hz => hm z (by simp [hz])) (bits_byte _ _ _)
    rw [show sameR d (x :: l) (y :: m) = sameR (bits .or .u8 d (bits .xor .u8 x y)) l m from rfl, ih, or_zero d _ hd (bits_byte _ _ _), xor_zero x y (hl x (by simp)) (hm y (by simp)), List.cons.injEq, and_assoc]

/-- Are two tags the same? -/
def fSame : List A → List Blk → Option Res
  | [.agg k l, .agg k' m], [] => match decide (k = .u8) && decide (k' = .u8) && Nat.beq l.length 16 && Nat.beq m.length 16 with
    | true => some ⟨.bool (decide (l = m)), [], none, []⟩
    | false => none
  | _, _ => none

theorem same_ok : FnOk Tryd.prog gl 35 fSame := by
  refine fnOk_plain (C := mk []) (mk_ok (by simp)) Tryd.func35 (by kernel_rfl) rfl (fun args mem r hr _ => ?_)
  unfold fSame at hr
  split at hr
  · rename_i k l k' m
    split at hr
    · rename_i hc
      simp only [Bool.and_eq_true] at hc
      have e0 := of_decide_eq_true hc.1.1.1
      have e1 := of_decide_eq_true hc.1.1.2
      have e2 := Nat.eq_of_beq_eq_true hc.1.2
      have e3 := Nat.eq_of_beq_eq_true hc.2
      subst e0 e1
      simp only [Option.some.injEq] at hr
      subst hr
      refine ⟨rfl, rfl, rfl, beq_le (by kernel_rfl), fun hw => ⟨600, [], ?_, Holds.nil⟩⟩
      have z := sameR_zero l m 0 (e2.trans e3.symm) (fun x hx => wf_u8.1 (hw (.agg .u8 l) (by simp) x hx)) (fun x hx => wf_u8.1 (hw (.agg .u8 m) (by simp) x hx)) (by decide)
      rw [same_run l m e2 e3]
      have e : (sameR 0 l m == 0) = decide (l = m) := by
        by_cases h : l = m
        · rw [z.2 ⟨rfl, h⟩, decide_eq_true h]; rfl
        · rw [decide_eq_false h]
          exact beq_eq_false_iff_ne.2 (fun h0 => h (z.1 h0).2)
      rw [e]
    · cases hr
  · cases hr

end Go.Proofs.YtbdmahidobjaoaaDoor.Sx
