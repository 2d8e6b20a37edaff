/-
  The document's digits.
-/
import Derived.Test.YtbdmahidobjaoaaDoorClampLaws
import Derived.Test.YtbdmahidobjaoaaDoorDigits
namespace Go.Proofs.YtbdmahidobjaoaaDoor.Sx
open Go
set_option maxRecDepth 100000

theorem and1_u8 (x : Int) (h0 : 0 ≤ x) (h1 : x < 256) : bits .and .u8 x 1 = x % 2 := by
  have := bits_mask .u8 8 (by decide) (fun n a b => by rw [u8w]; exact Int.emod_eq_of_lt a (by simpa using b)) 1 (by decide) x h0 (by simpa using h1)
  simpa using this

theorem and1_i64 (x : Int) (h0 : 0 ≤ x) (h1 : x < 9223372036854775808) : bits .and .i64 x 1 = x % 2 := by
  have := bits_mask .i64 63 (by decide) (fun n a b => i64w n (by omega) (by simpa using b)) 1 (by decide) x h0 (by simpa using h1)
  simpa using this

/-- One bit more, as the text reckons it. -/
def digStep (l t : List Int) (i : Nat) : List Int :=
  t.set (i / 26) (IntKind.i64.wrap (t.getD (i / 26) 0 + IntKind.i64.wrap (IntKind.i64.wrap (bits .and .u8 ((l.getD (i / 8) 0).fdiv (2 ^ (i % 8))) 1) * 2 ^ (i % 26))))

def digGo (l : List Int) : Nat → List Int
  | 0 => List.replicate 6 0
  | n + 1 => digStep l (digGo l n) n

theorem digits_run (l : List Int) (h : l.length = 17) : callRes (mk []) Tryd.f42 3000 [.agg .u8 l] [] = some ⟨.slc 1 0 6 6, [], some ⟨.i64, 3, digGo l 136, true⟩, []⟩ := by
  obtain ⟨a0, a1, a2, a3, a4, a5, a6, a7, a8, a9, a10, a11, a12, a13, a14, a15, a16, rfl⟩ := list17 h
  kernel_rfl

theorem digGo_eq (l : List Int) (h : l.length = 17) (hw : ∀ x ∈ l, 0 ≤ x ∧ x < 256) : ∀ n, n ≤ 136 → digGo l n = digsOf 26 6 (num l % 2 ^ n)
  | 0, _ => by
    rw [Int.pow_zero, Int.emod_one]
    show List.replicate 6 (0 : Int) = digsOf 26 6 0
    decide
  | n + 1, hn => by
    unfold digGo
    rw [digGo_eq l h hw n (by omega), ← digsOf_set 26 6 (by decide) (num l) n]
    have hl : l = digsOf 8 17 (num l) := by
      rw [← bytesOf_digs, ← h, bytesOf_num l hw]
    have hget : l.getD (n / 8) 0 = dig 8 (num l) (n / 8) := by
      rw [List.getD]
      conv => lhs; rw [hl]
      rw [digsOf_get 8 17 _ _ (by omega)]
      rfl
    have hr := dig_range 8 (num l) (n / 8)
    rw [show (2 : Int) ^ 8 = 256 by decide] at hr
    have hf : (dig 8 (num l) (n / 8)).fdiv (2 ^ (n % 8)) = dig 8 (num l) (n / 8) / 2 ^ (n % 8) := Int.fdiv_eq_ediv_of_nonneg _ (Int.le_of_lt (pp _))
    have hq0 : 0 ≤ dig 8 (num l) (n / 8) / 2 ^ (n % 8) := Int.ediv_nonneg hr.1 (Int.le_of_lt (pp _))
    have hq1 : dig 8 (num l) (n / 8) / 2 ^ (n % 8) ≤ dig 8 (num l) (n / 8) := Int.ediv_le_self _ hr.1
    have hbit := dig_bit 8 (by decide) (num l) n
    unfold digStep
    rw [hget, hf, and1_u8 _ hq0 (by omega), hbit]
    have hget2 : (digsOf 26 6 (num l % 2 ^ n)).getD (n / 26) 0 = dig 26 (num l % 2 ^ n) (n / 26) := by
      rw [List.getD, digsOf_get 26 6 _ _ (by omega)]
      rfl
    rw [hget2]
    have hd := dig_add 26 (by decide) (num l % 2 ^ n) (num l / 2 ^ n % 2) n (n / 26) (Int.emod_nonneg _ (Int.ne_of_gt (pp _))) (Int.emod_lt_of_pos _ (pp _)) (bit01 _)
    have hlt := hd.2 rfl
    have hd0 := (dig_range 26 (num l % 2 ^ n) (n / 26)).1
    have hp26 : (2 : Int) ^ (n % 26) ≤ 2 ^ 25 := pow_le (by omega)
    rw [show (2 : Int) ^ 25 = 33554432 by decide] at hp26
    have hp := pp (n % 26)
    congr 1
    generalize (2 : Int) ^ (n % 26) = P at *
    generalize dig 26 (num l % 2 ^ n) (n / 26) = D at *
    rcases bit01 (num l / 2 ^ n) with e | e
    · rw [e, i64w 0 (by decide) (by decide), Int.zero_mul, i64w 0 (by decide) (by decide), i64w _ (by omega) (by omega)]
    · rw [e, i64w 1 (by decide) (by decide), Int.one_mul, i64w P (by omega) (by omega), i64w _ (by omega) (by omega)]

def fDigits : List A → List Blk → Option Res
  | [.agg k l], [] => match decide (k = .u8) && Nat.beq l.length 17 with
    | true => some ⟨.slc 1 0 6 6, [], some ⟨.i64, 3, digsOf 26 6 (num l), true⟩, []⟩
    | false => none
  | _, _ => none

theorem digits_ok : FnOk Tryd.prog gl 42 fDigits := by
  refine fnOk_run (C := mk []) (mk_ok (by simp)) Tryd.func42 (by kernel_rfl) rfl (fun args mem r hr _ => ?_)
  unfold fDigits at hr
  split at hr
  · rename_i k l
    split at hr
    · rename_i hc
      simp only [Bool.and_eq_true] at hc
      have e1 := of_decide_eq_true hc.1
      have e2 := Nat.eq_of_beq_eq_true hc.2
      subst e1
      simp only [Option.some.injEq] at hr
      subst hr
      refine ⟨beq_le (by kernel_rfl), fun j b hj => (by simp at hj), fun b hb => ?_, fun hw _ => ⟨3000, _, digits_run l e2, Holds.nil, ⟨rfl, ?_, fun j hj => (by simp at hj)⟩⟩⟩
      · simp only [Option.some.injEq] at hb
        rw [← hb]
      · have hb : ∀ x ∈ l, 0 ≤ x ∧ x < 256 := fun x hx => wf_u8.1 (hw (.agg .u8 l) (by simp) x hx)
        have hr := num_range l hb
        rw [e2] at hr
        have e := digGo_eq l e2 hb 136 (Nat.le_refl _)
        rw [Int.emod_eq_of_lt hr.1 (by rw [show (2 : Int) ^ 136 = 256 ^ 17 by decide]; exact hr.2)] at e
        rw [e]
    · cases hr
  · cases hr

end Go.Proofs.YtbdmahidobjaoaaDoor.Sx
