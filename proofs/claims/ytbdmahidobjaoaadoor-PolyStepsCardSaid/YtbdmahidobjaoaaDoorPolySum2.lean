/-
  The contract of poly's Sum: any key, any text.
-/
import Derived.Test.YtbdmahidobjaoaaDoorPolySum
import Derived.Test.YtbdmahidobjaoaaDoorSxSlice
namespace Go.Proofs.YtbdmahidobjaoaaDoor.Sx
open Go
set_option maxRecDepth 100000

theorem empS_run (k0 k1 k2 k3 k4 k5 k6 k7 k8 k9 k10 k11 k12 k13 k14 k15 k16 k17 k18 k19 k20 k21 k22 k23 k24 k25 k26 k27 k28 k29 k30 k31 : Int) : callRes (mkh (fun _ => none) polyF) Tryd.f33 300 [.agg .u8 [k0, k1, k2, k3, k4, k5, k6, k7, k8, k9, k10, k11, k12, k13, k14, k15, k16, k17, k18, k19, k20, k21, k22, k23, k24, k25, k26, k27, k28, k29, k30, k31], .emp] [] =
    some ⟨.agg .u8 (bytesOf 16 (num (bytesOf 17 0) % q130 + num ([k0, k1, k2, k3, k4, k5, k6, k7, k8, k9, k10, k11, k12, k13, k14, k15, k16, k17, k18, k19, k20, k21, k22, k23, k24, k25, k26, k27, k28, k29, k30, k31].drop 16))), [], none, []⟩ := by kernel_rfl

def fSumE : List A → List Blk → Option Res
  | [.agg k l, .emp], [] => match decide (k = .u8) && Nat.beq l.length 32 with
    | true => some ⟨.agg .u8 (sumP l []), [], none, []⟩
    | false => none
  | _, _ => none

theorem sumE_ok : FnOk Tryd.prog gl 33 fSumE := by
  refine fnOk_run (C := mkh (fun _ => none) polyF) (mkh_ok polyF_ok) Tryd.func33 (by kernel_rfl) bodyS_eq (fun args mem r hr _ => ?_)
  unfold fSumE at hr
  split at hr
  · rename_i k l
    split at hr
    · rename_i hc
      simp only [Option.some.injEq] at hr
      subst hr
      simp only [Bool.and_eq_true] at hc
      have hk' := of_decide_eq_true hc.1
      have hl' := Nat.eq_of_beq_eq_true hc.2
      subst hk'
      refine ⟨beq_le (by kernel_rfl), fun j b hj => (by simp at hj), fun b hb => (by cases hb), fun _ _ => ?_⟩
      obtain ⟨k0, k1, k2, k3, k4, k5, k6, k7, k8, k9, k10, k11, k12, k13, k14, k15, k16, k17, k18, k19, k20, k21, k22, k23, k24, k25, k26, k27, k28, k29, k30, k31, rfl⟩ := list32 hl'
      refine ⟨300, _, empS_run k0 k1 k2 k3 k4 k5 k6 k7 k8 k9 k10 k11 k12 k13 k14 k15 k16 k17 k18 k19 k20 k21 k22 k23 k24 k25 k26 k27 k28 k29 k30 k31, Holds.nil, ⟨?_, rfl, fun j hj => (by simp at hj)⟩⟩
      have z : num (bytesOf 17 0) = 0 := by decide
      simp only [sumP, polyV_nil, z]
    · cases hr
  · cases hr

/-- A key and a text; where the text is a piece of a row, that the piece lies in it is taken for granted. -/
def fSum : List A → List Blk → Option Res
  | [.agg k l, .slc i o n _], [b] => match decide (k = .u8) && Nat.beq l.length 32 && Nat.beq i 1 && decide (b.k = .u8) with
    | true => some ⟨.agg .u8 (sumP l (sub b.l o n)), [none], none, [o + n ≤ b.l.length ∧ 1 ≤ n]⟩
    | false => none
  | [.agg k l, .slc 0 0 0 0], [] => fSumN [.agg k l, .slc 0 0 0 0] []
  | [.agg k l, .emp], [] => fSumE [.agg k l, .emp] []
  | _, _ => none

def fSumB (args : List A) (mem : List Blk) : Option Res :=
  match fSum0 args mem with
  | some r => some r
  | none => match fSumN args mem with
    | some r => some r
    | none => fSumE args mem

theorem sumB_ok : FnOk Tryd.prog gl 33 fSumB := by
  refine ⟨sum0_ok.1, fun args mem r hr hob => ?_⟩
  unfold fSumB at hr
  split at hr
  · rename_i r' h0
    simp only [Option.some.injEq] at hr
    subst hr
    exact sum0_ok.2 _ _ _ h0 hob
  · split at hr
    · rename_i r' h0
      simp only [Option.some.injEq] at hr
      subst hr
      exact sumN_ok.2 _ _ _ h0 hob
    · exact sumE_ok.2 _ _ _ hr hob

theorem sum_ok : FnOk Tryd.prog gl 33 fSum := by
  refine fnOk_narrow sumB_ok (fun args mem r hr hob => ?_)
  unfold fSum at hr
  split at hr
  · rename_i k l i o n c b
    split at hr
    · rename_i hc
      simp only [Option.some.injEq] at hr
      subst hr
      obtain ⟨h1, h2⟩ := hob _ (List.mem_singleton.2 rfl)
      simp only [Bool.and_eq_true] at hc
      obtain ⟨⟨⟨hk, hl⟩, hi⟩, hbk⟩ := hc
      have hi' := Nat.eq_of_beq_eq_true hi
      subst hi'
      have hlen := sub_length h1
      refine Or.inr ⟨[.agg k l], [], o, n, c, b, [], rfl, rfl, by simp [ids], by simp, h1, h2, rfl, rfl, rfl, Holds.nil, ?_⟩
      show fSumB [.agg k l, .slc 1 0 n n] [⟨b.k, b.t, sub b.l o n, false⟩] = _
      have e0 : fSum0 [.agg k l, .slc 1 0 n n] [⟨b.k, b.t, sub b.l o n, false⟩] = some ⟨.agg .u8 (sumP l (sub b.l o n)), [none], none, []⟩ := by
        simp only [fSum0, hlen, nbeq, hk, hl, hbk, Bool.and_self, Bool.not_false]
      unfold fSumB
      rw [e0]
    · cases hr
  · rename_i k l
    left
    unfold fSumB
    rw [show fSum0 [.agg k l, .slc 0 0 0 0] [] = none from rfl, hr]
  · rename_i k l
    left
    unfold fSumB
    rw [show fSum0 [.agg k l, .emp] [] = none from rfl, show fSumN [.agg k l, .emp] [] = none from rfl]
    exact hr
  · cases hr

end Go.Proofs.YtbdmahidobjaoaaDoor.Sx
