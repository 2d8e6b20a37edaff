/-
  A tag by pieces: poly's Sum.
-/
import Derived.Test.YtbdmahidobjaoaaDoorClampTrims
import Derived.Test.YtbdmahidobjaoaaDoorSxTail
namespace Go.Proofs.YtbdmahidobjaoaaDoor.Sx
open Go
set_option maxRecDepth 100000

/-! ### The law -/

/-- One piece more. -/
def stepP (r a : Int) (x : List Int) : Int := ((a + num (blk x)) % q130 * r) % q130

def polyGo (r : Int) : Nat → List Int → Int → Int
  | 0, _, a => a
  | _ + 1, [], a => a
  | n + 1, y :: x, a => polyGo r n ((y :: x).drop 16) (stepP r a ((y :: x).take 16))

theorem polyGo_enough (r : Int) : ∀ (n m : Nat) (x : List Int) (a : Int), x.length ≤ n → x.length ≤ m → polyGo r n x a = polyGo r m x a
  | 0, 0, _, _, _, _ => rfl
  | 0, m + 1, x, a, h, _ => by
    have : x = [] := List.length_eq_zero_iff.1 (by omega)
    subst this; rfl
  | n + 1, 0, x, a, _, h => by
    have : x = [] := List.length_eq_zero_iff.1 (by omega)
    subst this; rfl
  | n + 1, m + 1, [], a, _, _ => rfl
  | n + 1, m + 1, y :: x, a, h, h' => by
    unfold polyGo
    simp only [List.length_cons] at h h'
    exact polyGo_enough r n m _ _ (by rw [List.length_drop, List.length_cons]; omega) (by rw [List.length_drop, List.length_cons]; omega)

def polyV (r : Int) (x : List Int) (a : Int) : Int := polyGo r x.length x a

theorem polyV_nil (r a : Int) : polyV r [] a = a := rfl

theorem polyV_step (r : Int) (x : List Int) (a : Int) (h : 1 ≤ x.length) : polyV r x a = polyV r (x.drop 16) (stepP r a (x.take 16)) := by
  match x, h with
  | y :: x, _ =>
    unfold polyV
    show polyGo r x.length ((y :: x).drop 16) (stepP r a ((y :: x).take 16)) = polyGo r ((y :: x).drop 16).length ((y :: x).drop 16) (stepP r a ((y :: x).take 16))
    exact polyGo_enough r x.length _ ((y :: x).drop 16) _ (by rw [List.length_drop, List.length_cons]; omega) (Nat.le_refl _)

theorem stepP_range (r a : Int) (x : List Int) : 0 ≤ stepP r a x ∧ stepP r a x < q130 := mod130 _

/-- A text's tag. -/
def sumP (l x : List Int) : List Int := bytesOf 16 (polyV (num (trimL (l.take 16))) x 0 % q130 + num (l.drop 16))

/-! ### The pieces of the body -/

noncomputable abbrev polyF : List (FuncId × (List A → List Blk → Option Res)) :=
  [(20, fTrim), (21, FSo blkA), (30, fAdd), (26, fMul), (28, fLow)]
theorem polyF_ok : ∀ p ∈ polyF, FnOk Tryd.prog gl p.1 p.2 := by
  intro p hp
  simp only [polyF, List.mem_cons, List.not_mem_nil, or_false] at hp
  rcases hp with rfl | rfl | rfl | rfl | rfl
  · exact trim_ok
  · exact blockO_ok
  · exact add_ok
  · exact mul_ok
  · exact low_ok

def hintP (b : Bool) (t : Tmp) : Option Bool :=
  match t with
  | 20 => some b
  | 27 => some true
  | 38 => some true
  | _ => none

noncomputable abbrev pC (b : Bool) : Ctx := mkh (hintP b) polyF
theorem pC_ok (b : Bool) : (pC b).Ok := mkh_ok polyF_ok

noncomputable def bodyS : Code := (Tryd.f33.body).getD .skip
noncomputable def loopS : Code := loopC (blkC (seqL (post 4 bodyS)))
noncomputable def endS : Code := seqR (post 4 bodyS)
theorem bodyS_eq : Tryd.f33.body = some bodyS := by kernel_rfl
theorem postS_eq : post 4 bodyS = .seq (.block 0 (.loop loopS)) endS := by kernel_rfl

def gl0' : Blk := ⟨.u64, 0, [18446744073709551611, 18446744073709551615, 3], false⟩

def tmS (off len : Nat) : List A := [.any, .slc 1 off len len, .ptr 2 0, .any, .ptr 3 0, .any, .ptr 5 0, .ptr 6 0] ++ List.replicate 36 .any
def hpS (b : Blk) (K B : List Int) (a : Int) : Hp := [(0, gl0'), (1, b), (2, ⟨.u8, 41, tab 32 K, true⟩), (3, ⟨.u8, 23, List.replicate 16 0, true⟩), (5, ⟨.u8, 28, tab 17 B, true⟩), (6, ⟨.u8, 28, bytesOf 17 a, true⟩)]

/-- By what is multiplied. -/
def byL (l : List Int) : List Int := trimL (l.take 16) ++ [0]

theorem preS_run (b : Blk) (n : Nat) (k0 k1 k2 k3 k4 k5 k6 k7 k8 k9 k10 k11 k12 k13 k14 k15 k16 k17 k18 k19 k20 k21 k22 k23 k24 k25 k26 k27 k28 k29 k30 k31 : Int) : execF (pC true) 100 (pre 4 bodyS) 2 [1, 2, 4, 6, 7] [0, 1, 2, 3, 5, 6] (s0 (pC true) 44 [.agg .u8 [k0, k1, k2, k3, k4, k5, k6, k7, k8, k9, k10, k11, k12, k13, k14, k15, k16, k17, k18, k19, k20, k21, k22, k23, k24, k25, k26, k27, k28, k29, k30, k31], .slc 1 0 n n] [b]) =
    some (.normal, ⟨tmS 0 n, hpS b [k0, k1, k2, k3, k4, k5, k6, k7, k8, k9, k10, k11, k12, k13, k14, k15, k16, k17, k18, k19, k20, k21, k22, k23, k24, k25, k26, k27, k28, k29, k30, k31] (byL [k0, k1, k2, k3, k4, k5, k6, k7, k8, k9, k10, k11, k12, k13, k14, k15, k16, k17, k18, k19, k20, k21, k22, k23, k24, k25, k26, k27, k28, k29, k30, k31]) 0, []⟩) := by kernel_rfl

/-- How long the next piece is. -/
def pieceL (len : Nat) : Int := if (len : Int) < 16 then (len : Int) else 16

theorem roundS_run (t : TypeId) (x K B : List Int) (off len : Nat) (a : Int) : execF (pC true) 100 loopS 2 [1, 2, 4, 6, 7] [0, 1, 2, 3, 5, 6] ⟨tmS off len, hpS ⟨.u8, t, x, false⟩ K B a, []⟩ =
    some (.normal, ⟨tmS (off + (pieceL len).toNat * 1) (len - (pieceL len).toNat), hpS ⟨.u8, t, x, false⟩ K B (num (bytesOf 17 ((num (bytesOf 17 a) + num (tab 17 (blk (sub x off (pieceL len).toNat)))) % q130)) * num (tab 17 B) % q130),
      [decide ((len : Int) > 0) = true, 0 ≤ (0 : Int) ∧ (0 : Int) ≤ pieceL len ∧ pieceL len ≤ (len : Int), off + (pieceL len).toNat ≤ x.length ∧ 1 ≤ (pieceL len).toNat, 0 ≤ pieceL len ∧ pieceL len ≤ (len : Int) ∧ (len : Int) ≤ (len : Int)]⟩) := by kernel_rfl

theorem stopS_run (b : Blk) (K B : List Int) (off len : Nat) (a : Int) : execF (pC false) 100 loopS 2 [1, 2, 4, 6, 7] [0, 1, 2, 3, 5, 6] ⟨tmS off len, hpS b K B a, []⟩ =
    some (.exit 0, ⟨tmS off len, hpS b K B a, [decide ((len : Int) > 0) = false]⟩) := by kernel_rfl

theorem endS_run (b : Blk) (K B : List Int) (off len : Nat) (a : Int) : endRes (pC true) Tryd.f33 100 endS ⟨tmS off len, hpS b K B a, []⟩ [b] =
    some ⟨.agg .u8 (bytesOf 16 (num (bytesOf 17 a) % q130 + num ((tab 32 K).drop 16))), [some b], none, []⟩ := by kernel_rfl

theorem nilS_run (k0 k1 k2 k3 k4 k5 k6 k7 k8 k9 k10 k11 k12 k13 k14 k15 k16 k17 k18 k19 k20 k21 k22 k23 k24 k25 k26 k27 k28 k29 k30 k31 : Int) : callRes (mkh (fun _ => none) polyF) Tryd.f33 300 [.agg .u8 [k0, k1, k2, k3, k4, k5, k6, k7, k8, k9, k10, k11, k12, k13, k14, k15, k16, k17, k18, k19, k20, k21, k22, k23, k24, k25, k26, k27, k28, k29, k30, k31], .slc 0 0 0 0] [] =
    some ⟨.agg .u8 (bytesOf 16 (num (bytesOf 17 0) % q130 + num ([k0, k1, k2, k3, k4, k5, k6, k7, k8, k9, k10, k11, k12, k13, k14, k15, k16, k17, k18, k19, k20, k21, k22, k23, k24, k25, k26, k27, k28, k29, k30, k31].drop 16))), [], none, []⟩ := by kernel_rfl

/-! ### The pieces joined -/

def FinS (b : Blk) (r : Res) : Ex → St → Prop := fun ex s' => (ex = .normal ∨ ex = .ret) ∧ ∃ v, resA (pC true) s' Tryd.f33.results.toList = some v ∧ Ends (pC true) [b] s' v r

def muS (s : St) : Nat :=
  match tmOf s 1 with
  | .slc _ _ len _ => len
  | _ => 0

theorem muS_tm (off len : Nat) (h : Hp) (ob : List Prop) : muS ⟨tmS off len, h, ob⟩ = len := rfl

theorem num_bytes17 (a : Int) (h : 0 ≤ a ∧ a < q130) : num (bytesOf 17 a) = a := by
  rw [num_bytesOf, show (256 : Int) ^ 17 = 87112285931760246646623899502532662132736 by decide]
  unfold q130 at h
  exact Int.emod_eq_of_lt h.1 (by omega)

theorem pieceL_nat (len : Nat) : (pieceL len).toNat = min len 16 := by
  unfold pieceL
  split <;> omega

theorem pieceL_range (len : Nat) : 0 ≤ pieceL len ∧ pieceL len ≤ (len : Int) := by
  unfold pieceL
  split <;> omega

theorem holds_l (ps : List Prop) (h : ∀ p ∈ ps, p) : Holds ps := h

theorem tri_loopS (t : TypeId) (x K B : List Int) (hB : B.length = 17) : Tri (pC true) 2 (.block 0 (.loop loopS)) ⟨tmS 0 x.length, hpS ⟨.u8, t, x, false⟩ K B 0, []⟩
    (fun ex s => ex = .normal ∧ ∃ off len, s.tm = tmS off len ∧ s.h = hpS ⟨.u8, t, x, false⟩ K B (polyV (num B) x 0) ∧ 0 ≤ polyV (num B) x 0 ∧ polyV (num B) x 0 < q130) := by
  refine tri_block (tri_loop (fun s => ∃ off len a, s.tm = tmS off len ∧ s.h = hpS ⟨.u8, t, x, false⟩ K B a ∧ off + len = x.length ∧ (0 ≤ a ∧ a < q130) ∧ polyV (num B) (x.drop off) a = polyV (num B) x 0) muS ⟨0, x.length, 0, rfl, rfl, Nat.zero_add _, by decide, by rw [List.drop_zero]⟩ (fun s hs => ?_))
  obtain ⟨tm, hp, ob⟩ := s
  obtain ⟨off, len, a, rfl, rfl, hlen, ha, hv⟩ := hs
  rcases Nat.eq_zero_or_pos len with h0 | h0
  · subst h0
    refine tri_ob (tri_ctx (tri_execF (pC_ok false) (show 1 ≤ 2 by decide) 100 _ _ (stopS_run _ K B off 0 a) (Holds.one (decide_eq_false (by omega))) ?_))
    have e : x.drop off = [] := List.drop_eq_nil_of_le (by omega)
    rw [e, polyV_nil] at hv
    subst hv
    exact ⟨rfl, off, 0, rfl, rfl, ha.1, ha.2⟩
  · have hr := roundS_run t x K B off len a
    have hn := pieceL_nat len
    have hp := pieceL_range len
    have hs : sub x off (pieceL len).toNat = (x.drop off).take 16 := by
      rw [sub_eq, hn]
      rcases Nat.le_total len 16 with h16 | h16
      · rw [Nat.min_eq_left h16, List.take_of_length_le (by rw [List.length_drop]; omega), List.take_of_length_le (by rw [List.length_drop]; omega)]
      · rw [Nat.min_eq_right h16]
    rw [num_bytes17 a ha, num_q, tab_eq 17 B hB, tab_eq 17 _ (blk_length _), hs, Nat.mul_one] at hr
    refine tri_ob (tri_execF (pC_ok true) (show 1 ≤ 2 by decide) 100 _ _ hr ?_ ⟨⟨off + (pieceL len).toNat, len - (pieceL len).toNat, _, rfl, ?_, by omega, stepP_range (num B) a ((x.drop off).take 16), ?_⟩, ?_⟩)
    · refine holds_l _ (fun p hp' => ?_)
      simp only [List.mem_cons, List.not_mem_nil, or_false] at hp'
      rcases hp' with rfl | rfl | rfl | rfl
      · exact decide_eq_true (by omega)
      · exact ⟨Int.le_refl _, hp⟩
      · exact ⟨by omega, by omega⟩
      · exact ⟨hp.1, hp.2, Int.le_refl _⟩
    · unfold stepP
      rfl
    · rw [← hv, polyV_step (num B) (x.drop off) a (by rw [List.length_drop]; omega), List.drop_drop]
      rcases Nat.le_total 16 len with h16 | h16
      · rw [hn, Nat.min_eq_right h16]
      · rw [List.drop_eq_nil_of_le (show x.length ≤ off + (pieceL len).toNat by omega), List.drop_eq_nil_of_le (show x.length ≤ off + 16 by omega)]
    · rw [muS_tm, muS_tm]
      omega

theorem list32 {l : List Int} (h : l.length = 32) : ∃ k0 k1 k2 k3 k4 k5 k6 k7 k8 k9 k10 k11 k12 k13 k14 k15 k16 k17 k18 k19 k20 k21 k22 k23 k24 k25 k26 k27 k28 k29 k30 k31, l = [k0, k1, k2, k3, k4, k5, k6, k7, k8, k9, k10, k11, k12, k13, k14, k15, k16, k17, k18, k19, k20, k21, k22, k23, k24, k25, k26, k27, k28, k29, k30, k31] := by
  match l, h with
  | [k0, k1, k2, k3, k4, k5, k6, k7, k8, k9, k10, k11, k12, k13, k14, k15, k16, k17, k18, k19, k20, k21, k22, k23, k24, k25, k26, k27, k28, k29, k30, k31], _ => exact ⟨k0, k1, k2, k3, k4, k5, k6, k7, k8, k9, k10, k11, k12, k13, k14, k15, k16, k17, k18, k19, k20, k21, k22, k23, k24, k25, k26, k27, k28, k29, k30, k31, rfl⟩

/-- The contract: a key and a text; a text that is the whole of its block. -/
def fSum0 : List A → List Blk → Option Res
  | [.agg k l, .slc i 0 n c], [b] => match decide (k = .u8) && Nat.beq l.length 32 && Nat.beq i 1 && decide (b.k = .u8) && Nat.beq n b.l.length && Nat.beq c n && !b.rw with
    | true => some ⟨.agg .u8 (sumP l b.l), [none], none, []⟩
    | false => none
  | _, _ => none

theorem sum0_ok : FnOk Tryd.prog gl 33 fSum0 := by
  refine fnOk_of_tri (C := pC true) Tryd.func33 (by kernel_rfl) bodyS_eq (fun args mem r hr _ => ?_)
  unfold fSum0 at hr
  split at hr
  · rename_i k l i n c b
    split at hr
    · rename_i hc
      simp only [Option.some.injEq] at hr
      subst hr
      simp only [Bool.and_eq_true] at hc
      obtain ⟨⟨⟨⟨⟨⟨hk, hl⟩, hi⟩, hbk⟩, hn⟩, hcn⟩, hrw⟩ := hc
      have hk' := of_decide_eq_true hk
      have hl' := Nat.eq_of_beq_eq_true hl
      have hi' := Nat.eq_of_beq_eq_true hi
      have hn' := Nat.eq_of_beq_eq_true hn
      have hc' := Nat.eq_of_beq_eq_true hcn
      have hbk' := of_decide_eq_true hbk
      obtain ⟨kb, t, x, rw⟩ := b
      simp only at hbk' hn' hrw
      subst hk' hi' hc' hn' hbk'
      have hrw' : rw = false := by cases rw <;> simp_all
      subst hrw'
      refine ⟨beq_le (by kernel_rfl), fun j b hj => ?_, fun b hb => (by cases hb), fun _ _ => ?_⟩
      · match j, hj with
        | 0, hj => simp at hj
        | j + 1, hj => simp at hj
      obtain ⟨k0, k1, k2, k3, k4, k5, k6, k7, k8, k9, k10, k11, k12, k13, k14, k15, k16, k17, k18, k19, k20, k21, k22, k23, k24, k25, k26, k27, k28, k29, k30, k31, rfl⟩ := list32 hl'
      refine (tri_preF (pC_ok true) (Nat.le_add_right _ _) 100 4 _ _ _ [1, 2, 4, 6, 7] [0, 1, 2, 3, 5, 6] (preS_run ⟨.u8, t, x, false⟩ x.length k0 k1 k2 k3 k4 k5 k6 k7 k8 k9 k10 k11 k12 k13 k14 k15 k16 k17 k18 k19 k20 k21 k22 k23 k24 k25 k26 k27 k28 k29 k30 k31) Holds.nil ?_)
      rw [postS_eq]
      refine (tri_seq (tri_loopS t x [k0, k1, k2, k3, k4, k5, k6, k7, k8, k9, k10, k11, k12, k13, k14, k15, k16, k17, k18, k19, k20, k21, k22, k23, k24, k25, k26, k27, k28, k29, k30, k31] (byL [k0, k1, k2, k3, k4, k5, k6, k7, k8, k9, k10, k11, k12, k13, k14, k15, k16, k17, k18, k19, k20, k21, k22, k23, k24, k25, k26, k27, k28, k29, k30, k31]) rfl) (fun s1 h1 => ?_) (fun ex s1 hne h1 => absurd h1.1 hne))
      obtain ⟨_, off, len, e1, e2, e3, e4⟩ := h1
      obtain ⟨tm, hp, ob⟩ := s1
      subst e1 e2
      refine tri_ob (tri_end (pC_ok true) (endS_run ⟨.u8, t, x, false⟩ [k0, k1, k2, k3, k4, k5, k6, k7, k8, k9, k10, k11, k12, k13, k14, k15, k16, k17, k18, k19, k20, k21, k22, k23, k24, k25, k26, k27, k28, k29, k30, k31] (byL [k0, k1, k2, k3, k4, k5, k6, k7, k8, k9, k10, k11, k12, k13, k14, k15, k16, k17, k18, k19, k20, k21, k22, k23, k24, k25, k26, k27, k28, k29, k30, k31]) off len _) Holds.nil ⟨?_, rfl, fun j hj => ?_⟩)
      · rw [num_bytes17 _ ⟨e3, e4⟩, tab_eq 32 _ rfl]
        have eb : num (byL [k0, k1, k2, k3, k4, k5, k6, k7, k8, k9, k10, k11, k12, k13, k14, k15, k16, k17, k18, k19, k20, k21, k22, k23, k24, k25, k26, k27, k28, k29, k30, k31]) = num (trimL ([k0, k1, k2, k3, k4, k5, k6, k7, k8, k9, k10, k11, k12, k13, k14, k15, k16, k17, k18, k19, k20, k21, k22, k23, k24, k25, k26, k27, k28, k29, k30, k31].take 16)) := by
          unfold byL
          rw [num_append]
          simp [num]
        rw [eb]
        rfl
      · match j, hj with
        | 0, hj => rfl
        | j + 1, hj => simp at hj
    · cases hr
  · cases hr

/-- No bytes. -/
def fSumN : List A → List Blk → Option Res
  | [.agg k l, .slc 0 0 0 0], [] => match decide (k = .u8) && Nat.beq l.length 32 with
    | true => some ⟨.agg .u8 (sumP l []), [], none, []⟩
    | false => none
  | _, _ => none

theorem sumN_ok : FnOk Tryd.prog gl 33 fSumN := by
  refine fnOk_run (C := mkh (fun _ => none) polyF) (mkh_ok polyF_ok) Tryd.func33 (by kernel_rfl) bodyS_eq (fun args mem r hr _ => ?_)
  unfold fSumN at hr
  split at hr
  · rename_i k l
    split at hr
    · rename_i hc
      simp only [Option.some.injEq] at hr
      subst hr
      simp only [Bool.and_eq_true] at hc
      have hk' := of_decide_eq_true hc.1
      have hl' := Nat.eq_of_beq_eq_true hc.2
      subst hk'
      refine ⟨beq_le (by kernel_rfl), fun j b hj => (by simp at hj), fun b hb => (by cases hb), fun _ _ => ?_⟩
      obtain ⟨k0, k1, k2, k3, k4, k5, k6, k7, k8, k9, k10, k11, k12, k13, k14, k15, k16, k17, k18, k19, k20, k21, k22, k23, k24, k25, k26, k27, k28, k29, k30, k31, rfl⟩ := list32 hl'
      refine ⟨300, _, nilS_run k0 k1 k2 k3 k4 k5 k6 k7 k8 k9 k10 k11 k12 k13 k14 k15 k16 k17 k18 k19 k20 k21 k22 k23 k24 k25 k26 k27 k28 k29 k30 k31, Holds.nil, ⟨?_, rfl, fun j hj => (by simp at hj)⟩⟩
      have z : num (bytesOf 17 0) = 0 := by decide
      simp only [sumP, polyV_nil, z]
    · cases hr
  · cases hr

end Go.Proofs.YtbdmahidobjaoaaDoor.Sx
