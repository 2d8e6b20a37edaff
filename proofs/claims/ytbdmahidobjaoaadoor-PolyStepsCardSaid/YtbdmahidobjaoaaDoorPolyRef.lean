/-
  The document's tag by pieces: its Sum.
-/
import Derived.Test.YtbdmahidobjaoaaDoorPolySum2
import Derived.Test.YtbdmahidobjaoaaDoorClampRef4
namespace Go.Proofs.YtbdmahidobjaoaaDoor.Sx
open Go
set_option maxRecDepth 100000

noncomputable abbrev pRefF : List (FuncId × (List A → List Blk → Option Res)) :=
  [(23, fTrim), (22, FSo blkA), (31, fAdd), (27, fMul), (29, fLow)]
theorem pRefF_ok : ∀ p ∈ pRefF, FnOk Tryd.prog gl p.1 p.2 := by
  intro p hp
  simp only [pRefF, List.mem_cons, List.not_mem_nil, or_false] at hp
  rcases hp with rfl | rfl | rfl | rfl | rfl
  · exact trimRef_ok
  · exact blockRefO_ok
  · exact addRef_ok
  · exact mulRef_ok
  · exact lowRef_ok

def hintF (b : Bool) (t : Tmp) : Option Bool :=
  match t with
  | 47 => some b
  | 58 => some true
  | _ => none

noncomputable abbrev fC (b : Bool) : Ctx := mkh (hintF b) pRefF
theorem fC_ok (b : Bool) : (fC b).Ok := mkh_ok pRefF_ok

noncomputable def bodyF : Code := (Tryd.f34.body).getD .skip
noncomputable def iniF : Code := seqL (seqL (post 8 bodyF))
noncomputable def loopF : Code := loopC (blkC (seqR (seqL (post 8 bodyF))))
noncomputable def endF : Code := seqR (post 8 bodyF)
theorem bodyF_eq : Tryd.f34.body = some bodyF := by kernel_rfl
theorem postF_eq : post 8 bodyF = .seq (.seq iniF (.block 4 (.loop loopF))) endF := by kernel_rfl

def tmFv (n : Nat) (v : A) : List A := [.any, .slc 1 0 n n, .any, .any, .ptr 3 0, .any, .ptr 5 0, .any, .ptr 6 0, .any, .ptr 7 0, v] ++ List.replicate 58 .any
def tmF (n : Nat) (i : Int) : List A := tmFv n (.int .i64 i)
def hpF (b : Blk) (S B : List Int) (a : Int) : Hp := [(0, gl0'), (1, b), (3, ⟨.u8, 23, List.replicate 16 0, true⟩), (5, ⟨.u8, 23, tab 16 S, true⟩), (6, ⟨.u8, 28, tab 17 B, true⟩), (7, ⟨.u8, 28, bytesOf 17 a, true⟩)]

theorem preF_run (b : Blk) (n : Nat) (l : List Int) : execF (fC true) 400 (pre 8 bodyF) 2 [1, 4, 6, 8, 10] [0, 1, 3, 5, 6, 7] (s0 (fC true) 70 [.agg .u8 (tab 32 l), .slc 1 0 n n] [b]) =
    some (.normal, ⟨tmFv n .any, hpF b ((tab 32 l).drop 16) (byL (tab 32 l)) 0, []⟩) := by kernel_rfl

theorem iniF_run (b : Blk) (n : Nat) (S B : List Int) (a : Int) : execF (fC true) 100 iniF 2 [1, 4, 6, 8, 10, 11] [0, 1, 3, 5, 6, 7] ⟨tmFv n .any, hpF b S B a, []⟩ =
    some (.normal, ⟨tmF n 0, hpF b S B a, []⟩) := by kernel_rfl

/-- Where the next piece ends. -/
def hiF (n : Nat) (i : Int) : Int := if (n : Int) < WI (i + 16) then (n : Int) else WI (i + 16)

theorem roundF_run (t : TypeId) (x S B : List Int) (n : Nat) (i a : Int) : execF (fC true) 100 loopF 2 [1, 4, 6, 8, 10, 11] [0, 1, 3, 5, 6, 7] ⟨tmF n i, hpF ⟨.u8, t, x, false⟩ S B a, []⟩ =
    some (.normal, ⟨tmF n (WI (i + 16)), hpF ⟨.u8, t, x, false⟩ S B (num (bytesOf 17 ((num (bytesOf 17 a) + num (tab 17 (blk (sub x (0 + i.toNat * 1) ((hiF n i).toNat - i.toNat))))) % q130)) * num (tab 17 B) % q130),
      [decide (i < (n : Int)) = true, 0 ≤ i ∧ i ≤ hiF n i ∧ hiF n i ≤ (n : Int), 0 + i.toNat * 1 + ((hiF n i).toNat - i.toNat) ≤ x.length ∧ 1 ≤ (hiF n i).toNat - i.toNat]⟩) := by kernel_rfl

theorem stopF_run (b : Blk) (n : Nat) (S B : List Int) (i a : Int) : execF (fC false) 100 loopF 2 [1, 4, 6, 8, 10, 11] [0, 1, 3, 5, 6, 7] ⟨tmF n i, hpF b S B a, []⟩ =
    some (.exit 4, ⟨tmF n i, hpF b S B a, [decide (i < (n : Int)) = false]⟩) := by kernel_rfl

theorem endF_run (b : Blk) (n : Nat) (S B : List Int) (i a : Int) : endRes (fC true) Tryd.f34 100 endF ⟨tmF n i, hpF b S B a, []⟩ [b] =
    some ⟨.agg .u8 (bytesOf 16 (num (bytesOf 17 a) % q130 + num (tab 16 S))), [some b], none, []⟩ := by kernel_rfl

theorem nilF_run (l : List Int) : callRes (fC false) Tryd.f34 500 [.agg .u8 (tab 32 l), .slc 0 0 0 0] [] =
    some ⟨.agg .u8 (bytesOf 16 (num (bytesOf 17 0) % q130 + num ((tab 32 l).drop 16))), [], none, [decide ((0 : Int) < ((0 : Nat) : Int)) = false]⟩ := by kernel_rfl

def muF (n : Nat) (s : St) : Nat :=
  match tmOf s 11 with
  | .int _ i => n - i.toNat
  | _ => 0

theorem muF_tm (n : Nat) (i : Int) (h : Hp) (ob : List Prop) : muF n ⟨tmF n i, h, ob⟩ = n - i.toNat := rfl

theorem tri_loopF (t : TypeId) (x S B : List Int) (hB : B.length = 17) (hx : x.length ≤ 281474976710656) : Tri (fC true) 2 (.block 4 (.loop loopF)) ⟨tmF x.length 0, hpF ⟨.u8, t, x, false⟩ S B 0, []⟩
    (fun ex s => ex = .normal ∧ ∃ i, s.tm = tmF x.length i ∧ s.h = hpF ⟨.u8, t, x, false⟩ S B (polyV (num B) x 0) ∧ 0 ≤ polyV (num B) x 0 ∧ polyV (num B) x 0 < q130) := by
  refine tri_block (tri_loop (fun s => ∃ (off : Nat) (a : Int), s.tm = tmF x.length (off : Int) ∧ s.h = hpF ⟨.u8, t, x, false⟩ S B a ∧ off < x.length + 16 ∧ (0 ≤ a ∧ a < q130) ∧ polyV (num B) (x.drop off) a = polyV (num B) x 0) (muF x.length) ⟨0, 0, rfl, rfl, by omega, by decide, by rw [List.drop_zero]⟩ (fun s hs => ?_))
  obtain ⟨tm, hp, ob⟩ := s
  obtain ⟨off, a, rfl, rfl, hlen, ha, hv⟩ := hs
  rcases Nat.lt_or_ge off x.length with h0 | h0
  · have hr := roundF_run t x S B x.length (off : Int) a
    have w : WI ((off : Int) + 16) = ((off + 16 : Nat) : Int) := by
      simp only [WI]
      rw [i64w _ (by omega) (by omega)]
      omega
    have hi : hiF x.length (off : Int) = ((min x.length (off + 16) : Nat) : Int) := by
      unfold hiF
      rw [w]
      split <;> omega
    have hi' : (hiF x.length (off : Int)).toNat - (off : Int).toNat = min (x.length - off) 16 := by rw [hi]; omega
    have hs : sub x (0 + (off : Int).toNat * 1) ((hiF x.length (off : Int)).toNat - (off : Int).toNat) = (x.drop off).take 16 := by
      rw [sub_eq, hi', show 0 + (off : Int).toNat * 1 = off by omega]
      rcases Nat.le_total (x.length - off) 16 with h16 | h16
      · rw [Nat.min_eq_left h16, List.take_of_length_le (by rw [List.length_drop]; omega), List.take_of_length_le (by rw [List.length_drop]; omega)]
      · rw [Nat.min_eq_right h16]
    rw [num_bytes17 a ha, num_q, tab_eq 17 B hB, tab_eq 17 _ (blk_length _), hs, w, hi', hi] at hr
    refine tri_ob (tri_execF (fC_ok true) (show 1 ≤ 2 by decide) 100 _ _ hr ?_ ⟨⟨off + 16, _, rfl, ?_, by omega, stepP_range (num B) a ((x.drop off).take 16), ?_⟩, ?_⟩)
    · refine holds_l _ (fun p hp' => ?_)
      simp only [List.mem_cons, List.not_mem_nil, or_false] at hp'
      rcases hp' with rfl | rfl | rfl
      · exact decide_eq_true (by omega)
      · exact ⟨by omega, by omega, by omega⟩
      · exact ⟨by omega, by omega⟩
    · unfold stepP
      rfl
    · rw [← hv, polyV_step (num B) (x.drop off) a (by rw [List.length_drop]; omega), List.drop_drop]
    · rw [muF_tm, muF_tm]
      omega
  · refine tri_ob (tri_ctx (tri_execF (fC_ok false) (show 1 ≤ 2 by decide) 100 _ _ (stopF_run _ x.length S B off a) (Holds.one (decide_eq_false (by omega))) ?_))
    have e : x.drop off = [] := List.drop_eq_nil_of_le (by omega)
    rw [e, polyV_nil] at hv
    subst hv
    exact ⟨rfl, off, rfl, rfl, ha.1, ha.2⟩

/-- The contract: a key and a text that is the whole of its block. -/
def fSumF0 : List A → List Blk → Option Res
  | [.agg k l, .slc i 0 n c], [b] => match decide (k = .u8) && Nat.beq l.length 32 && Nat.beq i 1 && decide (b.k = .u8) && Nat.beq n b.l.length && Nat.beq c n && !b.rw && Nat.ble n 281474976710656 with
    | true => some ⟨.agg .u8 (sumP l b.l), [none], none, []⟩
    | false => none
  | _, _ => none

theorem byL_num (l : List Int) : num (byL l) = num (trimL (l.take 16)) := by
  unfold byL
  rw [num_append]
  simp [num]

theorem byL_length {l : List Int} (h : l.length = 32) : (byL l).length = 17 := by
  obtain ⟨k0, k1, k2, k3, k4, k5, k6, k7, k8, k9, k10, k11, k12, k13, k14, k15, k16, k17, k18, k19, k20, k21, k22, k23, k24, k25, k26, k27, k28, k29, k30, k31, rfl⟩ := list32 h
  rfl

theorem sumF0_ok : FnOk Tryd.prog gl 34 fSumF0 := by
  refine fnOk_of_tri (C := fC true) Tryd.func34 (by kernel_rfl) bodyF_eq (fun args mem r hr _ => ?_)
  unfold fSumF0 at hr
  split at hr
  · rename_i k l i n c b
    split at hr
    · rename_i hc
      simp only [Option.some.injEq] at hr
      subst hr
      simp only [Bool.and_eq_true] at hc
      obtain ⟨⟨⟨⟨⟨⟨⟨hk, hl⟩, hi⟩, hbk⟩, hn⟩, hcn⟩, hrw⟩, hm⟩ := hc
      have hk' := of_decide_eq_true hk
      have hl' := Nat.eq_of_beq_eq_true hl
      have hi' := Nat.eq_of_beq_eq_true hi
      have hn' := Nat.eq_of_beq_eq_true hn
      have hc' := Nat.eq_of_beq_eq_true hcn
      have hbk' := of_decide_eq_true hbk
      have hm' := Nat.le_of_ble_eq_true hm
      obtain ⟨kb, t, x, rw⟩ := b
      simp only at hbk' hn' hrw
      subst hk' hi' hc' hn' hbk'
      have hrw' : rw = false := by cases rw <;> simp_all
      subst hrw'
      refine ⟨beq_le (by kernel_rfl), fun j b hj => ?_, fun b hb => (by cases hb), fun _ _ => ?_⟩
      · match j, hj with
        | 0, hj => simp at hj
        | j + 1, hj => simp at hj
      have hp := preF_run ⟨.u8, t, x, false⟩ x.length l
      rw [tab_eq 32 l hl'] at hp
      refine (tri_preF (fC_ok true) (Nat.le_add_right _ _) 400 8 _ _ _ [1, 4, 6, 8, 10] [0, 1, 3, 5, 6, 7] hp Holds.nil ?_)
      rw [postF_eq]
      refine (tri_seq (Mid := fun ex s => ex = .normal ∧ ∃ i, s.tm = tmF x.length i ∧ s.h = hpF ⟨.u8, t, x, false⟩ (l.drop 16) (byL l) (polyV (num (byL l)) x 0) ∧ 0 ≤ polyV (num (byL l)) x 0 ∧ polyV (num (byL l)) x 0 < q130) ?_ (fun s1 h1 => ?_) (fun ex s1 hne h1 => absurd h1.1 hne))
      · refine tri_seq (Mid := fun ex s => ex = .normal ∧ s.tm = tmF x.length 0 ∧ s.h = hpF ⟨.u8, t, x, false⟩ (l.drop 16) (byL l) 0) (tri_execF (fC_ok true) (show 1 ≤ 2 by decide) 100 _ _ (iniF_run _ _ _ _ _) Holds.nil ⟨rfl, rfl, rfl⟩) (fun s1 h1 => ?_) (fun ex s1 hne h1 => absurd h1.1 hne)
        obtain ⟨_, e1, e2⟩ := h1
        obtain ⟨tm, hp, ob⟩ := s1
        subst e1 e2
        exact tri_ob (tri_loopF t x _ _ (byL_length hl') hm')
      obtain ⟨_, i, e1, e2, e3, e4⟩ := h1
      obtain ⟨tm, hp, ob⟩ := s1
      subst e1 e2
      refine tri_ob (tri_end (fC_ok true) (endF_run ⟨.u8, t, x, false⟩ x.length (l.drop 16) (byL l) i _) Holds.nil ⟨?_, rfl, fun j hj => ?_⟩)
      · rw [num_bytes17 _ ⟨e3, e4⟩, tab_eq 16 _ (by rw [List.length_drop]; omega), byL_num]
        rfl
      · match j, hj with
        | 0, hj => rfl
        | j + 1, hj => simp at hj
    · cases hr
  · cases hr

/-- No bytes. -/
theorem sumFN_ok : FnOk Tryd.prog gl 34 fSumN := by
  refine fnOk_run (C := fC false) (fC_ok false) Tryd.func34 (by kernel_rfl) bodyF_eq (fun args mem r hr _ => ?_)
  unfold fSumN at hr
  split at hr
  · rename_i k l
    split at hr
    · rename_i hc
      simp only [Option.some.injEq] at hr
      subst hr
      simp only [Bool.and_eq_true] at hc
      have hk' := of_decide_eq_true hc.1
      have hl' := Nat.eq_of_beq_eq_true hc.2
      subst hk'
      refine ⟨beq_le (by kernel_rfl), fun j b hj => (by simp at hj), fun b hb => (by cases hb), fun _ _ => ?_⟩
      have hp := nilF_run l
      rw [tab_eq 32 l hl'] at hp
      refine ⟨500, _, hp, Holds.one (decide_eq_false (by decide)), ⟨?_, rfl, fun j hj => (by simp at hj)⟩⟩
      have z : num (bytesOf 17 0) = 0 := by decide
      simp only [sumP, polyV_nil, z]
    · cases hr
  · cases hr

/-- The same, what cannot be reckoned of symbols taken for granted. -/
def fSumF : List A → List Blk → Option Res
  | [.agg k l, .slc i 0 n c], [b] => match decide (k = .u8) && Nat.beq l.length 32 && Nat.beq i 1 && decide (b.k = .u8) with
    | true => some ⟨.agg .u8 (sumP l (sub b.l 0 n)), [none], none, [n = b.l.length ∧ c = n ∧ b.rw = false ∧ n ≤ 281474976710656]⟩
    | false => none
  | [.agg k l, .slc 0 0 0 0], [] => fSumN [.agg k l, .slc 0 0 0 0] []
  | _, _ => none

def fSumFB (args : List A) (mem : List Blk) : Option Res :=
  match fSumF0 args mem with
  | some r => some r
  | none => fSumN args mem

theorem sumFB_ok : FnOk Tryd.prog gl 34 fSumFB := by
  refine ⟨sumF0_ok.1, fun args mem r hr hob => ?_⟩
  unfold fSumFB at hr
  split at hr
  · rename_i r' h0
    simp only [Option.some.injEq] at hr
    subst hr
    exact sumF0_ok.2 _ _ _ h0 hob
  · exact sumFN_ok.2 _ _ _ hr hob

theorem sumF_ok : FnOk Tryd.prog gl 34 fSumF := by
  refine fnOk_imp sumFB_ok (fun args mem r' hr hob => ?_)
  unfold fSumF at hr
  split at hr
  · rename_i k l i n c b
    split at hr
    · rename_i hc
      simp only [Option.some.injEq] at hr
      subst hr
      obtain ⟨h1, h2, h3, h4⟩ := hob _ (List.mem_singleton.2 rfl)
      simp only [Bool.and_eq_true] at hc
      obtain ⟨⟨⟨hk, hl⟩, hi⟩, hbk⟩ := hc
      subst h1 h2
      refine ⟨⟨.agg .u8 (sumP l b.l), [none], none, []⟩, ?_, Holds.nil, ?_, rfl, rfl⟩
      · have e0 : fSumF0 [.agg k l, .slc i 0 b.l.length b.l.length] [b] = some ⟨.agg .u8 (sumP l b.l), [none], none, []⟩ := by
          simp only [fSumF0, hk, hl, hi, hbk, Nat.beq_refl, h3, nble h4, Bool.not_false, Bool.and_self]
        unfold fSumFB
        rw [e0]
      · rw [show sub b.l 0 b.l.length = b.l by rw [sub_eq, List.drop_zero, List.take_length]]
    · cases hr
  · rename_i k l
    refine ⟨r', ?_, hob, rfl, rfl, rfl⟩
    unfold fSumFB
    rw [show fSumF0 [.agg k l, .slc 0 0 0 0] [] = none from rfl]
    exact hr
  · cases hr

end Go.Proofs.YtbdmahidobjaoaaDoor.Sx
