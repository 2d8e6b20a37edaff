/-
  The contract of curve's Invert: 255 squares, 253 products.
-/
import Derived.Test.YtechbdggjfahhaaDoorCurveFns
namespace Go.Proofs.YtechbdggjfahhaaDoor.Sx
open Go
set_option maxRecDepth 100000

/-- What a number is brought to by n steps of the power. -/
def invGo (x : Int) : Nat → Int
  | 0 => 1
  | n + 1 => if n = 250 ∨ n = 252 then invGo x n * invGo x n % p25 else invGo x n * invGo x n % p25 * x % p25

noncomputable def bodyI : Code := (Tryd.f26.body).getD .skip
noncomputable def loopI : Code := loopC (blkC (seqR (seqL (post 3 bodyI))))
noncomputable def endI : Code := seqR (post 3 bodyI)
theorem bodyI_eq : Tryd.f26.body = some bodyI := by kernel_rfl
theorem postI_eq : post 3 bodyI = .seq (.seq (seqL (seqL (post 3 bodyI))) (.block 0 (.loop loopI))) endI := by kernel_rfl

def hintI (go a b : Bool) (t : Tmp) : Option Bool :=
  match t with
  | 13 => some go
  | 23 => some a
  | 26 => some b
  | _ => none

noncomputable abbrev iC (go a b : Bool) : Ctx := mkh (hintI go a b) wordF
theorem iC_ok (go a b : Bool) : (iC go a b).Ok := mkh_ok wordF_ok

def tmI (i : Int) : List A := [.any, .any, .ptr (gn + 1) 0, .ptr (gn + 2) 0, .ptr (gn + 3) 0, .int .i64 i] ++ List.replicate 44 .any
def hpI (x o : List Int) : Hp := glz ++ [(gn + 1, ⟨.u8, 23, List.replicate 32 0, true⟩), (gn + 2, ⟨.u64, 43, x, true⟩), (gn + 3, ⟨.u64, 43, o, true⟩)]

theorem preI_run (l : List Int) : execF (iC true false false) 100 (pre 3 bodyI) gn [2, 3, 4] (gks ++ [gn + 1, gn + 2, gn + 3]) (s0 (iC true false false) 50 [.agg .u8 (tab 32 l)] []) =
    some (.normal, ⟨[.any, .any, .ptr (gn + 1) 0, .ptr (gn + 2) 0, .ptr (gn + 3) 0] ++ List.replicate 45 .any, hpI (wordsOf 4 (num (tab 32 l))) [1, 0, 0, 0], []⟩) := by kernel_rfl

theorem iniI_run (x o : List Int) : execF (iC true false false) 100 (seqL (seqL (post 3 bodyI))) gn [2, 3, 4, 5] (gks ++ [gn + 1, gn + 2, gn + 3]) ⟨[.any, .any, .ptr (gn + 1) 0, .ptr (gn + 2) 0, .ptr (gn + 3) 0] ++ List.replicate 45 .any, hpI x o, []⟩ =
    some (.normal, ⟨tmI 254, hpI x o, []⟩) := by kernel_rfl

def pickL (b : Bool) (s w : List Int) : List Int :=
  match s, w with
  | [s0, s1, s2, s3], [w0, w1, w2, w3] => [pickW b s0 w0, pickW b s1 w1, pickW b s2 w2, pickW b s3 w3]
  | s, _ => s

theorem roundI_run (i x0 x1 x2 x3 o0 o1 o2 o3 : Int) : execF (iC true false false) 200 loopI gn [2, 3, 4, 5] (gks ++ [gn + 1, gn + 2, gn + 3]) ⟨tmI i, hpI [x0, x1, x2, x3] [o0, o1, o2, o3], []⟩ =
    some (.normal, ⟨tmI (IntKind.i64.wrap (i - 1)), hpI [x0, x1, x2, x3] (pickL true (wordsOf 4 (prod25 (wnum [o0, o1, o2, o3]) (wnum [o0, o1, o2, o3]))) (wordsOf 4 (prod25 (wnum (wordsOf 4 (prod25 (wnum [o0, o1, o2, o3]) (wnum [o0, o1, o2, o3])))) (wnum [x0, x1, x2, x3])))),
      [decide (i ≥ 0) = true, (i == 2) = false, (i == 4) = false]⟩) := by kernel_rfl

theorem roundI2_run (i x0 x1 x2 x3 o0 o1 o2 o3 : Int) : execF (iC true true false) 200 loopI gn [2, 3, 4, 5] (gks ++ [gn + 1, gn + 2, gn + 3]) ⟨tmI i, hpI [x0, x1, x2, x3] [o0, o1, o2, o3], []⟩ =
    some (.normal, ⟨tmI (IntKind.i64.wrap (i - 1)), hpI [x0, x1, x2, x3] (pickL false (wordsOf 4 (prod25 (wnum [o0, o1, o2, o3]) (wnum [o0, o1, o2, o3]))) (wordsOf 4 (prod25 (wnum (wordsOf 4 (prod25 (wnum [o0, o1, o2, o3]) (wnum [o0, o1, o2, o3])))) (wnum [x0, x1, x2, x3])))),
      [decide (i ≥ 0) = true, (i == 2) = true]⟩) := by kernel_rfl

theorem roundI4_run (i x0 x1 x2 x3 o0 o1 o2 o3 : Int) : execF (iC true false true) 200 loopI gn [2, 3, 4, 5] (gks ++ [gn + 1, gn + 2, gn + 3]) ⟨tmI i, hpI [x0, x1, x2, x3] [o0, o1, o2, o3], []⟩ =
    some (.normal, ⟨tmI (IntKind.i64.wrap (i - 1)), hpI [x0, x1, x2, x3] (pickL false (wordsOf 4 (prod25 (wnum [o0, o1, o2, o3]) (wnum [o0, o1, o2, o3]))) (wordsOf 4 (prod25 (wnum (wordsOf 4 (prod25 (wnum [o0, o1, o2, o3]) (wnum [o0, o1, o2, o3])))) (wnum [x0, x1, x2, x3])))),
      [decide (i ≥ 0) = true, (i == 2) = false, (i == 4) = true]⟩) := by kernel_rfl

theorem stopI_run (i : Int) (x o : List Int) : execF (iC false false false) 200 loopI gn [2, 3, 4, 5] (gks ++ [gn + 1, gn + 2, gn + 3]) ⟨tmI i, hpI x o, []⟩ =
    some (.exit 0, ⟨tmI i, hpI x o, [decide (i ≥ 0) = false]⟩) := by kernel_rfl

theorem endI_run (i x0 x1 x2 x3 o0 o1 o2 o3 : Int) : endRes (iC true false false) Tryd.f26 100 endI ⟨tmI i, hpI [x0, x1, x2, x3] [o0, o1, o2, o3], []⟩ [] =
    some ⟨.agg .u8 (bytesOf 32 (wnum (wordsOf 4 (wnum [o0, o1, o2, o3] % p25)))), [], none, []⟩ := by kernel_rfl

theorem pickL_eq (b : Bool) (n m : Int) : pickL b (wordsOf 4 n) (wordsOf 4 m) = if b then wordsOf 4 m else wordsOf 4 n := by
  obtain ⟨s0, s1, s2, s3, e1, a0, a1, a2, a3, -⟩ := words4 n
  obtain ⟨w0, w1, w2, w3, e2, b0, b1, b2, b3, -⟩ := words4 m
  rw [e1, e2]
  simp only [pickL]
  rw [pickW_eq _ _ _ a0.1 a0.2 b0.1 b0.2, pickW_eq _ _ _ a1.1 a1.2 b1.1 b1.2, pickW_eq _ _ _ a2.1 a2.2 b2.1 b2.2, pickW_eq _ _ _ a3.1 a3.2 b3.1 b3.2]
  cases b <;> rfl

def muI (s : St) : Nat :=
  match tmOf s 5 with
  | .int _ i => (i + 1).toNat
  | _ => 0

theorem muI_tm (i : Int) (h : Hp) (ob : List Prop) : muI ⟨tmI i, h, ob⟩ = (i + 1).toNat := rfl

theorem invGo_mod (x : Int) : ∀ n, invGo x n % p25 = invGo x n
  | 0 => (show (1 : Int) % p25 = 1 by decide)
  | n + 1 => by
    unfold invGo
    split
    · exact Int.emod_emod _ _
    · exact Int.emod_emod _ _

theorem tri_loopI (X : Int) (hX : 0 ≤ X ∧ X < 115792089237316195423570985008687907853269984665640564039457584007913129639936) : Tri (iC true false false) gn (.block 0 (.loop loopI)) ⟨tmI 254, hpI (wordsOf 4 X) [1, 0, 0, 0], []⟩
    (fun ex s => ex = .normal ∧ ∃ i V, s.tm = tmI i ∧ s.h = hpI (wordsOf 4 X) (wordsOf 4 V) ∧ V % p25 = invGo X 255 ∧ 0 ≤ V ∧ V < 115792089237316195423570985008687907853269984665640564039457584007913129639936) := by
  refine tri_block (tri_loop (fun s => ∃ (n : Nat) (V : Int), n ≤ 255 ∧ s.tm = tmI (254 - n) ∧ s.h = hpI (wordsOf 4 X) (wordsOf 4 V) ∧ V % p25 = invGo X n ∧ 0 ≤ V ∧ V < 115792089237316195423570985008687907853269984665640564039457584007913129639936) muI ⟨0, 1, by decide, rfl, rfl, (show (1 : Int) % p25 = 1 by decide), by decide, by decide⟩ (fun s hs => ?_))
  obtain ⟨tm, hp, ob⟩ := s
  obtain ⟨n, V, hn, rfl, rfl, hV, hV0, hV1⟩ := hs
  obtain ⟨x0, x1, x2, x3, ex, -, -, -, -, nx⟩ := words4 X
  obtain ⟨o0, o1, o2, o3, eo, -, -, -, -, no⟩ := words4 V
  rw [Int.emod_eq_of_lt hX.1 hX.2] at nx
  rw [Int.emod_eq_of_lt hV0 hV1] at no
  have rS := prod25_range V V ⟨hV0, hV1⟩ ⟨hV0, hV1⟩
  have rT := prod25_range (prod25 V V) X rS hX
  have nS := wnum_small rS
  have mS : prod25 V V % p25 = invGo X n * invGo X n % p25 := by rw [prod25_mod, Int.mul_emod, hV]
  have mT : prod25 (prod25 V V) X % p25 = invGo X n * invGo X n % p25 * X % p25 := by rw [prod25_mod, ← emm, mS]
  have step : ∀ (i : Int), -1 ≤ i → i ≤ 254 → IntKind.i64.wrap (i - 1) = i - 1 := fun i h1 h2 => i64w _ (by omega) (by omega)
  rcases Nat.lt_or_ge n 255 with hl | hl
  · have hi : (254 : Int) - n ≥ 0 := by omega
    have e1 : IntKind.i64.wrap ((254 : Int) - n - 1) = 254 - ((n + 1 : Nat) : Int) := by
      rw [step _ (by omega) (by omega)]
      omega
    by_cases h2 : n = 252
    · have run := roundI2_run ((254 : Int) - n) x0 x1 x2 x3 o0 o1 o2 o3
      rw [← ex, ← eo, eo, no, ex, nx, nS, pickL_eq, if_neg Bool.false_ne_true, e1, ← eo, ← ex] at run
      refine tri_ob (tri_ctx (tri_execF (iC_ok true true false) (Nat.le_refl gn) 200 _ _ run (holds2 (decide_eq_true hi) (by subst h2; rfl)) ⟨⟨n + 1, prod25 V V, by omega, rfl, rfl, ?_, rS⟩, ?_⟩))
      · rw [mS]
        show _ = if n = 250 ∨ n = 252 then _ else _
        rw [if_pos (Or.inr h2)]
      · rw [muI_tm, muI_tm]; omega
    · have b2 : ((254 : Int) - n == 2) = false := by
        rw [beq_eq_false_iff_ne]; omega
      by_cases h4 : n = 250
      · have run := roundI4_run ((254 : Int) - n) x0 x1 x2 x3 o0 o1 o2 o3
        rw [← ex, ← eo, eo, no, ex, nx, nS, pickL_eq, if_neg Bool.false_ne_true, e1, ← eo, ← ex] at run
        refine tri_ob (tri_ctx (tri_execF (iC_ok true false true) (Nat.le_refl gn) 200 _ _ run (hcons (decide_eq_true hi) (holds2 b2 (by subst h4; rfl))) ⟨⟨n + 1, prod25 V V, by omega, rfl, rfl, ?_, rS⟩, ?_⟩))
        · rw [mS]
          show _ = if n = 250 ∨ n = 252 then _ else _
          rw [if_pos (Or.inl h4)]
        · rw [muI_tm, muI_tm]; omega
      · have b4 : ((254 : Int) - n == 4) = false := by
          rw [beq_eq_false_iff_ne]; omega
        have run := roundI_run ((254 : Int) - n) x0 x1 x2 x3 o0 o1 o2 o3
        rw [← ex, ← eo, eo, no, ex, nx, nS, pickL_eq, if_pos rfl, e1, ← eo, ← ex] at run
        refine tri_ob (tri_execF (iC_ok true false false) (Nat.le_refl gn) 200 _ _ run (hcons (decide_eq_true hi) (holds2 b2 b4)) ⟨⟨n + 1, prod25 (prod25 V V) X, by omega, rfl, rfl, ?_, rT⟩, ?_⟩)
        · rw [mT]
          show _ = if n = 250 ∨ n = 252 then _ else _
          rw [if_neg (by omega)]
        · rw [muI_tm, muI_tm]; omega
  · have e : n = 255 := by omega
    subst e
    refine tri_ob (tri_ctx (tri_execF (iC_ok false false false) (Nat.le_refl gn) 200 _ _ (stopI_run _ _ _) (Holds.one (by decide)) ⟨rfl, _, V, rfl, rfl, hV, hV0, hV1⟩))

def cI (l : List Int) : List Int := bytesOf 32 (invGo (num l) 255)

def fInvert : List A → List Blk → Option Res := F1 .u8 .u8 32 cI

theorem invert_ok : FnOk Tryd.prog gl 26 fInvert := by
  refine fnOk_of_tri (C := iC true false false) Tryd.func26 (by kernel_rfl) bodyI_eq (fun args mem r hr hob => ?_)
  unfold fInvert F1 at hr
  split at hr
  · rename_i k0 l
    split at hr
    · rename_i hc
      simp only [Bool.and_eq_true] at hc
      have e1 := of_decide_eq_true hc.1
      have hl := Nat.eq_of_beq_eq_true hc.2
      subst e1
      simp only [Option.some.injEq] at hr
      subst hr
      refine ⟨beq_le (by kernel_rfl), fun j b hj => (by simp at hj), fun b hb => (by cases hb), fun hw _ => ?_⟩
      have hX := num32_range hl (hw (.agg .u8 l) (by simp))
      have run := preI_run l
      rw [tab_eq 32 l hl] at run
      refine tri_preF (iC_ok true false false) (Nat.le_refl _) 100 3 _ _ _ [2, 3, 4] (gks ++ [gn + 1, gn + 2, gn + 3]) run Holds.nil ?_
      rw [postI_eq]
      refine tri_seq (Mid := fun ex s => ex = .normal ∧ ∃ i V, s.tm = tmI i ∧ s.h = hpI (wordsOf 4 (num l)) (wordsOf 4 V) ∧ V % p25 = invGo (num l) 255 ∧ 0 ≤ V ∧ V < 115792089237316195423570985008687907853269984665640564039457584007913129639936) ?_ (fun s1 h1 => ?_) (fun ex s1 hne h1 => absurd h1.1 hne)
      · refine tri_seq (Mid := fun ex s => ex = .normal ∧ s = ⟨tmI 254, hpI (wordsOf 4 (num l)) [1, 0, 0, 0], []⟩) (tri_execF (iC_ok true false false) (Nat.le_refl _) 100 _ _ (iniI_run _ _) Holds.nil ⟨rfl, rfl⟩) (fun s1 h1 => ?_) (fun ex s1 hne h1 => absurd h1.1 hne)
        obtain ⟨_, rfl⟩ := h1
        exact tri_loopI _ hX
      · obtain ⟨_, i, V, e1, e2, hV, hV0, hV1⟩ := h1
        obtain ⟨tm, hp, ob⟩ := s1
        subst e1 e2
        obtain ⟨x0, x1, x2, x3, ex, -, -, -, -, nx⟩ := words4 (num l)
        obtain ⟨o0, o1, o2, o3, eo, -, -, -, -, no⟩ := words4 V
        rw [ex, eo]
        refine tri_ob (tri_end (iC_ok true false false) (endI_run i x0 x1 x2 x3 o0 o1 o2 o3) Holds.nil ⟨?_, rfl, fun j hj => (by simp at hj)⟩)
        rw [no, Int.emod_eq_of_lt hV0 hV1, hV, wnum_small (n := invGo (num l) 255) (by rw [← invGo_mod]; exact mod25 _)]
        rfl
    · cases hr
  · cases hr

end Go.Proofs.YtechbdggjfahhaaDoor.Sx
