/-
  The document's Invert: its contract.
-/
import Derived.Test.YtechbdggjfahhaaDoorCurveRefF
import Derived.Test.YtechbdggjfahhaaDoorCurveInv
namespace Go.Proofs.YtechbdggjfahhaaDoor.Sx
open Go
set_option maxRecDepth 100000

noncomputable abbrev invF : List (FuncId × (List A → List Blk → Option Res)) := [(41, fPrime), (29, fMul)]
theorem invF_ok : ∀ p ∈ invF, FnOk Tryd.prog gl p.1 p.2 := by
  intro p hp
  simp only [invF, List.mem_cons, List.not_mem_nil, or_false] at hp
  rcases hp with rfl | rfl
  · exact prime_ok
  · exact rmul_ok

noncomputable def bodyV : Code := (Tryd.f30.body).getD .skip
noncomputable def loopV : Code := loopC (blkC (seqR (seqL (post 2 bodyV))))
noncomputable def endV : Code := seqR (post 2 bodyV)
theorem bodyV_eq : Tryd.f30.body = some bodyV := by kernel_rfl
theorem postV_eq : post 2 bodyV = .seq (.seq (seqL (seqL (post 2 bodyV))) (.block 0 (.loop loopV))) endV := by kernel_rfl

def tmV0 : List A := [.any, .ptr gn 0, .ptr (gn + 1) 0, .ptr (gn + 2) 0] ++ List.replicate 30 .any
def tmV (i : Int) : List A := [.any, .ptr gn 0, .ptr (gn + 1) 0, .ptr (gn + 2) 0, .int .i64 i] ++ List.replicate 29 .any
def hpV (l o : List Int) : Hp := glz ++ [(gn, ⟨.u8, 23, l, true⟩), (gn + 1, ⟨.u8, 23, List.replicate 32 0, true⟩), (gn + 2, ⟨.u8, 23, o, true⟩)]

def sqV (N : Int) : Int := num (bytesOf 32 N) * num (bytesOf 32 N) % p25
def mlV (l : List Int) (N : Int) : Int := num (bytesOf 32 N) * num l % p25

def stepsV (l : List Int) : List Bool → Int → Int
  | [], N => N
  | true :: bs, N => stepsV l bs (mlV l (sqV N))
  | false :: bs, N => stepsV l bs (sqV N)

/-- A digit's bits, the highest first. -/
def bitsV : Nat → List Bool
  | 0 => [true, true, true, true, true, true, true, true, true, true, true, false, true, false, true, true]
  | 15 => false :: List.replicate 15 true
  | _ => List.replicate 16 true

theorem preV_run (l : List Int) : execF (mk invF) 100 (pre 2 bodyV) gn [1, 2, 3] (gks ++ [gn, gn + 1, gn + 2]) (s0 (mk invF) 34 [.agg .u8 (tab 32 l)] []) = some (.normal, ⟨tmV0, hpV (tab 32 l) (bytesOf 32 1), []⟩) := by kernel_rfl
theorem iniV_run (l o : List Int) : execF (mk invF) 100 (seqL (seqL (post 2 bodyV))) gn [1, 2, 3, 4] (gks ++ [gn, gn + 1, gn + 2]) ⟨tmV0, hpV l o, []⟩ = some (.normal, ⟨tmV 15, hpV l o, []⟩) := by kernel_rfl

def rdV (i : Nat) : Prop := ∀ (l : List Int) (N : Int), execF (mk invF) 400 loopV gn [1, 2, 3, 4] (gks ++ [gn, gn + 1, gn + 2]) ⟨tmV (i : Int), hpV (tab 32 l) (bytesOf 32 N), []⟩ =
  some (.normal, ⟨tmV ((i : Int) - 1), hpV (tab 32 l) (bytesOf 32 (stepsV (tab 32 l) (bitsV i) N)), []⟩)

theorem rdV_0 : rdV 0 := fun _ _ => by kernel_rfl
theorem rdV_1 : rdV 1 := fun _ _ => by kernel_rfl
theorem rdV_2 : rdV 2 := fun _ _ => by kernel_rfl
theorem rdV_3 : rdV 3 := fun _ _ => by kernel_rfl
theorem rdV_4 : rdV 4 := fun _ _ => by kernel_rfl
theorem rdV_5 : rdV 5 := fun _ _ => by kernel_rfl
theorem rdV_6 : rdV 6 := fun _ _ => by kernel_rfl
theorem rdV_7 : rdV 7 := fun _ _ => by kernel_rfl
theorem rdV_8 : rdV 8 := fun _ _ => by kernel_rfl
theorem rdV_9 : rdV 9 := fun _ _ => by kernel_rfl
theorem rdV_10 : rdV 10 := fun _ _ => by kernel_rfl
theorem rdV_11 : rdV 11 := fun _ _ => by kernel_rfl
theorem rdV_12 : rdV 12 := fun _ _ => by kernel_rfl
theorem rdV_13 : rdV 13 := fun _ _ => by kernel_rfl
theorem rdV_14 : rdV 14 := fun _ _ => by kernel_rfl
theorem rdV_15 : rdV 15 := fun _ _ => by kernel_rfl
theorem rdV_all : ∀ n, n < 16 → rdV n
  | 0, _ => rdV_0
  | 1, _ => rdV_1
  | 2, _ => rdV_2
  | 3, _ => rdV_3
  | 4, _ => rdV_4
  | 5, _ => rdV_5
  | 6, _ => rdV_6
  | 7, _ => rdV_7
  | 8, _ => rdV_8
  | 9, _ => rdV_9
  | 10, _ => rdV_10
  | 11, _ => rdV_11
  | 12, _ => rdV_12
  | 13, _ => rdV_13
  | 14, _ => rdV_14
  | 15, _ => rdV_15
  | n + 16, h => absurd h (by omega)

theorem stopV_run (l o : List Int) : execF (mk invF) 400 loopV gn [1, 2, 3] (gks ++ [gn, gn + 1, gn + 2]) ⟨tmV (-1), hpV l o, []⟩ = some (.exit 0, ⟨tmV0, hpV l o, []⟩) := by kernel_rfl
theorem endV_run (l : List Int) (N : Int) : endRes (mk invF) Tryd.f30 100 endV ⟨tmV0, hpV l (bytesOf 32 N), []⟩ [] = some ⟨.agg .u8 (bytesOf 32 N), [], none, []⟩ := by kernel_rfl

def okBits : Nat → List Bool → Bool
  | _, [] => true
  | n, b :: bs => (b == !(n == 250 || n == 252)) && okBits (n + 1) bs

theorem num_bytes32 (n : Int) (h : 0 ≤ n ∧ n < 115792089237316195423570985008687907853269984665640564039457584007913129639936) : num (bytesOf 32 n) = n := by
  rw [num_bytesOf, show (256 : Int) ^ 32 = 115792089237316195423570985008687907853269984665640564039457584007913129639936 by decide]
  exact Int.emod_eq_of_lt h.1 h.2

theorem invGo_range (x : Int) (n : Nat) : 0 ≤ invGo x n ∧ invGo x n < 115792089237316195423570985008687907853269984665640564039457584007913129639936 := by
  rw [← invGo_mod]
  exact mod25 _

theorem stepsV_law (l : List Int) : ∀ (bs : List Bool) (n : Nat), okBits n bs = true → stepsV l bs (invGo (num l) n) = invGo (num l) (n + bs.length)
  | [], n, _ => rfl
  | b :: bs, n, h => by
    simp only [okBits, Bool.and_eq_true, beq_iff_eq] at h
    have hr := invGo_range (num l) n
    have hs : sqV (invGo (num l) n) = invGo (num l) n * invGo (num l) n % p25 := by
      unfold sqV
      rw [num_bytes32 _ hr]
    have hstep : invGo (num l) (n + 1) = if n = 250 ∨ n = 252 then invGo (num l) n * invGo (num l) n % p25 else invGo (num l) n * invGo (num l) n % p25 * num l % p25 := rfl
    have hlen : n + (b :: bs).length = n + 1 + bs.length := by simp only [List.length_cons]; omega
    rw [hlen]
    cases b with
    | true =>
      have hn : ¬ (n = 250 ∨ n = 252) := by
        have := h.1
        simp at this
        omega
      rw [if_neg hn] at hstep
      show stepsV l bs (mlV l (sqV (invGo (num l) n))) = _
      have : mlV l (sqV (invGo (num l) n)) = invGo (num l) (n + 1) := by
        rw [hstep, hs]
        unfold mlV
        rw [num_bytes32 _ (mod25 _)]
      rw [this]
      exact stepsV_law l bs (n + 1) h.2
    | false =>
      have hn : n = 250 ∨ n = 252 := by
        have := h.1
        simp at this
        omega
      rw [if_pos hn] at hstep
      show stepsV l bs (sqV (invGo (num l) n)) = _
      rw [hs, ← hstep]
      exact stepsV_law l bs (n + 1) h.2

def muV (s : St) : Nat :=
  match tmOf s 4 with
  | .int _ i => (i + 1).toNat
  | _ => 0

theorem muV_tm (i : Int) (h : Hp) (ob : List Prop) : muV ⟨tmV i, h, ob⟩ = (i + 1).toNat := rfl

/-- What stands behind the digits from the highest one down to the n-th. -/
def VN (x : Int) (n : Nat) : Int := if n = 16 then 1 else invGo x (255 - 16 * n)

theorem VN_step (l : List Int) (n : Nat) (hn : n < 16) : stepsV l (bitsV n) (VN (num l) (n + 1)) = VN (num l) n := by
  by_cases h15 : n = 15
  · subst h15
    have e1 : VN (num l) (15 + 1) = 1 := rfl
    have e2 : sqV 1 = 1 := by decide
    rw [e1]
    show stepsV l (List.replicate 15 true) (sqV 1) = _
    rw [e2]
    exact stepsV_law l (List.replicate 15 true) 0 (by decide)
  · have e1 : VN (num l) (n + 1) = invGo (num l) (255 - 16 * (n + 1)) := if_neg (by omega)
    have e2 : VN (num l) n = invGo (num l) (255 - 16 * n) := if_neg (by omega)
    rw [e1, e2]
    have hl : (bitsV n).length = 16 ∧ okBits (255 - 16 * (n + 1)) (bitsV n) = true := by
      have key : ∀ n, n < 15 → (bitsV n).length = 16 ∧ okBits (255 - 16 * (n + 1)) (bitsV n) = true := by decide
      exact key n (by omega)
    rw [stepsV_law l _ _ hl.2, hl.1]
    congr 1
    omega

theorem rinvert_ok : FnOk Tryd.prog gl 30 fInvert := by
  refine fnOk_of_tri (C := mk invF) Tryd.func30 (by kernel_rfl) bodyV_eq (fun args mem r hr hob => ?_)
  unfold fInvert F1 at hr
  split at hr
  · rename_i k0 l
    split at hr
    · rename_i hc
      simp only [Bool.and_eq_true] at hc
      have e1 := of_decide_eq_true hc.1
      have hl := Nat.eq_of_beq_eq_true hc.2
      subst e1
      simp only [Option.some.injEq] at hr
      subst hr
      have T32 := tab_eq 32 l hl
      refine ⟨beq_le (by kernel_rfl), fun j b hj => (by simp at hj), fun b hb => (by cases hb), fun hw _ => ?_⟩
      have run := preV_run l
      rw [T32] at run
      refine tri_preF (mk_ok invF_ok) (Nat.le_refl _) 100 2 _ _ _ [1, 2, 3] (gks ++ [gn, gn + 1, gn + 2]) run Holds.nil ?_
      rw [postV_eq]
      refine tri_seq (Mid := fun ex s => ex = .normal ∧ s.tm = tmV0 ∧ s.h = hpV l (bytesOf 32 (VN (num l) 0))) ?_ (fun s1 h1 => ?_) (fun ex s1 hne h1 => absurd h1.1 hne)
      · refine tri_seq (Mid := fun ex s => ex = .normal ∧ s = ⟨tmV 15, hpV l (bytesOf 32 1), []⟩) (tri_execF (mk_ok invF_ok) (Nat.le_refl _) 100 _ _ (iniV_run _ _) Holds.nil ⟨rfl, rfl⟩) (fun s1 h1 => ?_) (fun ex s1 hne h1 => absurd h1.1 hne)
        obtain ⟨_, rfl⟩ := h1
        refine tri_block (tri_loop (fun s => ∃ n : Nat, n ≤ 16 ∧ s.tm = tmV ((n : Int) - 1) ∧ s.h = hpV l (bytesOf 32 (VN (num l) n))) muV ⟨16, Nat.le_refl _, rfl, rfl⟩ (fun s hs => ?_))
        obtain ⟨tm, hp, ob⟩ := s
        obtain ⟨n, hn, rfl, rfl⟩ := hs
        match n, hn with
        | 0, _ =>
          refine tri_ob (tri_execF (mk_ok invF_ok) (Nat.le_refl _) 400 _ _ (stopV_run l _) Holds.nil ?_)
          exact ⟨rfl, rfl, rfl⟩
        | n + 1, hn =>
          have en : (((n + 1 : Nat) : Int) - 1) = (n : Int) := by omega
          rw [en]
          have run := rdV_all n (by omega) l (VN (num l) (n + 1))
          rw [T32, VN_step l n (by omega)] at run
          refine tri_ob (tri_execF (mk_ok invF_ok) (Nat.le_refl _) 400 _ _ run Holds.nil ⟨⟨n, by omega, rfl, rfl⟩, ?_⟩)
          rw [muV_tm, muV_tm]; omega
      · obtain ⟨_, t1, t2⟩ := h1
        obtain ⟨tm, hp, ob⟩ := s1
        subst t1 t2
        exact tri_ob (tri_end (mk_ok invF_ok) (endV_run l _) Holds.nil ⟨rfl, rfl, fun j hj => (by simp at hj)⟩)
    · cases hr
  · cases hr

end Go.Proofs.YtechbdggjfahhaaDoor.Sx
