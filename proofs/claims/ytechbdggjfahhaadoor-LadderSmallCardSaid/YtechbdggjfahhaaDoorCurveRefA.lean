/-
  The document's prime, digits, whole: their contracts.
-/
import Derived.Test.YtechbdggjfahhaaDoorCurveFns
import Derived.Test.YtechbdggjfahhaaDoorDigits
namespace Go.Proofs.YtechbdggjfahhaaDoor.Sx
open Go
set_option maxRecDepth 100000

abbrev WI (n : Int) : Int := IntKind.i64.wrap n
theorem WIw (n : Int) (h0 : -9223372036854775808 ≤ n) (h1 : n < 9223372036854775808) : WI n = n := i64w n h0 h1

/-! ### prime -/

/-- A digit of p. -/
def pd (i : Int) : Int := if i = 0 then 65517 else if i = 15 then 32767 else 65535

def fPrime : List A → List Blk → Option Res
  | [.int .i64 i], [] => some ⟨.int .i64 (pd i), [], none, []⟩
  | _, _ => none

def hintP (a b : Bool) (t : Tmp) : Option Bool :=
  match t with
  | 5 => some a
  | 7 => some b
  | _ => none

theorem prime_run0 (i : Int) : plainRun (mkh (hintP true false) []) Tryd.f41 100 [.int .i64 i] = some (.int .i64 65517, [(i == 0) = true]) := by kernel_rfl
theorem prime_run15 (i : Int) : plainRun (mkh (hintP false true) []) Tryd.f41 100 [.int .i64 i] = some (.int .i64 32767, [(i == 0) = false, (i == 15) = true]) := by kernel_rfl
theorem prime_runE (i : Int) : plainRun (mkh (hintP false false) []) Tryd.f41 100 [.int .i64 i] = some (.int .i64 65535, [(i == 0) = false, (i == 15) = false]) := by kernel_rfl

theorem prime_ok : FnOk Tryd.prog gl 41 fPrime := by
  refine fnOk_plainH Tryd.func41 (by kernel_rfl) rfl (fun args mem r hr _ => ?_)
  unfold fPrime at hr
  split at hr
  · rename_i i
    simp only [Option.some.injEq] at hr
    subst hr
    refine ⟨rfl, rfl, rfl, beq_le (by kernel_rfl), fun _ => ?_⟩
    by_cases h0 : i = 0
    · exact ⟨hintP true false, [], 100, _, by simp, by simp only [pd, if_pos h0]; exact prime_run0 i, Holds.one (beq_iff_eq.2 h0)⟩
    · have b0 : (i == 0) = false := beq_eq_false_iff_ne.2 h0
      by_cases h1 : i = 15
      · exact ⟨hintP false true, [], 100, _, by simp, by simp only [pd, if_neg h0, if_pos h1]; exact prime_run15 i, holds2 b0 (beq_iff_eq.2 h1)⟩
      · exact ⟨hintP false false, [], 100, _, by simp, by simp only [pd, if_neg h0, if_neg h1]; exact prime_runE i, holds2 b0 (beq_eq_false_iff_ne.2 h1)⟩
  · cases hr

noncomputable abbrev primeF : List (FuncId × (List A → List Blk → Option Res)) := [(41, fPrime)]
theorem primeF_ok : ∀ p ∈ primeF, FnOk Tryd.prog gl p.1 p.2 := by
  intro p hp
  rw [List.mem_singleton.1 hp]
  exact prime_ok

/-! ### digits -/

def dig2 : List Int → List Int
  | x :: y :: r => WI (WI x + WI (256 * WI y)) :: dig2 r
  | _ => []

def zeros (n : Nat) : List Int := List.replicate n 0

theorem digits_run (l : List Int) : callRes (mk []) Tryd.f33 1000 [.agg .u8 (tab 32 l)] [] = some ⟨.slc gn 0 32 32, [], some ⟨.i64, 3, dig2 (tab 32 l) ++ zeros 16, true⟩, []⟩ := by kernel_rfl

theorem dig2_law : ∀ (n : Nat) (l : List Int), l.length = 2 * n → (∀ x ∈ l, 0 ≤ x ∧ x < 256) → (dig2 l).length = n ∧ (∀ x ∈ dig2 l, 0 ≤ x ∧ x < 2 ^ 16) ∧ dnum 16 (dig2 l) = num l
  | 0, l, h, _ => by
    have : l = [] := List.length_eq_zero_iff.1 (by omega)
    subst this
    exact ⟨rfl, by simp [dig2], rfl⟩
  | n + 1, l, h, hb => by
    match l, h with
    | x :: y :: r, h =>
      obtain ⟨h1, h2, h3⟩ := dig2_law n r (by simp only [List.length_cons] at h; omega) (fun z hz => hb z (by simp [hz]))
      have hx := hb x (by simp)
      have hy := hb y (by simp)
      have e : WI (WI x + WI (256 * WI y)) = x + 256 * y := by
        rw [WIw x (by omega) (by omega), WIw y (by omega) (by omega), WIw (256 * y) (by omega) (by omega), WIw _ (by omega) (by omega)]
      have p16 : (2 : Int) ^ 16 = 65536 := by decide
      refine ⟨by simp [dig2, h1], fun z hz => ?_, ?_⟩
      · simp only [dig2, List.mem_cons] at hz
        rcases hz with rfl | hz
        · rw [e, p16]; omega
        · exact h2 z hz
      · simp only [dig2, dnum, num, e, h3, p16]
        omega

theorem dig2_digs (l : List Int) (hl : l.length = 32) (hb : ∀ x ∈ l, 0 ≤ x ∧ x < 256) : dig2 l = digsOf 16 16 (num l) := by
  obtain ⟨h1, h2, h3⟩ := dig2_law 16 l hl hb
  have := digsOf_dnum 16 (dig2 l) h2
  rw [h1, h3] at this
  exact this.symm

/-- The digits, and as many noughts. -/
def dgs (n : Int) : List Int := digsOf 16 16 n ++ zeros 16

def fDigits : List A → List Blk → Option Res
  | [.agg k l], [] => match decide (k = .u8) && Nat.beq l.length 32 with
    | true => some ⟨.slc gn 0 32 32, [], some ⟨.i64, 3, dgs (num l), true⟩, []⟩
    | false => none
  | _, _ => none

theorem digits_ok : FnOk Tryd.prog gl 33 fDigits := by
  refine fnOk_run (C := mk []) (mk_ok (by simp)) Tryd.func33 (by kernel_rfl) rfl (fun args mem r hr _ => ?_)
  unfold fDigits at hr
  split at hr
  · rename_i k l
    split at hr
    · rename_i hc
      simp only [Bool.and_eq_true] at hc
      have e1 := of_decide_eq_true hc.1
      have e2 := Nat.eq_of_beq_eq_true hc.2
      subst e1
      simp only [Option.some.injEq] at hr
      subst hr
      have run := digits_run l
      rw [tab_eq 32 l e2] at run
      refine ⟨beq_le (by kernel_rfl), fun j b hj => (by simp at hj), fun b hb => ?_, fun hw _ => ⟨1000, _, run, Holds.nil, ⟨rfl, ?_, fun j hj => (by simp at hj)⟩⟩⟩
      · simp only [Option.some.injEq] at hb
        rw [← hb]
      · rw [dig2_digs l e2 (fun x hx => wf_u8.1 (hw (.agg .u8 l) (by simp) x hx))]
        rfl
    · cases hr
  · cases hr

/-! ### whole -/

noncomputable def bodyW : Code := (Tryd.f43.body).getD .skip
noncomputable def loopW : Code := loopC (blkC (seqR (seqL (post 1 bodyW))))
theorem bodyW_eq : Tryd.f43.body = some bodyW := by kernel_rfl
theorem postW_eq : post 1 bodyW = .seq (.seq (seqL (seqL (post 1 bodyW))) (.block 0 (.loop loopW))) (seqR (post 1 bodyW)) := by kernel_rfl

noncomputable abbrev wC (b : Bool) : Ctx := mkh (hintAt 14 b) primeF
theorem wC_ok (b : Bool) : (wC b).Ok := mkh_ok primeF_ok

def tmW (i : Int) : List A := [.slc gn 0 32 32, .any, .any, .int .i64 i] ++ List.replicate 18 .any
def hpW (b : Blk) : Hp := glz ++ [(gn, b)]

theorem preW_run (b : Blk) : execF (wC true) 100 (pre 1 bodyW) (gn + 1) [0, 2] (gks ++ [gn]) (s0 (wC true) 22 [.slc gn 0 32 32] [b]) = some (.normal, ⟨[.slc gn 0 32 32, .any, .bool false] ++ List.replicate 19 .any, hpW b, []⟩) := by kernel_rfl
theorem iniW_run (b : Blk) : execF (wC true) 100 (seqL (seqL (post 1 bodyW))) (gn + 1) [0, 3] (gks ++ [gn]) ⟨[.slc gn 0 32 32, .any, .bool false] ++ List.replicate 19 .any, hpW b, []⟩ = some (.normal, ⟨tmW 15, hpW b, []⟩) := by kernel_rfl

/-- A round of the look, from the highest digit down: the digit is p's. -/
def rdWF (n : Nat) : Prop := ∀ (t : TypeId) (rw : Bool) (l : List Int), execF (wC false) 100 loopW (gn + 1) [0, 3] (gks ++ [gn]) ⟨tmW (n : Int), hpW ⟨.i64, t, tab 32 l, rw⟩, []⟩ =
  some (.normal, ⟨tmW ((n : Int) - 1), hpW ⟨.i64, t, tab 32 l, rw⟩, [(l.getD n 0 != pd (n : Int)) = false]⟩)
/-- It is not. -/
def rdWT (n : Nat) : Prop := ∀ (t : TypeId) (rw : Bool) (l : List Int), execF (wC true) 100 loopW (gn + 1) [0, 2] (gks ++ [gn]) ⟨tmW (n : Int), hpW ⟨.i64, t, tab 32 l, rw⟩, []⟩ =
  some (.ret, ⟨[.slc gn 0 32 32, .any, .bool (decide (l.getD n 0 > pd (n : Int)))] ++ List.replicate 19 .any, hpW ⟨.i64, t, tab 32 l, rw⟩, [(l.getD n 0 != pd (n : Int)) = true]⟩)

theorem rdWF_all : ∀ n, n < 16 → rdWF n
  | 0, _ => fun _ _ _ => by kernel_rfl
  | 1, _ => fun _ _ _ => by kernel_rfl
  | 2, _ => fun _ _ _ => by kernel_rfl
  | 3, _ => fun _ _ _ => by kernel_rfl
  | 4, _ => fun _ _ _ => by kernel_rfl
  | 5, _ => fun _ _ _ => by kernel_rfl
  | 6, _ => fun _ _ _ => by kernel_rfl
  | 7, _ => fun _ _ _ => by kernel_rfl
  | 8, _ => fun _ _ _ => by kernel_rfl
  | 9, _ => fun _ _ _ => by kernel_rfl
  | 10, _ => fun _ _ _ => by kernel_rfl
  | 11, _ => fun _ _ _ => by kernel_rfl
  | 12, _ => fun _ _ _ => by kernel_rfl
  | 13, _ => fun _ _ _ => by kernel_rfl
  | 14, _ => fun _ _ _ => by kernel_rfl
  | 15, _ => fun _ _ _ => by kernel_rfl
  | n + 16, h => absurd h (by omega)

theorem rdWT_all : ∀ n, n < 16 → rdWT n
  | 0, _ => fun _ _ _ => by kernel_rfl
  | 1, _ => fun _ _ _ => by kernel_rfl
  | 2, _ => fun _ _ _ => by kernel_rfl
  | 3, _ => fun _ _ _ => by kernel_rfl
  | 4, _ => fun _ _ _ => by kernel_rfl
  | 5, _ => fun _ _ _ => by kernel_rfl
  | 6, _ => fun _ _ _ => by kernel_rfl
  | 7, _ => fun _ _ _ => by kernel_rfl
  | 8, _ => fun _ _ _ => by kernel_rfl
  | 9, _ => fun _ _ _ => by kernel_rfl
  | 10, _ => fun _ _ _ => by kernel_rfl
  | 11, _ => fun _ _ _ => by kernel_rfl
  | 12, _ => fun _ _ _ => by kernel_rfl
  | 13, _ => fun _ _ _ => by kernel_rfl
  | 14, _ => fun _ _ _ => by kernel_rfl
  | 15, _ => fun _ _ _ => by kernel_rfl
  | n + 16, h => absurd h (by omega)

theorem stopW_run (b : Blk) : execF (wC true) 100 loopW (gn + 1) [0] (gks ++ [gn]) ⟨tmW (-1), hpW b, []⟩ = some (.exit 0, ⟨[.slc gn 0 32 32] ++ List.replicate 21 .any, hpW b, []⟩) := by kernel_rfl
theorem endW_run (b : Blk) : endRes (wC true) Tryd.f43 100 (seqR (post 1 bodyW)) ⟨[.slc gn 0 32 32] ++ List.replicate 21 .any, hpW b, []⟩ [b] = some ⟨.bool true, [some b], none, []⟩ := by kernel_rfl

/-- From a digit on, downwards: is the number at least p's part? -/
def geP (l : List Int) : Nat → Bool
  | 0 => true
  | n + 1 => if l.getD n 0 = pd (n : Int) then geP l n else decide (l.getD n 0 > pd (n : Int))

def FinW (b : Blk) (v : Bool) : Ex → St → Prop := fun ex s' => (ex = .normal ∨ ex = .ret) ∧ ∃ u, resA (wC true) s' Tryd.f43.results.toList = some u ∧ Ends (wC true) [b] s' u ⟨.bool v, [none], none, []⟩

def muW (s : St) : Nat :=
  match tmOf s 3 with
  | .int _ i => (i + 1).toNat
  | _ => 0

theorem muW_tm (i : Int) (h : Hp) (ob : List Prop) : muW ⟨tmW i, h, ob⟩ = (i + 1).toNat := rfl

def fWhole : List A → List Blk → Option Res
  | [.slc i 0 n c], [b] => match Nat.beq i gn && Nat.beq n 32 && Nat.beq c 32 && decide (b.k = .i64) && Nat.beq b.l.length 32 with
    | true => some ⟨.bool (geP b.l 16), [none], none, []⟩
    | false => none
  | _, _ => none

theorem whole_ok : FnOk Tryd.prog gl 43 fWhole := by
  refine fnOk_of_tri (C := wC true) Tryd.func43 (by kernel_rfl) bodyW_eq (fun args mem r hr hob => ?_)
  unfold fWhole at hr
  split at hr
  · rename_i i n c b
    split at hr
    · rename_i hc
      simp only [Option.some.injEq] at hr
      subst hr
      simp only [Bool.and_eq_true] at hc
      obtain ⟨⟨⟨⟨hi, hn⟩, hcn⟩, hk⟩, hl⟩ := hc
      have hi' := Nat.eq_of_beq_eq_true hi
      have hn' := Nat.eq_of_beq_eq_true hn
      have hc' := Nat.eq_of_beq_eq_true hcn
      have hl' := Nat.eq_of_beq_eq_true hl
      have hk' := of_decide_eq_true hk
      obtain ⟨k, ty, l, rw⟩ := b
      simp only at hk' hl'
      subst hi' hc' hn' hk'
      refine ⟨beq_le (by kernel_rfl), fun j b hj => ?_, fun b hb => (by cases hb), fun _ _ => ?_⟩
      · match j, hj with
        | 0, hj => simp at hj
        | j + 1, hj => simp at hj
      have T32 := tab_eq 32 l hl'
      refine tri_preF (wC_ok true) (Nat.le_add_right _ _) 100 1 _ _ _ [0, 2] (gks ++ [gn]) (preW_run _) Holds.nil ?_
      rw [postW_eq]
      show Tri (wC true) (gn + 1) _ _ (FinW ⟨.i64, ty, l, rw⟩ (geP l 16))
      refine tri_seq (Mid := fun ex s => (ex = .normal ∧ geP l 16 = true ∧ s.tm = [.slc gn 0 32 32] ++ List.replicate 21 .any ∧ s.h = hpW ⟨.i64, ty, l, rw⟩) ∨ (ex = .ret ∧ FinW ⟨.i64, ty, l, rw⟩ (geP l 16) ex s)) ?_ (fun s1 h1 => ?_) (fun ex s1 hne h1 => ?_)
      · refine tri_seq (Mid := fun ex s => ex = .normal ∧ s = ⟨tmW 15, hpW ⟨.i64, ty, l, rw⟩, []⟩) (tri_execF (wC_ok true) (Nat.le_add_right gn 1) 100 _ _ (iniW_run _) Holds.nil ⟨rfl, rfl⟩) (fun s1 h1 => ?_) (fun ex s1 hne h1 => absurd h1.1 hne)
        obtain ⟨_, rfl⟩ := h1
        refine tri_block (tri_loop (fun s => ∃ n : Nat, n ≤ 16 ∧ s.tm = tmW ((n : Int) - 1) ∧ s.h = hpW ⟨.i64, ty, l, rw⟩ ∧ geP l 16 = geP l n) muW ⟨16, Nat.le_refl _, rfl, rfl, rfl⟩ (fun s hs => ?_))
        obtain ⟨tm, hp, ob⟩ := s
        obtain ⟨n, hn, rfl, rfl, hg⟩ := hs
        match n, hn, hg with
        | 0, _, hg =>
          refine tri_ob (tri_execF (wC_ok true) (Nat.le_add_right gn 1) 100 _ _ (stopW_run _) Holds.nil ?_)
          exact Or.inl ⟨rfl, hg, rfl, rfl⟩
        | n + 1, hn, hg =>
          have en : (((n + 1 : Nat) : Int) - 1) = (n : Int) := by omega
          rw [en]
          by_cases he : l.getD n 0 = pd (n : Int)
          · have run := rdWF_all n (by omega) ty rw l
            rw [T32] at run
            refine tri_ob (tri_ctx (tri_execF (wC_ok false) (Nat.le_add_right gn 1) 100 _ _ run (Holds.one (by rw [he]; exact bne_self_eq_false _)) ⟨⟨n, by omega, rfl, rfl, ?_⟩, ?_⟩))
            · rw [hg]
              show (if _ then _ else _) = _
              rw [if_pos he]
            · rw [muW_tm, muW_tm]; omega
          · have run := rdWT_all n (by omega) ty rw l
            rw [T32] at run
            refine tri_ob (tri_execF (wC_ok true) (Nat.le_add_right gn 1) 100 _ _ run (Holds.one (bne_iff_ne.2 he)) ?_)
            refine Or.inr ⟨rfl, Or.inr rfl, _, rfl, ⟨?_, rfl, fun j hj => ?_⟩⟩
            · rw [hg]
              show some _ = some (A.bool (if _ then _ else _))
              rw [if_neg he]
              rfl
            · match j, hj with
              | 0, _ => rfl
              | j + 1, hj => simp at hj
      · rcases h1 with ⟨_, hg, e1, e2⟩ | ⟨h, _⟩
        · obtain ⟨tm, hp, ob⟩ := s1
          subst e1 e2
          refine tri_ob (tri_end (wC_ok true) (endW_run _) Holds.nil ⟨by rw [hg], rfl, fun j hj => ?_⟩)
          match j, hj with
          | 0, _ => rfl
          | j + 1, hj => simp at hj
        · cases h
      · rcases h1 with ⟨h, _⟩ | ⟨_, h⟩
        · exact absurd h hne
        · exact h
    · cases hr
  · cases hr

end Go.Proofs.YtechbdggjfahhaaDoor.Sx
