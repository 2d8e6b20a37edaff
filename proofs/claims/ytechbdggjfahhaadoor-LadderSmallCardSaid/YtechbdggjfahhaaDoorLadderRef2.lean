/-
  The document's Times: its contract, the loop joined.
-/
import Derived.Test.YtechbdggjfahhaaDoorLadderRef
namespace Go.Proofs.YtechbdggjfahhaaDoor.Sx
open Go
set_option maxRecDepth 100000

def muY (s : St) : Nat :=
  match tmOf s 12 with
  | .int _ t => (t + 1).toNat
  | _ => 0

theorem muY_tm (t : Int) (h : Hp) (ob : List Prop) : muY ⟨tmY t, h, ob⟩ = (t + 1).toNat := rfl

theorem ok_swLL {b : Bool} {s : LL} (h : OkLL s) : OkLL (swLL b s) := by
  cases b
  · exact h
  · exact ⟨h.x3, h.z3, h.x2, h.z2⟩

theorem swapL_0 (s : L4) : swapL 0 s = s := if_pos (by decide)
theorem swapL_1 (s : L4) : swapL 1 s = ⟨s.x3, s.z3, s.x2, s.z2⟩ := if_neg (by decide)

theorem tri_loopY (K X : List Int) (s0 : LL) (hK : K.length = 32) (bK : ∀ x ∈ K, 0 ≤ x ∧ x < 256) (hX : X.length = 32) (h0 : OkLL s0) (e0 : numLL s0 = ladGo (num K) (num X) 0) :
    Tri (yC true true) gn (.block 0 (.loop loopY)) ⟨tmY 254, hpY K X s0, []⟩ (fun ex st => ex = .normal ∧ ∃ s : LL, OkLL s ∧ st.tm = tmY0 ∧ st.h = hpY K X s ∧ numLL s = ladGo (num K) (num X) 255) := by
  refine tri_block (tri_loop (fun st => ∃ (n : Nat) (s : LL), n ≤ 255 ∧ OkLL s ∧ st.tm = tmY (254 - (n : Int)) ∧ st.h = hpY K X s ∧ numLL s = ladGo (num K) (num X) n) muY
    ⟨0, s0, by decide, h0, rfl, rfl, e0⟩ (fun st hs => ?_))
  obtain ⟨tm, hpp, ob⟩ := st
  obtain ⟨n, s, hn, hok, rfl, rfl, hl⟩ := hs
  rcases Nat.lt_or_ge n 255 with h255 | h255
  · have hbit := bitR_eq hK bK (254 - n) (by omega)
    have hb01 := bit_01 (num K / 2 ^ (254 - n))
    have et : (254 : Int) - (n : Int) = ((254 - n : Nat) : Int) := by omega
    rw [et]
    have run := rdYs_get rdY_all (254 - n) (by omega) K X s
    rw [tab_eq 32 K hK, hbit] at run
    refine tri_ob (tri_preF (yC_ok true true) (Nat.le_refl gn) 200 1 _ _ _ _ _ (goY_run K X s _) (Holds.one (decide_eq_true (by omega))) ?_)
    rw [loopY_eq]
    have step : ladGo (num K) (num X) (n + 1) = swapL (num K / 2 ^ (254 - n) % 2) (stepL (num X) (swapL (num K / 2 ^ (254 - n) % 2) (ladGo (num K) (num X) n))) := rfl
    refine tri_ob (tri_seq (Mid := fun ex st => ex = .normal ∧ ∃ s' : LL, OkLL s' ∧ st.tm = tmY ((254 - n : Nat) : Int) ∧ st.h = hpY K X s' ∧ numLL s' = ladGo (num K) (num X) (n + 1)) ?_ (fun s1 h1 => ?_) (fun ex s1 hne h1 => absurd h1.1 hne))
    · refine tri_block ?_
      refine tri_preF (yC_ok true true) (Nat.le_refl gn) 200 1 _ _ _ _ _ run Holds.nil ?_
      rcases hb01 with hb | hb
      · rw [hb, swapL_0, swapL_0, ← hl, ← num_step] at step
        rw [hb]
        have rest := restY0_run K X s ((254 - n : Nat) : Int) 0
        rw [tab_eq 32 X hX, tabLL_eq hok] at rest
        exact tri_ctx (tri_execF (yC_ok true false) (Nat.le_refl gn) 400 _ _ rest (holds2 (by decide) (by decide)) ⟨rfl, _, ok_step _ _, rfl, rfl, step.symm⟩)
      · rw [hb, swapL_1, ← hl] at step
        rw [hb]
        have rest := restY1_run K X s ((254 - n : Nat) : Int) 1
        rw [tab_eq 32 X hX, tabLL_eq hok] at rest
        refine tri_execF (yC_ok true true) (Nat.le_refl gn) 400 _ _ rest (holds2 (by decide) (by decide)) ⟨rfl, _, ok_swLL (ok_step _ _), rfl, rfl, ?_⟩
        rw [step, swapL_1]
        have := num_step X (swLL true s)
        show (⟨(numLL (stepLL X (swLL true s))).x3, (numLL (stepLL X (swLL true s))).z3, (numLL (stepLL X (swLL true s))).x2, (numLL (stepLL X (swLL true s))).z2⟩ : L4) = _
        rw [this]
        rfl
    · obtain ⟨_, s', hok', e1, e2, hl'⟩ := h1
      obtain ⟨tm, hpp, ob⟩ := s1
      subst e1 e2
      have ew : IntKind.i64.wrap (((254 - n : Nat) : Int) - 1) = 254 - ((n + 1 : Nat) : Int) := by
        rw [i64w _ (by omega) (by omega)]
        omega
      have next := nextY_run K X s' ((254 - n : Nat) : Int)
      rw [ew] at next
      refine tri_ob (tri_execF (yC_ok true true) (Nat.le_refl gn) 100 _ _ next Holds.nil ⟨⟨n + 1, s', h255, hok', rfl, rfl, hl'⟩, ?_⟩)
      rw [muY_tm, muY_tm]
      omega
  · have e : n = 255 := by omega
    subst e
    refine tri_ob (tri_ctx (tri_execF (yC_ok false true) (Nat.le_refl gn) 200 _ _ (stopY_run K X s _) (Holds.one (by decide)) ?_))
    exact ⟨rfl, s, hok, rfl, rfl, hl⟩

theorem rtimes_val {k u : List Int} (hk : k.length = 32) (bk : ∀ x ∈ k, 0 ≤ x ∧ x < 256) (hu : u.length = 32) (bu : ∀ x ∈ u, 0 ≤ x ∧ x < 256) (s : LL) (hl : numLL s = ladGo (num (trimB k)) (num (cC (maskU u))) 255) :
    cM s.x2 (cI s.z2) = bytesOf 32 (lad (tkN (num k)) (num u % 57896044618658097711785492504343953926634992332820282019728792003956564819968)) := by
  have hc := lad_congr (num (trimB k)) (R_mod (num (maskU u)))
  rw [← num_trimB hk bk, ← num_maskU hu bu, ← hc, ← num_cC, lad_def, ← hl, cM_cI]
  rfl

theorem rtimes_ok : FnOk Tryd.prog gl 15 fTimes := by
  refine fnOk_of_tri (C := yC true true) Tryd.func15 (by kernel_rfl) bodyY_eq (fun args mem r hr hob => ?_)
  unfold fTimes F2 at hr
  split at hr
  · rename_i k0 k k2 u
    split at hr
    · rename_i hc
      simp only [Bool.and_eq_true] at hc
      have e0 := of_decide_eq_true hc.1.1.1
      have e1 := of_decide_eq_true hc.1.1.2
      have hk := Nat.eq_of_beq_eq_true hc.1.2
      have hu := Nat.eq_of_beq_eq_true hc.2
      subst e0; subst e1
      simp only [Option.some.injEq] at hr
      subst hr
      refine ⟨beq_le (by kernel_rfl), fun j b hj => (by simp at hj), fun b hb => (by cases hb), fun hw _ => ?_⟩
      have bk : ∀ x ∈ k, 0 ≤ x ∧ x < 256 := fun x hx => wf_u8.1 (hw (.agg .u8 k) (by simp) x hx)
      have bu : ∀ x ∈ u, 0 ≤ x ∧ x < 256 := fun x hx => wf_u8.1 (hw (.agg .u8 u) (by simp) x hx)
      have run := preY_run k u
      rw [tab_eq 32 k hk, tab_eq 32 u hu] at run
      have hK : (trimB k).length = 32 := by rw [trimB_length]; exact hk
      have okX : (cC (maskU u)).length = 32 ∧ ∀ x ∈ cC (maskU u), 0 ≤ x ∧ x < 256 := ok_bytes _
      have ok0 : OkLL ⟨oneL, zeroL, cC (maskU u), oneL⟩ := ⟨ok_oneL, ok_zeroL, okX, ok_oneL⟩
      refine tri_preF (yC_ok true true) (Nat.le_refl _) 200 9 _ _ _ _ _ run Holds.nil ?_
      rw [postY_eq]
      refine tri_seq (Mid := fun ex st => ex = .normal ∧ ∃ s : LL, OkLL s ∧ st.tm = tmY0 ∧ st.h = hpY (trimB k) (cC (maskU u)) s ∧ numLL s = ladGo (num (trimB k)) (num (cC (maskU u))) 255) ?_ (fun s1 h1 => ?_) (fun ex s1 hne h1 => absurd h1.1 hne)
      · refine tri_seq (Mid := fun ex st => ex = .normal ∧ st = ⟨tmY 254, hpY (trimB k) (cC (maskU u)) ⟨oneL, zeroL, cC (maskU u), oneL⟩, []⟩) (tri_execF (yC_ok true true) (Nat.le_refl gn) 200 _ _ (iniY_run _ _ _) Holds.nil ⟨rfl, rfl⟩) (fun s1 h1 => ?_) (fun ex s1 hne h1 => absurd h1.1 hne)
        obtain ⟨_, rfl⟩ := h1
        refine tri_loopY (trimB k) (cC (maskU u)) _ hK (trimB_bytes hk bk) okX.1 ok0 ?_
        show (⟨num oneL, num zeroL, num (cC (maskU u)), num oneL⟩ : L4) = ⟨1, 0, num (cC (maskU u)), 1⟩
        rw [num_oneL, num_zeroL]
      · obtain ⟨_, s, hok, t1, t2, hl⟩ := h1
        obtain ⟨tm, hp, ob⟩ := s1
        subst t1 t2
        have fin := endY_run (trimB k) (cC (maskU u)) s
        rw [tabLL_eq hok, tab_eq 32 s.x2 hok.x2.1, tab_eq 32 s.z2 hok.z2.1] at fin
        refine tri_ob (tri_end (yC_ok true true) fin Holds.nil ⟨?_, rfl, fun j hj => (by simp at hj)⟩)
        exact congrArg (A.agg .u8) (rtimes_val hk bk hu bu s hl)
    · cases hr
  · cases hr

end Go.Proofs.YtechbdggjfahhaaDoor.Sx
