/-
  ladder's Times: its contract, the loop joined.
-/
import Derived.Test.YtechbdggjfahhaaDoorLadderTimes
namespace Go.Proofs.YtechbdggjfahhaaDoor.Sx
open Go
set_option maxRecDepth 100000

theorem tabLL_eq {s : LL} (h : OkLL s) : tabLL s = s := by
  obtain ⟨a, b, c, d⟩ := s
  unfold tabLL
  rw [tab_eq 32 a h.x2.1, tab_eq 32 b h.z2.1, tab_eq 32 c h.x3.1, tab_eq 32 d h.z3.1]

def muT (s : St) : Nat :=
  match tmOf s 30 with
  | .int _ i => (255 - i).toNat
  | _ => 0

theorem muT_tm (last i : Int) (h : Hp) (ob : List Prop) : muT ⟨tmT last i, h, ob⟩ = (255 - i).toNat := rfl

theorem swapLL_ok {s : LL} (x : Int) : OkLL (swapLL x s) := ⟨ok_bytes _, ok_bytes _, ok_bytes _, ok_bytes _⟩

/-- The bit that a round leaves behind. -/
def lastN (K : Int) (n : Nat) : Int := if n = 0 then 0 else K / 2 ^ (255 - n) % 2

theorem lastN_01 (K : Int) (n : Nat) : lastN K n = 0 ∨ lastN K n = 1 := by
  unfold lastN
  split
  · exact Or.inl rfl
  · exact bit_01 _

theorem tri_loopT (K U : List Int) (s0 : LL) (hK : K.length = 32) (bK : ∀ x ∈ K, 0 ≤ x ∧ x < 256) (hU : U.length = 32) (h0 : OkLL s0) (e0 : numLL s0 = ladGo (num K) (num U) 0) :
    Tri (tC true) gn (.block 0 (.loop loopT)) ⟨tmT 0 0, hpT K U s0, []⟩ (fun ex st => ex = .normal ∧ ∃ s : LL, OkLL s ∧ st.tm = tmT0 (lastN (num K) 255) ∧ st.h = hpT K U s ∧ swapL (lastN (num K) 255) (numLL s) = ladGo (num K) (num U) 255) := by
  refine tri_block (tri_loop (fun st => ∃ (n : Nat) (s : LL), n ≤ 255 ∧ OkLL s ∧ st.tm = tmT (lastN (num K) n) (n : Int) ∧ st.h = hpT K U s ∧ swapL (lastN (num K) n) (numLL s) = ladGo (num K) (num U) n) muT
    ⟨0, s0, by decide, h0, rfl, rfl, e0⟩ (fun st hs => ?_))
  obtain ⟨tm, hpp, ob⟩ := st
  obtain ⟨n, s, hn, hok, rfl, rfl, hl⟩ := hs
  rcases Nat.lt_or_ge n 255 with h255 | h255
  · have hbit := bitR_eq hK bK (254 - n) (by omega)
    have hb01 := bit_01 (num K / 2 ^ (254 - n))
    have hlast : num K / 2 ^ (254 - n) % 2 = lastN (num K) (n + 1) := by
      unfold lastN
      rw [if_neg (by omega)]
      congr 3
      omega
    have run := rdTs_get rdT_all n h255 K U s (lastN (num K) n)
    rw [tab_eq 32 K hK, hbit] at run
    have rest := restT_run K U s (lastN (num K) n) (n : Int) (num K / 2 ^ (254 - n) % 2)
    rw [tab_eq 32 U hU, tabLL_eq hok] at rest
    refine tri_ob (tri_preF (tC_ok true) (Nat.le_refl gn) 200 2 _ _ _ _ _ (goT_run K U s _ _) (Holds.one (decide_eq_true (by omega))) ?_)
    rw [loopT_eq]
    refine tri_ob (tri_seq (Mid := fun ex st => ex = .normal ∧ st = ⟨tmT (num K / 2 ^ (254 - n) % 2) (n : Int), hpT K U (stepLL U (swapLL (bits .xor .u8 (num K / 2 ^ (254 - n) % 2) (lastN (num K) n)) s)), []⟩) ?_ (fun s1 h1 => ?_) (fun ex s1 hne h1 => absurd h1.1 hne))
    · refine tri_block ?_
      refine tri_preF (tC_ok true) (Nat.le_refl gn) 200 3 _ _ _ _ _ run Holds.nil ?_
      exact tri_execF (tC_ok true) (Nat.le_refl gn) 400 _ _ rest Holds.nil ⟨rfl, rfl⟩
    · obtain ⟨_, rfl⟩ := h1
      have ew : IntKind.i64.wrap ((n : Int) + 1) = ((n + 1 : Nat) : Int) := by
        rw [i64w _ (by omega) (by omega)]
        omega
      have next := nextT_run K U (stepLL U (swapLL (bits .xor .u8 (num K / 2 ^ (254 - n) % 2) (lastN (num K) n)) s)) (num K / 2 ^ (254 - n) % 2) (n : Int)
      rw [ew] at next
      refine tri_execF (tC_ok true) (Nat.le_refl gn) 100 _ _ next Holds.nil ⟨⟨n + 1, _, h255, ok_step _ _, by rw [hlast], rfl, ?_⟩, ?_⟩
      · rw [num_step, num_swap hok, ← swapL_swapL hb01 (lastN_01 _ _), hl, ← hlast]
        rfl
      · rw [muT_tm, muT_tm]
        omega
  · have e : n = 255 := by omega
    subst e
    refine tri_ob (tri_ctx (tri_execF (tC_ok false) (Nat.le_refl gn) 200 _ _ (stopT_run K U s _ _) (Holds.one (by decide)) ?_))
    exact ⟨rfl, s, hok, rfl, rfl, hl⟩

theorem ok_zeroL : zeroL.length = 32 ∧ ∀ x ∈ zeroL, 0 ≤ x ∧ x < 256 := ⟨rfl, fun x hx => by
  have := List.eq_of_mem_replicate hx
  omega⟩
theorem ok_oneL : oneL.length = 32 ∧ ∀ x ∈ oneL, 0 ≤ x ∧ x < 256 := ⟨rfl, fun x hx => by
  rcases List.mem_cons.1 hx with rfl | hx
  · omega
  · have := List.eq_of_mem_replicate hx
    omega⟩
theorem num_zeroL : num zeroL = 0 := by decide
theorem num_oneL : num oneL = 1 := by decide

theorem cM_cI (a b : List Int) : cM a (cI b) = bytesOf 32 (num a * inv (num b) % p25) := by
  unfold cM
  rw [num_cI]
  unfold inv
  rfl

theorem lad_def (k u : Int) : lad k u = (ladGo k u 255).x2 * inv (ladGo k u 255).z2 % p25 := by
  unfold lad
  rfl

theorem times_val {k u : List Int} (hk : k.length = 32) (bk : ∀ x ∈ k, 0 ≤ x ∧ x < 256) (hu : u.length = 32) (bu : ∀ x ∈ u, 0 ≤ x ∧ x < 256) (s : LL) (hok : OkLL s) (b : Int) (hl : swapL b (numLL s) = ladGo (num (trimB k)) (num (maskU u)) 255) :
    cM (cP b s.x2 s.x3) (cI (cP b s.z2 s.z3)) = bytesOf 32 (lad (tkN (num k)) (num u % 57896044618658097711785492504343953926634992332820282019728792003956564819968)) := by
  rw [lad_def, ← num_trimB hk bk, ← num_maskU hu bu, ← hl, cM_cI, num_cP hok.x2 hok.x3, num_cP hok.z2 hok.z3]
  unfold swapL
  split <;> rfl

theorem times_ok : FnOk Tryd.prog gl 14 fTimes := by
  refine fnOk_of_tri (C := tC true) Tryd.func14 (by kernel_rfl) bodyT_eq (fun args mem r hr hob => ?_)
  unfold fTimes F2 at hr
  split at hr
  · rename_i k0 k k2 u
    split at hr
    · rename_i hc
      simp only [Bool.and_eq_true] at hc
      have e0 := of_decide_eq_true hc.1.1.1
      have e1 := of_decide_eq_true hc.1.1.2
      have hk := Nat.eq_of_beq_eq_true hc.1.2
      have hu := Nat.eq_of_beq_eq_true hc.2
      subst e0; subst e1
      simp only [Option.some.injEq] at hr
      subst hr
      refine ⟨beq_le (by kernel_rfl), fun j b hj => (by simp at hj), fun b hb => (by cases hb), fun hw _ => ?_⟩
      have bk : ∀ x ∈ k, 0 ≤ x ∧ x < 256 := fun x hx => wf_u8.1 (hw (.agg .u8 k) (by simp) x hx)
      have bu : ∀ x ∈ u, 0 ≤ x ∧ x < 256 := fun x hx => wf_u8.1 (hw (.agg .u8 u) (by simp) x hx)
      have run := preT_run k u
      rw [tab_eq 32 k hk, tab_eq 32 u hu] at run
      have hK : (trimB k).length = 32 := by rw [trimB_length]; exact hk
      have hU : (maskU u).length = 32 := by rw [maskU_length]; exact hu
      have okU : (maskU u).length = 32 ∧ ∀ x ∈ maskU u, 0 ≤ x ∧ x < 256 := ⟨hU, maskU_bytes bu⟩
      have ok0 : OkLL ⟨oneL, zeroL, maskU u, oneL⟩ := ⟨ok_oneL, ok_zeroL, okU, ok_oneL⟩
      refine tri_preF (tC_ok true) (Nat.le_refl _) 200 6 _ _ _ _ _ run Holds.nil ?_
      rw [postT_eq]
      refine tri_seq (Mid := fun ex st => ex = .normal ∧ ∃ s : LL, OkLL s ∧ st.tm = tmT0 (lastN (num (trimB k)) 255) ∧ st.h = hpT (trimB k) (maskU u) s ∧ swapL (lastN (num (trimB k)) 255) (numLL s) = ladGo (num (trimB k)) (num (maskU u)) 255) ?_ (fun s1 h1 => ?_) (fun ex s1 hne h1 => absurd h1.1 hne)
      · refine tri_seq (Mid := fun ex st => ex = .normal ∧ st = ⟨tmT 0 0, hpT (trimB k) (maskU u) ⟨oneL, zeroL, maskU u, oneL⟩, []⟩) (tri_execF (tC_ok true) (Nat.le_refl gn) 200 _ _ (iniT_run _ _ _ _) Holds.nil ⟨rfl, rfl⟩) (fun s1 h1 => ?_) (fun ex s1 hne h1 => absurd h1.1 hne)
        obtain ⟨_, rfl⟩ := h1
        refine tri_loopT (trimB k) (maskU u) _ hK (trimB_bytes hk bk) hU ok0 ?_
        show (⟨num oneL, num zeroL, num (maskU u), num oneL⟩ : L4) = ⟨1, 0, num (maskU u), 1⟩
        rw [num_oneL, num_zeroL]
      · obtain ⟨_, s, hok, t1, t2, hl⟩ := h1
        obtain ⟨tm, hp, ob⟩ := s1
        subst t1 t2
        have fin := endT_run (trimB k) (maskU u) s (lastN (num (trimB k)) 255)
        rw [tabLL_eq hok, tab_eq 32 s.x2 hok.x2.1, tab_eq 32 s.x3 hok.x3.1, tab_eq 32 s.z2 hok.z2.1, tab_eq 32 s.z3 hok.z3.1] at fin
        refine tri_ob (tri_end (tC_ok true) fin Holds.nil ⟨?_, rfl, fun j hj => (by simp at hj)⟩)
        exact congrArg (A.agg .u8) (times_val hk bk hu bu s hok _ hl)
    · cases hr
  · cases hr

end Go.Proofs.YtechbdggjfahhaaDoor.Sx
