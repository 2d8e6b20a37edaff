/-
  The document's Mul: its contract.
-/
import Derived.Test.YtechbdggjfahhaaDoorCurveRefE
namespace Go.Proofs.YtechbdggjfahhaaDoor.Sx
open Go
set_option maxRecDepth 100000

theorem getD_set_ne (l : List Int) (n m : Nat) (v : Int) (h : n ≠ m) : (l.set n v).getD m 0 = l.getD m 0 := by
  rw [List.getD, List.getElem?_set_ne h, List.getD]

theorem getD_nonneg {l : List Int} {B : Int} (hB : 0 ≤ B) (h : ∀ x ∈ l, 0 ≤ x ∧ x ≤ B) (n : Nat) : 0 ≤ l.getD n 0 ∧ l.getD n 0 ≤ B := by
  rcases Nat.lt_or_ge n l.length with h1 | h1
  · exact h _ (getD_mem h1)
  · rw [List.getD, List.getElem?_eq_none h1]
    exact ⟨Int.le_refl _, hB⟩

theorem rowGo_law (i : Nat) (hi : i < 16) (X Y T : List Int) (hX : X.length = 16) (hY : Y.length = 16) (hT : T.length = 32) (bX : ∀ x ∈ X, 0 ≤ x ∧ x < 65536) (bY : ∀ x ∈ Y, 0 ≤ x ∧ x < 65536) (B : Int) (hB : 0 ≤ B) (hB1 : B ≤ 1152921504606846976) (bT : ∀ x ∈ T, 0 ≤ x ∧ x ≤ B) :
    ∀ k, k ≤ 16 → (rowGo i X Y k T).length = 32 ∧ (∀ x ∈ rowGo i X Y k T, 0 ≤ x ∧ x ≤ B + 4294836225) ∧ (∀ j, i + k ≤ j → (rowGo i X Y k T).getD j 0 = T.getD j 0) ∧
      dnum 16 (rowGo i X Y k T) = dnum 16 T + 2 ^ (16 * i) * (X.getD i 0 * dnum 16 (Y.take k))
  | 0, _ => ⟨hT, fun x hx => by have := bT x hx; omega, fun _ _ => rfl, by simp [rowGo, dnum]⟩
  | k + 1, hk => by
    obtain ⟨h1, h2, h3, h4⟩ := rowGo_law i hi X Y T hX hY hT bX bY B hB hB1 bT k (by omega)
    have hx := bX _ (getD_mem (show i < X.length by omega))
    have hy := bY _ (getD_mem (show k < Y.length by omega))
    have ht := getD_nonneg hB bT (i + k)
    have e3 := h3 (i + k) (Nat.le_refl _)
    have m0 : 0 ≤ X.getD i 0 * Y.getD k 0 := Int.mul_nonneg hx.1 hy.1
    have m1 : X.getD i 0 * Y.getD k 0 ≤ 65535 * 65535 := Int.mul_le_mul (by omega) (by omega) hy.1 (by decide)
    have ev : WI ((rowGo i X Y k T).getD (i + k) 0 + WI (X.getD i 0 * Y.getD k 0)) = T.getD (i + k) 0 + X.getD i 0 * Y.getD k 0 := by
      rw [e3, WIw (X.getD i 0 * Y.getD k 0) (by omega) (by omega), WIw _ (by omega) (by omega)]
    have er : rowGo i X Y (k + 1) T = (rowGo i X Y k T).set (i + k) (T.getD (i + k) 0 + X.getD i 0 * Y.getD k 0) := by
      show (rowGo i X Y k T).set (i + k) _ = _
      rw [ev]
    rw [er]
    refine ⟨by rw [List.length_set]; exact h1, fun x hx' => ?_, fun j hj => ?_, ?_⟩
    · rcases List.mem_or_eq_of_mem_set hx' with hx' | rfl
      · exact h2 x hx'
      · omega
    · rw [getD_set_ne _ _ _ _ (by omega), h3 j (by omega)]
    · rw [dnum_set 16 _ _ _ (by omega), h4, e3, dnum_take_succ 16 Y k (by omega), Nat.mul_add, Int.pow_add]
      generalize X.getD i 0 = x at *
      generalize Y.getD k 0 = y at *
      generalize (2 : Int) ^ (16 * i) = P
      generalize (2 : Int) ^ (16 * k) = Q
      generalize dnum 16 (Y.take k) = D
      generalize T.getD (i + k) 0 = t
      generalize dnum 16 T = N
      grind

def muM (s : St) : Nat :=
  match tmOf s 8 with
  | .int _ i => (16 - i).toNat
  | _ => 0

theorem muM_tm (i : Int) (h : Hp) (ob : List Prop) : muM ⟨tmM i, h, ob⟩ = (16 - i).toNat := rfl

theorem tri_loopM (X Y : List Int) (hX : X.length = 16) (hY : Y.length = 16) (bX : ∀ x ∈ X, 0 ≤ x ∧ x < 65536) (bY : ∀ x ∈ Y, 0 ≤ x ∧ x < 65536) :
    Tri (mk ref1F) gn (.block 0 (.loop loopM)) ⟨tmM 0, hpM X Y (List.replicate 32 0), []⟩ (fun ex s => ex = .normal ∧ ∃ T, T.length = 32 ∧ s.tm = tmM0 ∧ s.h = hpM X Y T ∧ (∀ x ∈ T, okD x) ∧ dnum 16 T = dnum 16 X * dnum 16 Y) := by
  refine tri_block (tri_loop (fun s => ∃ (n : Nat) (T : List Int), n ≤ 16 ∧ T.length = 32 ∧ s.tm = tmM (n : Int) ∧ s.h = hpM X Y T ∧ (∀ x ∈ T, 0 ≤ x ∧ x ≤ n * 4294836225) ∧ dnum 16 T = dnum 16 (X.take n) * dnum 16 Y) muM
    ⟨0, List.replicate 32 0, by decide, rfl, rfl, rfl, fun x hx => (by have := List.eq_of_mem_replicate hx; omega), by
      have : dnum 16 (List.replicate 32 0) = 0 := by decide
      rw [this]
      simp [dnum]⟩ (fun s hs => ?_))
  obtain ⟨tm, hpp, ob⟩ := s
  obtain ⟨n, T, hn, hT, rfl, rfl, hb, hd⟩ := hs
  rcases Nat.lt_or_ge n 16 with h16 | h16
  · obtain ⟨g1, g2, -, g4⟩ := rowGo_law n h16 X Y T hX hY hT bX bY ((n : Int) * 4294836225) (by omega) (by omega) hb 16 (Nat.le_refl _)
    have run := rdM_all n h16 X Y T
    rw [tab_eq 16 X hX, tab_eq 16 Y hY, tab_eq 32 T hT] at run
    refine tri_ob (tri_execF (mk_ok ref1F_ok) (Nat.le_refl _) 400 _ _ run Holds.nil ⟨⟨n + 1, _, h16, g1, rfl, rfl, fun x hx => ?_, ?_⟩, ?_⟩)
    · have := g2 x hx
      omega
    · rw [g4, hd, dnum_take_succ 16 X n (by omega), List.take_of_length_le (show Y.length ≤ 16 by omega), Int.add_mul, Int.mul_assoc]
    · rw [muM_tm, muM_tm]; omega
  · have e : n = 16 := by omega
    subst e
    rw [List.take_of_length_le (show X.length ≤ 16 by omega)] at hd
    refine tri_ob (tri_execF (mk_ok ref1F_ok) (Nat.le_refl _) 400 _ _ (stopM_run X Y T) Holds.nil ?_)
    exact ⟨rfl, T, hT, rfl, rfl, fun x hx => (by have := hb x hx; constructor <;> omega), hd⟩

theorem rmul_ok : FnOk Tryd.prog gl 29 fMul := by
  refine fnOk_of_tri (C := mk ref1F) Tryd.func29 (by kernel_rfl) bodyM_eq (fun args mem r hr hob => ?_)
  unfold fMul F2 at hr
  split at hr
  · rename_i k0 l k2 m
    split at hr
    · rename_i hc
      simp only [Bool.and_eq_true] at hc
      have e0 := of_decide_eq_true hc.1.1.1
      have e1 := of_decide_eq_true hc.1.1.2
      have hl := Nat.eq_of_beq_eq_true hc.1.2
      have hm := Nat.eq_of_beq_eq_true hc.2
      subst e0; subst e1
      simp only [Option.some.injEq] at hr
      subst hr
      refine ⟨beq_le (by kernel_rfl), fun j b hj => (by simp at hj), fun b hb => (by cases hb), fun hw _ => ?_⟩
      have rl := num32_range hl (hw (.agg .u8 l) (by simp))
      have rm := num32_range hm (hw (.agg .u8 m) (by simp))
      have run := preM_run l m
      rw [tab_eq 32 l hl, tab_eq 32 m hm] at run
      refine tri_preF (mk_ok ref1F_ok) (Nat.le_refl _) 200 4 _ _ _ [4, 5, 6, 7] (gks ++ [gn + 2, gn + 3, gn + 4, gn + 5]) run Holds.nil ?_
      rw [postM_eq]
      refine tri_seq (Mid := fun ex s => ex = .normal ∧ ∃ T, T.length = 32 ∧ s.tm = tmM0 ∧ s.h = hpM (digsOf 16 16 (num l)) (digsOf 16 16 (num m)) T ∧ (∀ x ∈ T, okD x) ∧ dnum 16 T = dnum 16 (digsOf 16 16 (num l)) * dnum 16 (digsOf 16 16 (num m))) ?_ (fun s1 h1 => ?_) (fun ex s1 hne h1 => absurd h1.1 hne)
      · refine tri_seq (Mid := fun ex s => ex = .normal ∧ s = ⟨tmM 0, hpM (digsOf 16 16 (num l)) (digsOf 16 16 (num m)) (List.replicate 32 0), []⟩) (tri_execF (mk_ok ref1F_ok) (Nat.le_refl _) 100 _ _ (iniM_run _ _ _) Holds.nil ⟨rfl, rfl⟩) (fun s1 h1 => ?_) (fun ex s1 hne h1 => absurd h1.1 hne)
        obtain ⟨_, rfl⟩ := h1
        exact tri_loopM _ _ (digsOf16_length _) (digsOf16_length _) (dig16_range _) (dig16_range _)
      · obtain ⟨_, T, hT, t1, t2, hok, hd⟩ := h1
        obtain ⟨tm, hp, ob⟩ := s1
        subst t1 t2
        have fin := endM_run (digsOf 16 16 (num l)) (digsOf 16 16 (num m)) T
        rw [tab_eq 32 T hT, hd, digs_dnum _ rl, digs_dnum _ rm] at fin
        exact tri_ob (tri_end (mk_ok ref1F_ok) fin (holds_map hok) ⟨rfl, rfl, fun j hj => (by simp at hj)⟩)
    · cases hr
  · cases hr

end Go.Proofs.YtechbdggjfahhaaDoor.Sx
