/-
  The document's reduce: its contract.
-/
import Derived.Test.YtechbdggjfahhaaDoorCurveRefB
namespace Go.Proofs.YtechbdggjfahhaaDoor.Sx
open Go
set_option maxRecDepth 100000

theorem p16 : (2 : Int) ^ 16 = 65536 := by decide

theorem tmod16 (n : Int) (h : 0 ≤ n) : n.tmod 65536 = n % 65536 := Int.tmod_eq_emod_of_nonneg h
theorem tdiv16 (n : Int) (h : 0 ≤ n) : n.tdiv 65536 = n / 65536 := Int.tdiv_eq_ediv_of_nonneg h

theorem fold38_law : ∀ (l m : List Int), l.length = m.length → (∀ x ∈ l, 0 ≤ x ∧ x < 4503599627370496) → (∀ x ∈ m, 0 ≤ x ∧ x < 4503599627370496) →
    (fold38 l m).length = l.length ∧ (∀ x ∈ fold38 l m, 0 ≤ x ∧ x < 1152921504606846976) ∧ dnum 16 (fold38 l m) = dnum 16 l + 38 * dnum 16 m
  | [], [], _, _, _ => ⟨rfl, by simp [fold38], rfl⟩
  | [], y :: m, h, _, _ => by simp at h
  | x :: l, [], h, _, _ => by simp at h
  | x :: l, y :: m, h, hl, hm => by
    obtain ⟨h1, h2, h3⟩ := fold38_law l m (by simpa using h) (fun z hz => hl z (by simp [hz])) (fun z hz => hm z (by simp [hz]))
    have hx := hl x (by simp)
    have hy := hm y (by simp)
    have e : WI (x + WI (38 * y)) = x + 38 * y := by rw [WIw (38 * y) (by omega) (by omega), WIw _ (by omega) (by omega)]
    refine ⟨by simp [fold38, h1], fun z hz => ?_, ?_⟩
    · simp only [fold38, List.mem_cons] at hz
      rcases hz with rfl | hz
      · rw [e]; omega
      · exact h2 z hz
    · simp only [fold38, dnum, e, h3, p16]
      omega

theorem carryL_law : ∀ (l : List Int) (r : Int), 0 ≤ r → r < 2305843009213693952 → (∀ x ∈ l, 0 ≤ x ∧ x < 1152921504606846976) →
    (carryL r l).1.length = l.length ∧ (∀ x ∈ (carryL r l).1, 0 ≤ x ∧ x < 65536) ∧ 0 ≤ (carryL r l).2 ∧ (l = [] → (carryL r l).2 = r) ∧ (l ≠ [] → (carryL r l).2 < 70368744177664) ∧
    r + dnum 16 l = dnum 16 (carryL r l).1 + 2 ^ (16 * l.length) * (carryL r l).2
  | [], r, h0, _, _ => ⟨rfl, by simp [carryL], h0, fun _ => rfl, fun h => absurd rfl h, by simp [carryL, dnum]⟩
  | x :: l, r, h0, h1, hl => by
    have hx := hl x (by simp)
    have e1 : WI (r + x) = r + x := WIw _ (by omega) (by omega)
    have e2 : WI ((r + x).tdiv 65536) = (r + x) / 65536 := by rw [tdiv16 _ (by omega), WIw _ (by omega) (by omega)]
    obtain ⟨g1, g2, g3, g4, g5, g6⟩ := carryL_law l ((r + x) / 65536) (by omega) (by omega) (fun z hz => hl z (by simp [hz]))
    have ec : carryL r (x :: l) = ((r + x) % 65536 :: (carryL ((r + x) / 65536) l).1, (carryL ((r + x) / 65536) l).2) := by
      simp only [carryL]
      rw [e1, e2, tmod16 _ (by omega)]
    rw [ec]
    refine ⟨by simp [g1], fun z hz => ?_, g3, fun h => absurd h (by simp), fun _ => ?_, ?_⟩
    · simp only [List.mem_cons] at hz
      rcases hz with rfl | hz
      · omega
      · exact g2 z hz
    · by_cases hn : l = []
      · have := g4 hn
        simp only
        omega
      · exact g5 hn
    · simp only [dnum, List.length_cons]
      rw [Nat.mul_add, Nat.mul_one, Int.pow_add, p16, Int.mul_comm (2 ^ (16 * l.length)), Int.mul_assoc]
      have : r + (x + 65536 * dnum 16 l) = (r + x) % 65536 + 65536 * ((r + x) / 65536 + dnum 16 l) := by omega
      rw [this, g6, Int.mul_add]
      omega

theorem p256 : (2 : Int) ^ (16 * 16) = 115792089237316195423570985008687907853269984665640564039457584007913129639936 := by decide

theorem rndA_law (l : List Int) (hl : l.length = 16) (h : ∀ x ∈ l, 0 ≤ x ∧ x < 1152921504606846976) :
    (rndA l).length = 16 ∧ 0 ≤ (carryL 0 l).2 ∧ (∀ x ∈ rndA l, 0 ≤ x ∧ x < 1152921504606846976) ∧ ((carryL 0 l).2 = 0 → ∀ x ∈ rndA l, 0 ≤ x ∧ x < 65536) ∧ 0 ≤ dnum 16 (rndA l) ∧
    dnum 16 l = dnum 16 (rndA l) + 115792089237316195423570985008687907853269984665640564039457584007913129639898 * (carryL 0 l).2 := by
  obtain ⟨g1, g2, g3, -, g5, g6⟩ := carryL_law l 0 (by decide) (by decide) h
  have hne : l ≠ [] := fun e => by rw [e] at hl; cases hl
  have g5' := g5 hne
  have hdn := (dnum_range 16 (carryL 0 l).1 (by rw [p16]; exact g2)).1
  unfold rndA
  rw [hl, p256] at g6
  rw [hl] at g1
  generalize (carryL 0 l).2 = c at *
  generalize (carryL 0 l).1 = ds at *
  match ds, g1, g2, g6, hdn with
  | d :: ds, g1, g2, g6, hdn =>
    have hd := g2 d (by simp)
    have e : WI (d + WI (38 * c)) = d + 38 * c := by rw [WIw (38 * c) (by omega) (by omega), WIw _ (by omega) (by omega)]
    simp only
    rw [e]
    refine ⟨g1, g3, fun x hx => ?_, fun hc x hx => ?_, ?_, ?_⟩
    · rcases List.mem_cons.1 hx with rfl | hx
      · omega
      · have := g2 x (by simp [hx]); omega
    · rcases List.mem_cons.1 hx with rfl | hx
      · omega
      · exact g2 x (by simp [hx])
    · simp only [dnum] at hdn ⊢
      omega
    · simp only [dnum] at g6 ⊢
      omega

/-! ### whole, and p taken away -/

def Pn : Nat → Int
  | 0 => 0
  | n + 1 => Pn n + 2 ^ (16 * n) * pd (n : Int)

theorem Pn16 : Pn 16 = p25 := by decide

theorem pd_range (i : Int) : 0 ≤ pd i ∧ pd i < 65536 := by
  unfold pd
  split
  · decide
  · split <;> decide

theorem Pn_range : ∀ n, 0 ≤ Pn n ∧ Pn n < 2 ^ (16 * n)
  | 0 => by decide
  | n + 1 => by
    obtain ⟨h0, h1⟩ := Pn_range n
    have hd := pd_range (n : Int)
    have hp := pp (16 * n)
    have m0 := Int.mul_nonneg (Int.le_of_lt hp) hd.1
    have m1 : 2 ^ (16 * n) * pd (n : Int) ≤ 2 ^ (16 * n) * 65535 := Int.mul_le_mul_of_nonneg_left (by omega) (Int.le_of_lt hp)
    simp only [Pn]
    rw [Nat.mul_add, Nat.mul_one, Int.pow_add, p16]
    omega

theorem dnum_take_succ (w : Nat) : ∀ (l : List Int) (n : Nat), n < l.length → dnum w (l.take (n + 1)) = dnum w (l.take n) + 2 ^ (w * n) * l.getD n 0
  | [], n, h => by simp at h
  | x :: l, 0, _ => by simp [dnum]
  | x :: l, n + 1, h => by
    have ih := dnum_take_succ w l n (by simpa using h)
    simp only [List.take_succ_cons, dnum, List.getD_cons_succ] at ih ⊢
    rw [ih, Nat.mul_add, Nat.mul_one, Int.pow_add, Int.mul_comm (2 ^ (w * n)) (2 ^ w), Int.mul_add, Int.mul_assoc]
    omega

theorem dnum_set (w : Nat) : ∀ (l : List Int) (n : Nat) (v : Int), n < l.length → dnum w (l.set n v) = dnum w l + 2 ^ (w * n) * (v - l.getD n 0)
  | [], n, _, h => by simp at h
  | x :: l, 0, v, _ => by simp [dnum]; omega
  | x :: l, n + 1, v, h => by
    have ih := dnum_set w l n v (by simpa using h)
    simp only [List.set_cons_succ, dnum, List.getD_cons_succ] at ih ⊢
    rw [ih, Nat.mul_add, Nat.mul_one, Int.pow_add, Int.mul_comm (2 ^ (w * n)) (2 ^ w), Int.mul_add, Int.mul_assoc]
    omega

theorem getD_mem {l : List Int} {n : Nat} (h : n < l.length) : l.getD n 0 ∈ l := by
  rw [List.getD, List.getElem?_eq_getElem h]
  exact List.getElem_mem h

theorem geP_law (l : List Int) (h : ∀ x ∈ l, 0 ≤ x ∧ x < 65536) : ∀ n, n ≤ l.length → geP l n = decide (Pn n ≤ dnum 16 (l.take n))
  | 0, _ => by simp [geP, Pn, dnum]
  | n + 1, hn => by
    have ih := geP_law l h n (by omega)
    have hx := h _ (getD_mem (show n < l.length by omega))
    have hd := pd_range (n : Int)
    have hP := Pn_range n
    have hr := dnum_range 16 (l.take n) (fun x hx => by rw [p16]; exact h x (List.mem_of_mem_take hx))
    rw [List.length_take, Nat.min_eq_left (by omega)] at hr
    have hp := pp (16 * n)
    rw [dnum_take_succ 16 l n (by omega)]
    simp only [geP, Pn]
    by_cases e : l.getD n 0 = pd (n : Int)
    · rw [if_pos e, ih, e]
      congr 1
      rw [eq_iff_iff]
      omega
    · rw [if_neg e]
      congr 1
      rw [eq_iff_iff]
      constructor
      · intro hgt
        have : 2 ^ (16 * n) * (pd (n : Int) + 1) ≤ 2 ^ (16 * n) * l.getD n 0 := Int.mul_le_mul_of_nonneg_left (by omega) (by omega)
        rw [Int.mul_add] at this
        omega
      · intro hle
        rcases Int.lt_or_gt_of_ne e with hlt | hgt
        · have : 2 ^ (16 * n) * (l.getD n 0 + 1) ≤ 2 ^ (16 * n) * pd (n : Int) := Int.mul_le_mul_of_nonneg_left (by omega) (by omega)
          rw [Int.mul_add] at this
          omega
        · exact hgt

theorem lessV_eq (l : List Int) (less : Int) (n : Nat) (h : ∀ x ∈ l, 0 ≤ x ∧ x < 65536) (hn : n < l.length) (hl : less = 0 ∨ less = -1) : lessV l less n = less + l.getD n 0 - pd (n : Int) := by
  have hx := h _ (getD_mem hn)
  have hd := pd_range (n : Int)
  unfold lessV
  rw [WIw (less + l.getD n 0) (by omega) (by omega), WIw _ (by omega) (by omega)]

theorem geP_append (l m : List Int) : ∀ n, n ≤ l.length → geP (l ++ m) n = geP l n
  | 0, _ => rfl
  | n + 1, h => by
    have e : (l ++ m).getD n 0 = l.getD n 0 := by
      rw [List.getD, List.getD, List.getElem?_append_left (by omega)]
    simp only [geP, e, geP_append l m n (by omega)]

theorem outL_law : ∀ (l : List Int), (∀ x ∈ l, 0 ≤ x ∧ x < 65536) → (outL l).length = 2 * l.length ∧ (∀ x ∈ outL l, 0 ≤ x ∧ x < 256) ∧ num (outL l) = dnum 16 l
  | [], _ => ⟨rfl, by simp [outL], rfl⟩
  | d :: l, h => by
    obtain ⟨h1, h2, h3⟩ := outL_law l (fun x hx => h x (by simp [hx]))
    have hd := h d (by simp)
    have e : IntKind.u8.wrap (d.fdiv (2 ^ 8)) = d / 256 := by
      rw [u8w, show (2 : Int) ^ 8 = 256 by decide, Int.fdiv_eq_ediv_of_nonneg _ (by decide)]
      omega
    refine ⟨by simp [outL, h1]; omega, fun x hx => ?_, ?_⟩
    · simp only [outL, List.mem_cons, e, u8w] at hx
      rcases hx with rfl | rfl | hx
      · omega
      · omega
      · exact h2 x hx
    · simp only [outL, num, dnum, e, u8w, h3, p16]
      omega

theorem outL_bytes (l : List Int) (hl : l.length = 16) (h : ∀ x ∈ l, 0 ≤ x ∧ x < 65536) : outL l = bytesOf 32 (dnum 16 l) := by
  obtain ⟨h1, h2, h3⟩ := outL_law l h
  have := bytesOf_num (outL l) h2
  rw [h1, hl, h3] at this
  exact this.symm

/-! ### The loops -/

theorem mk0_ok : (mk []).Ok := mk_ok (by simp)
theorem mkh0_ok (h : Tmp → Option Bool) : (mkh h []).Ok := mkh_ok (by simp)
theorem mkhR_ok (h : Tmp → Option Bool) : (mkh h refF).Ok := mkh_ok refF_ok

def muA (s : St) : Nat :=
  2 * (match look s.h gn with
    | some b => (dnum 16 (b.l.take 16)).toNat
    | none => 0) + (match tmOf s 4 with
    | .int _ r => if 0 < r then 1 else 0
    | _ => 0)

theorem muA_tm (rest : Int) (t : TypeId) (l : List Int) (ob : List Prop) : muA ⟨tmA rest, hpR t l, ob⟩ = 2 * (dnum 16 (l.take 16)).toNat + (if 0 < rest then 1 else 0) := rfl

theorem take16 (lo hi : List Int) (h : lo.length = 16) : (lo ++ hi).take 16 = lo := by
  rw [List.take_append_of_le_length (by omega), List.take_of_length_le (by omega)]

theorem tri_loopA (t : TypeId) (lo hi : List Int) (hl : lo.length = 16) (hh : hi.length = 16) (h : ∀ x ∈ lo, 0 ≤ x ∧ x < 1152921504606846976) :
    Tri (mk []) (gn + 1) (.block 2 (.loop codeA)) ⟨tmA 1, hpR t (lo ++ hi), []⟩ (fun ex s => ex = .normal ∧ s.tm = tmB ∧ ∃ lo', lo'.length = 16 ∧ s.h = hpR t (lo' ++ hi) ∧ (∀ x ∈ lo', 0 ≤ x ∧ x < 65536) ∧ dnum 16 lo' % p25 = dnum 16 lo % p25) := by
  refine tri_block (tri_loop (fun s => ∃ rest lo', lo'.length = 16 ∧ s.tm = tmA rest ∧ s.h = hpR t (lo' ++ hi) ∧ 0 ≤ rest ∧ (∀ x ∈ lo', 0 ≤ x ∧ x < 1152921504606846976) ∧ (rest = 0 → ∀ x ∈ lo', 0 ≤ x ∧ x < 65536) ∧ dnum 16 lo' % p25 = dnum 16 lo % p25) muA
    ⟨1, lo, hl, rfl, rfl, by decide, h, fun e => absurd e (by decide), rfl⟩ (fun s hs => ?_))
  obtain ⟨tm, hp, ob⟩ := s
  obtain ⟨rest, lo', hl', rfl, rfl, hr, hb, hz, hm⟩ := hs
  by_cases hpos : 0 < rest
  · obtain ⟨g1, g2, g3, g4, g5, g6⟩ := rndA_law lo' hl' hb
    have run := rndA_run t rest lo' hi
    rw [tab_eq 16 lo' hl', tab_eq 16 hi hh] at run
    refine tri_ob (tri_ctx (tri_execF (mkh0_ok _) (Nat.le_add_right gn 1) 600 _ _ run (Holds.one (decide_eq_true hpos)) ⟨⟨_, rndA lo', g1, rfl, rfl, g2, g3, g4, ?_⟩, ?_⟩))
    · rw [← hm, g6]
      have : dnum 16 (rndA lo') = dnum 16 (rndA lo') + 115792089237316195423570985008687907853269984665640564039457584007913129639898 * (carryL 0 lo').2 + p25 * (-2 * (carryL 0 lo').2) := by
        unfold p25
        omega
      conv => lhs; rw [this]
      rw [Int.add_mul_emod_self_left]
    · rw [muA_tm, muA_tm, if_pos hpos, take16 _ _ g1, take16 _ _ hl']
      split <;> omega
  · have run := stopA_run t rest (lo' ++ hi)
    refine tri_ob (tri_ctx (tri_execF (mkh0_ok _) (Nat.le_add_right gn 1) 600 _ _ run (Holds.one (decide_eq_false hpos)) ?_))
    exact ⟨rfl, rfl, lo', hl', rfl, hz (by omega), hm⟩

def muL (s : St) : Nat :=
  match tmOf s 7 with
  | .int _ i => (16 - i).toNat
  | _ => 0

theorem muL_tm (i less : Int) (h : Hp) (ob : List Prop) : muL ⟨tmL i less, h, ob⟩ = (16 - i).toNat := rfl

/-- p taken away once. -/
theorem tri_loopL (t : TypeId) (lo hi : List Int) (hl : lo.length = 16) (hh : hi.length = 16) (h : ∀ x ∈ lo, 0 ≤ x ∧ x < 65536) (hp : p25 ≤ dnum 16 lo) :
    Tri (mk []) (gn + 1) (.block 8 (.loop loopL)) ⟨tmL 0 0, hpR t (lo ++ hi), []⟩ (fun ex s => ex = .normal ∧ s.tm = tmB ∧ ∃ lo', lo'.length = 16 ∧ s.h = hpR t (lo' ++ hi) ∧ (∀ x ∈ lo', 0 ≤ x ∧ x < 65536) ∧ dnum 16 lo' = dnum 16 lo - p25) := by
  refine tri_block (tri_loop (fun s => ∃ (n : Nat) (less : Int) (L : List Int), n ≤ 16 ∧ L.length = 16 ∧ s.tm = tmL (n : Int) less ∧ s.h = hpR t (L ++ hi) ∧ (∀ x ∈ L, 0 ≤ x ∧ x < 65536) ∧ (less = 0 ∨ less = -1) ∧ dnum 16 L = dnum 16 lo - Pn n - less * 2 ^ (16 * n)) muL
    ⟨0, 0, lo, by decide, hl, rfl, rfl, h, Or.inl rfl, by simp [Pn]⟩ (fun s hs => ?_))
  obtain ⟨tm, hpp, ob⟩ := s
  obtain ⟨n, less, L, hn, hL, rfl, rfl, hb, hle, hd⟩ := hs
  rcases Nat.lt_or_ge n 16 with h16 | h16
  · have hx := hb _ (getD_mem (show n < L.length by omega))
    have hpd := pd_range (n : Int)
    have hv := lessV_eq L less n hb (by omega) hle
    have hset := dnum_set 16 L n ((WI (lessV L less n + 131072)).tmod 65536) (by omega)
    have hmem : ∀ v : Int, 0 ≤ v ∧ v < 65536 → ∀ x ∈ L.set n v, 0 ≤ x ∧ x < 65536 := fun v hv x hx => by
      rcases List.mem_or_eq_of_mem_set hx with hx | rfl
      · exact hb x hx
      · exact hv
    have e1 : WI (lessV L less n + 131072) = lessV L less n + 131072 := WIw _ (by rw [hv]; omega) (by rw [hv]; omega)
    rw [e1, tmod16 _ (by rw [hv]; omega)] at hset
    have pw : (2 : Int) ^ (16 * (n + 1)) = 2 ^ (16 * n) * 65536 := by rw [Nat.mul_add, Nat.mul_one, Int.pow_add, p16]
    by_cases hneg : lessV L less n < 0
    · have run := rdLT n h16 t less L hi
      rw [tab_eq 16 L hL, tab_eq 16 hi hh, e1, tmod16 _ (by rw [hv]; omega)] at run
      refine tri_ob (tri_ctx (tri_execF (mkhR_ok _) (Nat.le_add_right gn 1) 200 _ _ run (Holds.one (decide_eq_true hneg)) ⟨⟨n + 1, -1, _, h16, by rw [List.length_set]; exact hL, rfl, rfl, hmem _ (by omega), Or.inr rfl, ?_⟩, ?_⟩))
      · rw [hset, hd, pw]
        have ev : (lessV L less n + 131072) % 65536 - L.getD n 0 = less - pd (n : Int) + 65536 := by rw [hv] at hneg ⊢; omega
        rw [ev]
        simp only [Pn]
        rw [Int.mul_add, Int.mul_sub, Int.mul_comm less]
        omega
      · rw [muL_tm, muL_tm]; omega
    · have run := rdLF n h16 t less L hi
      rw [tab_eq 16 L hL, tab_eq 16 hi hh, e1, tmod16 _ (by rw [hv]; omega)] at run
      refine tri_ob (tri_ctx (tri_execF (mkhR_ok _) (Nat.le_add_right gn 1) 200 _ _ run (Holds.one (decide_eq_false hneg)) ⟨⟨n + 1, 0, _, h16, by rw [List.length_set]; exact hL, rfl, rfl, hmem _ (by omega), Or.inl rfl, ?_⟩, ?_⟩))
      · rw [hset, hd]
        have ev : (lessV L less n + 131072) % 65536 - L.getD n 0 = less - pd (n : Int) := by rw [hv] at hneg ⊢; omega
        rw [ev]
        simp only [Pn]
        rw [Int.mul_sub, Int.mul_comm less]
        omega
      · rw [muL_tm, muL_tm]; omega
  · have e : n = 16 := by omega
    subst e
    rw [Pn16, p256] at hd
    have r1 := dnum_range 16 L (by rw [p16]; exact hb)
    have r2 := dnum_range 16 lo (by rw [p16]; exact h)
    rw [hL, p256] at r1
    rw [hl, p256] at r2
    refine tri_ob (tri_ctx (tri_execF (mkhR_ok _) (Nat.le_add_right gn 1) 200 _ _ (stopL_run t less (L ++ hi)) Holds.nil ?_))
    exact ⟨rfl, rfl, L, hL, rfl, hb, by omega⟩

def muB (s : St) : Nat :=
  match look s.h gn with
  | some b => (dnum 16 (b.l.take 16)).toNat
  | none => 0

theorem muB_tm (tm : List A) (t : TypeId) (l : List Int) (ob : List Prop) : muB ⟨tm, hpR t l, ob⟩ = (dnum 16 (l.take 16)).toNat := rfl

theorem tri_loopB (t : TypeId) (lo hi : List Int) (hl : lo.length = 16) (hh : hi.length = 16) (h : ∀ x ∈ lo, 0 ≤ x ∧ x < 65536) :
    Tri (mk []) (gn + 1) (.block 6 (.loop codeB)) ⟨tmB, hpR t (lo ++ hi), []⟩ (fun ex s => ex = .normal ∧ s.tm = tmB ∧ ∃ lo', lo'.length = 16 ∧ s.h = hpR t (lo' ++ hi) ∧ (∀ x ∈ lo', 0 ≤ x ∧ x < 65536) ∧ dnum 16 lo' = dnum 16 lo % p25) := by
  refine tri_block (tri_loop (fun s => ∃ lo', lo'.length = 16 ∧ s.tm = tmB ∧ s.h = hpR t (lo' ++ hi) ∧ (∀ x ∈ lo', 0 ≤ x ∧ x < 65536) ∧ dnum 16 lo' % p25 = dnum 16 lo % p25) muB ⟨lo, hl, rfl, rfl, h, rfl⟩ (fun s hs => ?_))
  obtain ⟨tm, hpp, ob⟩ := s
  obtain ⟨L, hL, rfl, rfl, hb, hm⟩ := hs
  have hg : geP (L ++ hi) 16 = decide (p25 ≤ dnum 16 L) := by
    rw [geP_append L hi 16 (by omega), geP_law L hb 16 (by omega), Pn16, List.take_of_length_le (by omega)]
  have run := testB_run t L hi
  rw [tab_eq 16 L hL, tab_eq 16 hi hh, hg] at run
  have hdn := (dnum_range 16 L (by rw [p16]; exact hb)).1
  rw [codeB_eq]
  refine tri_seq (Mid := fun ex s => (ex = .normal ∧ p25 ≤ dnum 16 L ∧ s.tm = tmB ∧ s.h = hpR t (L ++ hi)) ∨ (ex = .exit 6 ∧ ¬ p25 ≤ dnum 16 L ∧ s.tm = tmB ∧ s.h = hpR t (L ++ hi))) ?_ (fun s1 h1 => ?_) (fun ex s1 hne h1 => ?_)
  · refine tri_seq (Mid := fun ex s => ex = .normal ∧ s = ⟨tmC (decide (p25 ≤ dnum 16 L)), hpR t (L ++ hi), []⟩) (tri_ob (tri_ctx (tri_execF (mkhR_ok _) (Nat.le_add_right gn 1) 100 _ _ run Holds.nil ⟨rfl, rfl⟩))) (fun s1 h1 => ?_) (fun ex s1 hne h1 => absurd h1.1 hne)
    obtain ⟨_, rfl⟩ := h1
    refine tri_cond (b := decide (p25 ≤ dnum 16 L)) rfl (fun hc => ?_) (fun hc => ?_)
    · exact tri_ctx (tri_execF (mkhR_ok _) (Nat.le_add_right gn 1) 100 _ _ (skipB_run t _ _) Holds.nil (Or.inl ⟨rfl, of_decide_eq_true hc, rfl, rfl⟩))
    · exact tri_ctx (tri_execF (mkhR_ok _) (Nat.le_add_right gn 1) 100 _ _ (exitB_run t _ _) Holds.nil (Or.inr ⟨rfl, of_decide_eq_false hc, rfl, rfl⟩))
  · rcases h1 with ⟨_, hge, e1, e2⟩ | ⟨h, _⟩
    · obtain ⟨tm, hpq, ob⟩ := s1
      subst e1 e2
      refine tri_block ?_
      rw [workB_eq]
      refine tri_seq (Mid := fun ex s => ex = .normal ∧ s = ⟨tmB.set 6 (.int .i64 0), hpR t (L ++ hi), []⟩) (tri_ob (tri_ctx (tri_execF (mkhR_ok _) (Nat.le_add_right gn 1) 100 _ _ (work0_run t _) Holds.nil ⟨rfl, rfl⟩))) (fun s1 h1 => ?_) (fun ex s1 hne h1 => absurd h1.1 hne)
      obtain ⟨_, rfl⟩ := h1
      refine tri_seq (Mid := fun ex s => ex = .normal ∧ s = ⟨tmL 0 0, hpR t (L ++ hi), []⟩) (tri_ctx (tri_execF (mkhR_ok _) (Nat.le_add_right gn 1) 100 _ _ (work1_run t _) Holds.nil ⟨rfl, rfl⟩)) (fun s1 h1 => ?_) (fun ex s1 hne h1 => absurd h1.1 hne)
      obtain ⟨_, rfl⟩ := h1
      refine (tri_loopL t L hi hL hh hb hge).mono (fun ex s' ⟨e, e1, lo', q1, q2, q3, q4⟩ => ?_)
      subst e
      obtain ⟨tm', hp', ob'⟩ := s'
      simp only at e1 q2
      subst e1 q2
      refine ⟨⟨lo', q1, rfl, rfl, q3, ?_⟩, ?_⟩
      · rw [← hm, q4]
        have : dnum 16 L - p25 = dnum 16 L + p25 * (-1) := by omega
        rw [this, Int.add_mul_emod_self_left]
      · rw [muB_tm, muB_tm, take16 _ _ q1, take16 _ _ hL, q4]
        have : (0 : Int) < p25 := by decide
        omega
    · cases h
  · rcases h1 with ⟨h, _⟩ | ⟨h, hlt, e1, e2⟩
    · exact absurd h hne
    · subst h
      refine ⟨rfl, e1, L, hL, e2, hb, ?_⟩
      rw [← hm]
      exact (Int.emod_eq_of_lt hdn (by omega)).symm

/-! ### The contract -/

def fReduce : List A → List Blk → Option Res
  | [.slc i 0 n c], [b] => match Nat.beq i gn && Nat.beq n 32 && Nat.beq c 32 && decide (b.k = .i64) && Nat.beq b.l.length 32 && b.rw with
    | true => some ⟨.agg .u8 (bytesOf 32 (dnum 16 b.l % p25)), [some { b with l := digsOf 16 16 (dnum 16 b.l % p25) ++ b.l.drop 16 }], none, b.l.map (fun x => 0 ≤ x ∧ x < 4503599627370496)⟩
    | false => none
  | _, _ => none

theorem dnum_append (w : Nat) : ∀ (l m : List Int), dnum w (l ++ m) = dnum w l + 2 ^ (w * l.length) * dnum w m
  | [], m => by simp [dnum]
  | x :: l, m => by
    simp only [List.cons_append, dnum, dnum_append w l m, List.length_cons]
    rw [Nat.mul_add, Nat.mul_one, Int.pow_add, Int.mul_comm (2 ^ (w * l.length)) (2 ^ w), Int.mul_add, Int.mul_assoc]
    omega

theorem reduce_ok : FnOk Tryd.prog gl 32 fReduce := by
  refine fnOk_of_tri (C := mk []) Tryd.func32 (by kernel_rfl) bodyR_eq (fun args mem r hr hob => ?_)
  unfold fReduce at hr
  split at hr
  · rename_i i n c b
    split at hr
    · rename_i hc
      simp only [Option.some.injEq] at hr
      subst hr
      simp only [Bool.and_eq_true] at hc
      obtain ⟨⟨⟨⟨⟨hi, hn⟩, hcn⟩, hk⟩, hl⟩, hrw⟩ := hc
      have hi' := Nat.eq_of_beq_eq_true hi
      have hn' := Nat.eq_of_beq_eq_true hn
      have hc' := Nat.eq_of_beq_eq_true hcn
      have hl' := Nat.eq_of_beq_eq_true hl
      have hk' := of_decide_eq_true hk
      obtain ⟨k, ty, l, rw⟩ := b
      simp only at hk' hl' hrw
      subst hi' hc' hn' hk' hrw
      refine ⟨beq_le (by kernel_rfl), fun j b hj => ?_, fun b hb => (by cases hb), fun _ _ => ?_⟩
      · match j, hj with
        | 0, hj =>
          simp only [List.getElem?_cons_zero, Option.some.injEq] at hj
          exact ⟨_, rfl, by rw [← hj]⟩
        | j + 1, hj => simp at hj
      have hx : ∀ y ∈ l, 0 ≤ y ∧ y < 4503599627370496 := fun y hy => hob _ (List.mem_map.2 ⟨y, hy, rfl⟩)
      obtain ⟨lo, hi, rfl, hlo, hhi⟩ : ∃ lo hi, l = lo ++ hi ∧ lo.length = 16 ∧ hi.length = 16 := ⟨l.take 16, l.drop 16, (List.take_append_drop 16 l).symm, by rw [List.length_take]; omega, by rw [List.length_drop]; omega⟩
      obtain ⟨g1, g2, g3⟩ := fold38_law lo hi (by omega) (fun x h => hx x (List.mem_append_left _ h)) (fun x h => hx x (List.mem_append_right _ h))
      have run := preR_run ty lo hi
      rw [tab_eq 16 lo hlo, tab_eq 16 hi hhi] at run
      have hdrop : (lo ++ hi).drop 16 = hi := by
        rw [List.drop_append_of_le_length (by omega), List.drop_eq_nil_of_le (by omega)]; rfl
      have hN : dnum 16 (lo ++ hi) % p25 = dnum 16 (fold38 lo hi) % p25 := by
        rw [g3, dnum_append, hlo, p256]
        have : dnum 16 lo + 115792089237316195423570985008687907853269984665640564039457584007913129639936 * dnum 16 hi = dnum 16 lo + 38 * dnum 16 hi + p25 * (2 * dnum 16 hi) := by
          unfold p25; omega
        rw [this, Int.add_mul_emod_self_left]
      rw [hdrop, hN]
      refine tri_preF mk0_ok (Nat.le_add_right _ _) 600 3 _ _ _ [0, 2, 4] (gks ++ [gn, gn + 1]) run Holds.nil ?_
      rw [postR_eq]
      refine tri_seq (tri_loopA ty (fold38 lo hi) hi (by omega) hhi g2) (fun s1 h1 => ?_) (fun ex s1 hne h1 => absurd h1.1 hne)
      obtain ⟨_, t1, lo1, q1, t2, q2, q3⟩ := h1
      obtain ⟨tm, hp, ob⟩ := s1
      subst t1 t2
      rw [restB_eq]
      refine tri_seq (tri_ob (tri_loopB ty lo1 hi q1 hhi q2)) (fun s1 h1 => ?_) (fun ex s1 hne h1 => absurd h1.1 hne)
      obtain ⟨_, t1, lo2, w1, t2, w2, w3⟩ := h1
      obtain ⟨tm, hp, ob⟩ := s1
      subst t1 t2
      rw [← q3, ← w3]
      have fin := tail_run ty lo2 hi ⟨.i64, ty, lo ++ hi, true⟩
      rw [tab_eq 16 lo2 w1, tab_eq 16 hi hhi, outL_bytes lo2 w1 w2] at fin
      have hdg : digsOf 16 16 (dnum 16 lo2) = lo2 := by
        have := digsOf_dnum 16 lo2 (by rw [p16]; exact w2)
        rw [w1] at this
        exact this
      rw [hdg]
      refine tri_ob (tri_end mk0_ok fin Holds.nil ⟨rfl, rfl, fun j hj => ?_⟩)
      match j, hj with
      | 0, _ => rfl
      | j + 1, hj => simp at hj
    · cases hr
  · cases hr

end Go.Proofs.YtechbdggjfahhaaDoor.Sx
