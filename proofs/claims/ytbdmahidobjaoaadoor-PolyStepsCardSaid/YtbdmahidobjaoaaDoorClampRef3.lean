/-
  The document's reduce: its contract.
-/
import Derived.Test.YtbdmahidobjaoaaDoorClampRef
import Derived.Test.YtbdmahidobjaoaaDoorClampRef2
namespace Go.Proofs.YtbdmahidobjaoaaDoor.Sx
open Go
set_option maxRecDepth 100000

theorem p26 : (2 : Int) ^ 26 = 67108864 := by decide

theorem all5 {d0 d1 d2 d3 d4 : Int} {p : Int → Prop} : (∀ x ∈ [d0, d1, d2, d3, d4], p x) ↔ p d0 ∧ p d1 ∧ p d2 ∧ p d3 ∧ p d4 := by simp

theorem hcons {p : Prop} {l : List Prop} (h : p) (h' : Holds l) : Holds (p :: l) := fun q hq => by
  rcases List.mem_cons.1 hq with rfl | hq
  · exact h
  · exact h' q hq

/-! ### Arithmetic -/

theorem red6_eq (x0 x1 x2 x3 x4 x5 : Int) (h0 : 0 ≤ x0 ∧ x0 < 288230376151711744) (h1 : 0 ≤ x1 ∧ x1 < 288230376151711744) (h2 : 0 ≤ x2 ∧ x2 < 288230376151711744) (h3 : 0 ≤ x3 ∧ x3 < 288230376151711744) (h4 : 0 ≤ x4 ∧ x4 < 288230376151711744) (h5 : 0 ≤ x5 ∧ x5 < 288230376151711744) :
    red6 [x0, x1, x2, x3, x4, x5] = [x0 + 5 * x5, x1, x2, x3, x4] := by
  simp only [red6, WI, Int.zero_add]
  rw [i64w x0 (by omega) (by omega), i64w x1 (by omega) (by omega), i64w x2 (by omega) (by omega), i64w x3 (by omega) (by omega), i64w x4 (by omega) (by omega), i64w (5 * x5) (by omega) (by omega), i64w (x0 + 5 * x5) (by omega) (by omega)]

theorem red11_eq (x0 x1 x2 x3 x4 x5 x6 x7 x8 x9 x10 : Int) (h : ∀ x ∈ [x0, x1, x2, x3, x4, x5, x6, x7, x8, x9, x10], 0 ≤ x ∧ x < 36028797018963968) :
    red11 [x0, x1, x2, x3, x4, x5, x6, x7, x8, x9, x10] = [x0 + 5 * x5, x1 + 5 * x6, x2 + 5 * x7, x3 + 5 * x8, x4 + 5 * x9, 5 * x10] := by
  simp only [List.mem_cons, List.not_mem_nil, or_false, forall_eq_or_imp, forall_eq] at h
  obtain ⟨h0, h1, h2, h3, h4, h5, h6, h7, h8, h9, h10⟩ := h
  simp only [red11, WI, Int.zero_add]
  rw [i64w x0 (by omega) (by omega), i64w x1 (by omega) (by omega), i64w x2 (by omega) (by omega), i64w x3 (by omega) (by omega), i64w x4 (by omega) (by omega),
    i64w (5 * x5) (by omega) (by omega), i64w (5 * x6) (by omega) (by omega), i64w (5 * x7) (by omega) (by omega), i64w (5 * x8) (by omega) (by omega), i64w (5 * x9) (by omega) (by omega), i64w (5 * x10) (by omega) (by omega),
    i64w (x0 + 5 * x5) (by omega) (by omega), i64w (x1 + 5 * x6) (by omega) (by omega), i64w (x2 + 5 * x7) (by omega) (by omega), i64w (x3 + 5 * x8) (by omega) (by omega), i64w (x4 + 5 * x9) (by omega) (by omega), i64w (5 * x10) (by omega) (by omega)]

theorem carry_step (c d : Int) (hc : 0 ≤ c ∧ c < 68719476736) (hd : 0 ≤ d ∧ d < 2305843009213693952) :
    WI (c + d) = c + d ∧ (c + d).tmod 67108864 = (c + d) % 67108864 ∧ WI ((c + d).tdiv 67108864) = (c + d) / 67108864 ∧ 0 ≤ (c + d) / 67108864 ∧ (c + d) / 67108864 < 68719476736 ∧ 0 ≤ (c + d) % 67108864 ∧ (c + d) % 67108864 < 67108864 ∧ c + d = (c + d) % 67108864 + 67108864 * ((c + d) / 67108864) := by
  refine ⟨i64w _ (by omega) (by omega), Int.tmod_eq_emod_of_nonneg (by omega), ?_, by omega, by omega, by omega, by omega, by omega⟩
  rw [Int.tdiv_eq_ediv_of_nonneg (by omega)]
  exact i64w _ (by omega) (by omega)

theorem rnd_eq (d0 d1 d2 d3 d4 : Int) (h : ∀ x ∈ [d0, d1, d2, d3, d4], 0 ≤ x ∧ x < 2305843009213693952) :
    ∃ c e0 e1 e2 e3 e4, rnd [d0, d1, d2, d3, d4] = (c, [e0 + 5 * c, e1, e2, e3, e4]) ∧ (0 ≤ c ∧ c < 68719476736) ∧ (∀ x ∈ [e0, e1, e2, e3, e4], 0 ≤ x ∧ x < 67108864) ∧ dnum 26 [d0, d1, d2, d3, d4] = dnum 26 [e0, e1, e2, e3, e4] + 1361129467683753853853498429727072845824 * c := by
  rw [all5] at h
  obtain ⟨h0, h1, h2, h3, h4⟩ := h
  obtain ⟨a0, b0, c0, k0, l0, m0, n0, e0⟩ := carry_step 0 d0 (by omega) h0
  obtain ⟨a1, b1, c1, k1, l1, m1, n1, e1⟩ := carry_step ((0 + d0) / 67108864) d1 ⟨k0, l0⟩ h1
  obtain ⟨a2, b2, c2, k2, l2, m2, n2, e2⟩ := carry_step _ d2 ⟨k1, l1⟩ h2
  obtain ⟨a3, b3, c3, k3, l3, m3, n3, e3⟩ := carry_step _ d3 ⟨k2, l2⟩ h3
  obtain ⟨a4, b4, c4, k4, l4, m4, n4, e4⟩ := carry_step _ d4 ⟨k3, l3⟩ h4
  refine ⟨_, _, _, _, _, _, ?_, ⟨k4, l4⟩, all5.2 ⟨⟨m0, n0⟩, ⟨m1, n1⟩, ⟨m2, n2⟩, ⟨m3, n3⟩, ⟨m4, n4⟩⟩, ?_⟩
  · simp only [rnd]
    rw [a0, c0, a1, c1, a2, c2, a3, c3, a4, c4, b0, b1, b2, b3, b4]
    generalize (((((0 + d0) / 67108864 + d1) / 67108864 + d2) / 67108864 + d3) / 67108864 + d4) / 67108864 = c at *
    rw [show WI (5 * c) = 5 * c from i64w _ (by omega) (by omega)]
    rw [show WI ((0 + d0) % 67108864 + 5 * c) = (0 + d0) % 67108864 + 5 * c from i64w _ (by omega) (by omega)]
  · simp only [dnum, p26]
    generalize (((((0 + d0) / 67108864 + d1) / 67108864 + d2) / 67108864 + d3) / 67108864 + d4) % 67108864 = r4 at *
    generalize (((((0 + d0) / 67108864 + d1) / 67108864 + d2) / 67108864 + d3) / 67108864 + d4) / 67108864 = q4 at *
    generalize ((((0 + d0) / 67108864 + d1) / 67108864 + d2) / 67108864 + d3) % 67108864 = r3 at *
    generalize ((((0 + d0) / 67108864 + d1) / 67108864 + d2) / 67108864 + d3) / 67108864 = q3 at *
    generalize (((0 + d0) / 67108864 + d1) / 67108864 + d2) % 67108864 = r2 at *
    generalize (((0 + d0) / 67108864 + d1) / 67108864 + d2) / 67108864 = q2 at *
    generalize ((0 + d0) / 67108864 + d1) % 67108864 = r1 at *
    generalize ((0 + d0) / 67108864 + d1) / 67108864 = q1 at *
    generalize (0 + d0) % 67108864 = r0 at *
    generalize (0 + d0) / 67108864 = q0 at *
    omega

theorem or_u8 (i : Nat) (x b : Int) (hx : 0 ≤ x) (hx1 : x < 2 ^ i) (hi : i < 8) (hb : b = 0 ∨ b = 1) : bits .or .u8 x (IntKind.u8.wrap (IntKind.u8.wrap b * 2 ^ i)) = x + b * 2 ^ i := by
  have hp := pp i
  have h8 : (2 : Int) ^ (i + 1) ≤ 2 ^ 8 := pow_le (by omega)
  rw [Int.pow_succ, show (2 : Int) ^ 8 = 256 by decide] at h8
  have e1 : IntKind.u8.wrap b = b := by rw [u8w]; omega
  have e2 : IntKind.u8.wrap (b * 2 ^ i) = b * 2 ^ i := by
    rw [u8w]
    rcases hb with rfl | rfl
    · simp
    · rw [Int.one_mul]; exact Int.emod_eq_of_lt (by omega) (by omega)
  rw [e1, e2, bits_or_comm, bits_join .u8 8 (by decide) (fun n a b => by rw [u8w]; exact Int.emod_eq_of_lt a (by simpa using b)) i (b * 2 ^ i) x (by rcases hb with rfl | rfl <;> omega) (Int.mul_emod_left _ _)
    (by rw [show (2 : Int) ^ 8 = 256 by decide]; rcases hb with rfl | rfl <;> omega) hx hx1 (by rw [show (2 : Int) ^ 8 = 256 by decide]; omega)]
  omega

theorem outGo_eq (d : List Int) (hd : d.length = 5) (hw : ∀ x ∈ d, 0 ≤ x ∧ x < 2 ^ 26) : ∀ n, n ≤ 130 → outGo d n = digsOf 8 17 (dnum 26 d % 2 ^ n)
  | 0, _ => by
    rw [Int.pow_zero, Int.emod_one]
    show List.replicate 17 (0 : Int) = digsOf 8 17 0
    decide
  | n + 1, hn => by
    unfold outGo
    rw [outGo_eq d hd hw n (by omega), ← digsOf_set 8 17 (by decide) (dnum 26 d) n]
    have hl : d = digsOf 26 5 (dnum 26 d) := by
      rw [← hd, digsOf_dnum 26 d hw]
    have hget : d.getD (n / 26) 0 = dig 26 (dnum 26 d) (n / 26) := by
      rw [List.getD]
      conv => lhs; rw [hl]
      rw [digsOf_get 26 5 _ _ (by omega)]
      rfl
    have hr := dig_range 26 (dnum 26 d) (n / 26)
    rw [p26] at hr
    have hf : (dig 26 (dnum 26 d) (n / 26)).fdiv (2 ^ (n % 26)) = dig 26 (dnum 26 d) (n / 26) / 2 ^ (n % 26) := Int.fdiv_eq_ediv_of_nonneg _ (Int.le_of_lt (pp _))
    have hq0 : 0 ≤ dig 26 (dnum 26 d) (n / 26) / 2 ^ (n % 26) := Int.ediv_nonneg hr.1 (Int.le_of_lt (pp _))
    have hq1 : dig 26 (dnum 26 d) (n / 26) / 2 ^ (n % 26) ≤ dig 26 (dnum 26 d) (n / 26) := Int.ediv_le_self _ hr.1
    have hbit := dig_bit 26 (by decide) (dnum 26 d) n
    have hget2 : (digsOf 8 17 (dnum 26 d % 2 ^ n)).getD (n / 8) 0 = dig 8 (dnum 26 d % 2 ^ n) (n / 8) := by
      rw [List.getD, digsOf_get 8 17 _ _ (by omega)]
      rfl
    have hdd := dig_add 8 (by decide) (dnum 26 d % 2 ^ n) (dnum 26 d / 2 ^ n % 2) n (n / 8) (Int.emod_nonneg _ (Int.ne_of_gt (pp _))) (Int.emod_lt_of_pos _ (pp _)) (bit01 _)
    unfold outStep
    rw [hget, hf, and1_i64 _ hq0 (by omega), hbit, hget2, or_u8 (n % 8) _ _ (dig_range 8 _ _).1 (hdd.2 rfl) (Nat.mod_lt _ (by decide)) (bit01 _)]

theorem outGo_length (d : List Int) : ∀ n, (outGo d n).length = 17
  | 0 => by simp [outGo]
  | n + 1 => by simp [outGo, outStep, outGo_length d n]

theorem outGo_bytes (d : List Int) (hd : d.length = 5) (hw : ∀ x ∈ d, 0 ≤ x ∧ x < 67108864) : outGo d 130 = bytesOf 17 (dnum 26 d) := by
  have hw' : ∀ x ∈ d, 0 ≤ x ∧ x < 2 ^ 26 := by rw [p26]; exact hw
  have hr := dnum_range 26 d hw'
  rw [hd] at hr
  rw [outGo_eq d hd hw' 130 (Nat.le_refl _), bytesOf_digs, Int.emod_eq_of_lt hr.1 hr.2]

/-! ### The pieces joined -/

def FinR (b : Blk) (r : Res) : Ex → St → Prop := fun ex s' => (ex = .normal ∨ ex = .ret) ∧ ∃ v, resA (mk []) s' Tryd.f41.results.toList = some v ∧ Ends (mk []) [b] s' v r

theorem mk0_ok : (mk []).Ok := mk_ok (by simp)
theorem mkh0_ok (h : Tmp → Option Bool) : (mkh h []).Ok := mkh_ok (by simp)

structure TailOk (i oi : Nat) (tmI : List A) (bl : List Nat) : Prop where
  rd : rounds i oi 130
  blk : bl = [0, 1, 2, i, oi]
  inn : ∀ (b : Blk) (d : List Int), execF (mk []) 100 (seqL tailR) 2 [2, 3, 9] bl ⟨tmE i, hpE i b d, []⟩ = some (.normal, ⟨tmI, hpO i oi b d (List.replicate 17 0), []⟩)
  ini : ∀ (b : Blk) (d o : List Int), execF (mk []) 100 (seqL (seqL (seqR tailR))) 2 [2, 3, 9, 10] bl ⟨tmI, hpO i oi b d o, []⟩ = some (.normal, ⟨tmO i oi 0, hpO i oi b d o, []⟩)
  stop : ∀ (b : Blk) (d o : List Int), execF (mk []) 100 loopO 2 [2, 3, 9, 10] bl ⟨tmO i oi 130, hpO i oi b d o, []⟩ = some (.exit 10, ⟨tmO i oi 130, hpO i oi b d o, []⟩)
  fin : ∀ (b : Blk) (d : List Int) (o0 o1 o2 o3 o4 o5 o6 o7 o8 o9 o10 o11 o12 o13 o14 o15 o16 : Int), endRes (mk []) Tryd.f41 100 endO ⟨tmO i oi 130, hpO i oi b d [o0, o1, o2, o3, o4, o5, o6, o7, o8, o9, o10, o11, o12, o13, o14, o15, o16], []⟩ [b] =
    some ⟨.agg .u8 [o0, o1, o2, o3, o4, o5, o6, o7, o8, o9, o10, o11, o12, o13, o14, o15, o16], [some b], none, []⟩

theorem tail3 : TailOk 3 4 (tmE 3 |>.set 9 (.ptr 4 0)) [0, 1, 2, 3, 4] := ⟨rounds3, rfl, in3_run, i3_run, stop3_run, end3_run⟩
theorem tail4 : TailOk 4 5 (tmE 4 |>.set 9 (.ptr 5 0)) [0, 1, 2, 4, 5] := ⟨rounds4, rfl, in4_run, i4_run, stop4_run, end4_run⟩

theorem rounds_get {i oi : Nat} : ∀ {m : Nat}, rounds i oi m → ∀ n, n < m → ∀ (b : Blk) (d0 d1 d2 d3 d4 : Int) (o : List Int), o.length = 17 →
      execF (mk []) 100 loopO 2 [2, 3, 9, 10] [0, 1, 2, i, oi] ⟨tmO i oi (n : Int), hpO i oi b [d0, d1, d2, d3, d4] o, []⟩ =
        some (.normal, ⟨tmO i oi ((n + 1 : Nat) : Int), hpO i oi b [d0, d1, d2, d3, d4] (outStep [d0, d1, d2, d3, d4] o n), []⟩)
  | 0, _, n, h => by omega
  | m + 1, hr, n, h => by
    intro b d0 d1 d2 d3 d4 o ho
    rcases Nat.lt_or_ge n m with hl | hl
    · exact rounds_get hr.1 n hl b d0 d1 d2 d3 d4 o ho
    · have e : n = m := by omega
      subst e
      obtain ⟨o0, o1, o2, o3, o4, o5, o6, o7, o8, o9, o10, o11, o12, o13, o14, o15, o16, rfl⟩ := list17 ho
      exact hr.2 b d0 d1 d2 d3 d4 _ _ _ _ _ _ _ _ _ _ _ _ _ _ _ _ _

def muO (s : St) : Nat :=
  match tmOf s 10 with
  | .int _ n => (130 - n).toNat
  | _ => 0

theorem muO_tm (i oi : Nat) (n : Int) (h : Hp) (ob : List Prop) : muO ⟨tmO i oi n, h, ob⟩ = (130 - n).toNat := rfl

theorem tri_tail {i oi : Nat} {tmI : List A} {bl : List Nat} (T : TailOk i oi tmI bl) (b : Blk) (r : Res) (d0 d1 d2 d3 d4 : Int) (h : ∀ x ∈ [d0, d1, d2, d3, d4], 0 ≤ x ∧ x < 67108864) (hr : r = ⟨.agg .u8 (bytesOf 17 (dnum 26 [d0, d1, d2, d3, d4])), [none], none, r.ob⟩) (ob : List Prop) :
    Tri (mk []) 2 tailR ⟨tmE i, hpE i b [d0, d1, d2, d3, d4], ob⟩ (FinR b r) := by
  have hbl := T.blk
  subst hbl
  rw [tail_eq]
  refine tri_seq (Mid := fun ex s => ex = .normal ∧ s = ⟨tmI, hpO i oi b [d0, d1, d2, d3, d4] (List.replicate 17 0), []⟩) (tri_ob (tri_execF mk0_ok (by decide) 100 _ _ (T.inn b _) Holds.nil ⟨rfl, rfl⟩)) (fun s1 h1 => ?_) (fun ex s1 hne h1 => absurd h1.1 hne)
  obtain ⟨_, rfl⟩ := h1
  refine tri_seq (Mid := fun ex s => ex = .normal ∧ s.tm = tmO i oi 130 ∧ s.h = hpO i oi b [d0, d1, d2, d3, d4] (outGo [d0, d1, d2, d3, d4] 130)) ?_ (fun s1 h1 => ?_) (fun ex s1 hne h1 => absurd h1.1 hne)
  · refine tri_seq (Mid := fun ex s => ex = .normal ∧ s = ⟨tmO i oi 0, hpO i oi b [d0, d1, d2, d3, d4] (List.replicate 17 0), []⟩) (tri_execF mk0_ok (by decide) 100 _ _ (T.ini b _ _) Holds.nil ⟨rfl, rfl⟩) (fun s1 h1 => ?_) (fun ex s1 hne h1 => absurd h1.1 hne)
    obtain ⟨_, rfl⟩ := h1
    refine tri_block (tri_loop (fun s => ∃ n : Nat, n ≤ 130 ∧ s.tm = tmO i oi (n : Int) ∧ s.h = hpO i oi b [d0, d1, d2, d3, d4] (outGo [d0, d1, d2, d3, d4] n)) muO ⟨0, by decide, rfl, rfl⟩ (fun s hs => ?_))
    obtain ⟨tm, hp, ob⟩ := s
    obtain ⟨n, hn, rfl, rfl⟩ := hs
    rcases Nat.lt_or_ge n 130 with hl | hl
    · refine tri_ob (tri_execF mk0_ok (by decide) 100 _ _ (rounds_get T.rd n hl b d0 d1 d2 d3 d4 _ (outGo_length _ _)) Holds.nil ⟨⟨n + 1, hl, rfl, rfl⟩, ?_⟩)
      rw [muO_tm, muO_tm]
      omega
    · have e : n = 130 := by omega
      subst e
      refine tri_ob (tri_execF mk0_ok (by decide) 100 _ _ (T.stop b _ _) Holds.nil ?_)
      exact ⟨rfl, rfl, rfl⟩
  · obtain ⟨_, e1, e2⟩ := h1
    obtain ⟨tm, hp, ob⟩ := s1
    subst e1 e2
    have hby := outGo_bytes [d0, d1, d2, d3, d4] rfl h
    obtain ⟨o0, o1, o2, o3, o4, o5, o6, o7, o8, o9, o10, o11, o12, o13, o14, o15, o16, ho⟩ := list17 (outGo_length [d0, d1, d2, d3, d4] 130)
    rw [ho] at hby ⊢
    refine tri_ob (tri_end mk0_ok (T.fin b _ _ _ _ _ _ _ _ _ _ _ _ _ _ _ _ _ _) Holds.nil ⟨?_, ?_, ?_⟩)
    · rw [hr, ← hby]
    · rw [hr]
    · intro j hj
      match j, hj with
      | 0, _ => rw [hr]; rfl
      | j + 1, hj => simp at hj

def muR (s : St) : Nat :=
  2 * (match look s.h 3 with
    | some b => (dnum 26 b.l).toNat
    | none => 0) + (match tmOf s 7 with
    | .int _ r => if 0 < r then 1 else 0
    | _ => 0)

theorem muR_tm (rest : Int) (b : Blk) (d : List Int) (ob : List Prop) : muR ⟨tmR rest, hpR b d, ob⟩ = 2 * (dnum 26 d).toNat + (if 0 < rest then 1 else 0) := rfl

def InvR (b : Blk) (N : Int) (s : St) : Prop := ∃ rest d0 d1 d2 d3 d4, s.tm = tmR rest ∧ s.h = hpR b [d0, d1, d2, d3, d4] ∧ 0 ≤ rest ∧ (∀ x ∈ [d0, d1, d2, d3, d4], 0 ≤ x ∧ x < 2305843009213693952) ∧
  (rest = 0 → ∀ x ∈ [d0, d1, d2, d3, d4], 0 ≤ x ∧ x < 67108864) ∧ dnum 26 [d0, d1, d2, d3, d4] % q130 = N % q130

theorem tri_loopR (b : Blk) (N : Int) (d0 d1 d2 d3 d4 : Int) (h : ∀ x ∈ [d0, d1, d2, d3, d4], 0 ≤ x ∧ x < 2305843009213693952) (hN : dnum 26 [d0, d1, d2, d3, d4] % q130 = N % q130) :
    Tri (mk []) 2 (.block 6 (.loop loopR)) ⟨tmR 1, hpR b [d0, d1, d2, d3, d4], []⟩ (fun ex s => ex = .normal ∧ ∃ rest e0 e1 e2 e3 e4, s.tm = tmR rest ∧ s.h = hpR b [e0, e1, e2, e3, e4] ∧ (∀ x ∈ [e0, e1, e2, e3, e4], 0 ≤ x ∧ x < 67108864) ∧ dnum 26 [e0, e1, e2, e3, e4] % q130 = N % q130) := by
  refine tri_block (tri_loop (InvR b N) muR ⟨1, d0, d1, d2, d3, d4, rfl, rfl, by decide, h, fun e => absurd e (by decide), hN⟩ (fun s hs => ?_))
  obtain ⟨tm, hp, ob⟩ := s
  obtain ⟨rest, d0, d1, d2, d3, d4, rfl, rfl, hr, hb, hz, hm⟩ := hs
  by_cases hpos : 0 < rest
  · obtain ⟨c, e0, e1, e2, e3, e4, hrnd, hc, he, hd⟩ := rnd_eq d0 d1 d2 d3 d4 hb
    have run := round_run b rest d0 d1 d2 d3 d4
    rw [hrnd] at run
    refine tri_ob (tri_ctx (tri_execF (mkh0_ok _) (show 1 ≤ 2 from by decide) 300 _ _ run (Holds.one (decide_eq_true hpos)) ⟨⟨c, _, _, _, _, _, rfl, rfl, hc.1, ?_, ?_, ?_⟩, ?_⟩))
    · rw [all5] at he ⊢
      omega
    · intro hc0
      rw [all5] at he ⊢
      omega
    · rw [← hm, hd]
      have : dnum 26 [e0 + 5 * c, e1, e2, e3, e4] = dnum 26 [e0, e1, e2, e3, e4] + 1361129467683753853853498429727072845824 * c + (-c) * q130 := by
        simp only [dnum, p26]
        unfold q130
        omega
      rw [this, Int.add_mul_emod_self_right]
    · rw [muR_tm, muR_tm, if_pos hpos]
      have e26 : dnum 26 [e0 + 5 * c, e1, e2, e3, e4] = dnum 26 [e0, e1, e2, e3, e4] + 5 * c := by
        simp only [dnum, p26]
        omega
      have hn := (dnum_range 26 [e0, e1, e2, e3, e4] (by rw [p26]; exact he)).1
      rw [e26, hd]
      split <;> omega
  · refine tri_ob (tri_ctx (tri_execF (mkh0_ok _) (show 1 ≤ 2 from by decide) 300 _ _ (round_end b rest _) (Holds.one (decide_eq_false hpos)) ?_))
    have : rest = 0 := by omega
    exact ⟨rfl, rest, d0, d1, d2, d3, d4, rfl, rfl, hz this, hm⟩

theorem tri_chk (b : Blk) (r : Res) (N : Int) (rest d0 d1 d2 d3 d4 : Int) (h : ∀ x ∈ [d0, d1, d2, d3, d4], 0 ≤ x ∧ x < 67108864) (hN : dnum 26 [d0, d1, d2, d3, d4] % q130 = N % q130) (hr : r = ⟨.agg .u8 (bytesOf 17 (N % q130)), [none], none, r.ob⟩) :
    Tri (mk []) 2 (.seq chkR tailR) ⟨tmR rest, hpR b [d0, d1, d2, d3, d4], []⟩ (FinR b r) := by
  have h5 := all5.1 h
  have small : (d4 ≠ 67108863 ∨ d3 ≠ 67108863 ∨ d2 ≠ 67108863 ∨ d1 ≠ 67108863 ∨ d0 < 67108859) → ∀ s1 : St, (Ex.normal = Ex.normal ∧ s1.tm = tmE 3 ∧ s1.h = hpE 3 b [d0, d1, d2, d3, d4]) → Tri (mk []) 2 tailR s1 (FinR b r) := by
    intro hc s1 ⟨_, e1, e2⟩
    obtain ⟨tm, hp, ob⟩ := s1
    subst e1 e2
    refine tri_tail tail3 b r d0 d1 d2 d3 d4 h ?_ ob
    have e : dnum 26 [d0, d1, d2, d3, d4] = N % q130 := by
      rw [← hN]
      symm
      have := dnum_range 26 [d0, d1, d2, d3, d4] (by rw [p26]; exact h)
      refine Int.emod_eq_of_lt this.1 ?_
      simp only [dnum, p26]
      unfold q130
      omega
    rw [e]; exact hr
  have go : ∀ (p : Nat) (obs : List Prop), execF (mkh (hintC p) []) 300 chkR 2 [2, 3] [0, 1, 2, 3] ⟨tmR rest, hpR b [d0, d1, d2, d3, d4], []⟩ = some (.normal, ⟨tmE 3, hpE 3 b [d0, d1, d2, d3, d4], obs⟩) → Holds obs →
      (d4 ≠ 67108863 ∨ d3 ≠ 67108863 ∨ d2 ≠ 67108863 ∨ d1 ≠ 67108863 ∨ d0 < 67108859) → Tri (mk []) 2 (.seq chkR tailR) ⟨tmR rest, hpR b [d0, d1, d2, d3, d4], []⟩ (FinR b r) := by
    intro p obs hrun hob hc
    exact tri_seq (Mid := fun ex s => ex = .normal ∧ s.tm = tmE 3 ∧ s.h = hpE 3 b [d0, d1, d2, d3, d4]) (tri_ctx (tri_execF (mkh0_ok _) (show 1 ≤ 2 from by decide) 300 _ _ hrun hob ⟨rfl, rfl, rfl⟩)) (small hc) (fun ex s1 hne h1 => absurd h1.1 hne)
  have bt : ∀ x : Int, x = 67108863 → (x == 67108863) = true := fun x e => by simp [e]
  have bf : ∀ x : Int, x ≠ 67108863 → (x == 67108863) = false := fun x e => by simp [e]
  by_cases c4 : d4 = 67108863
  · by_cases c3 : d3 = 67108863
    · by_cases c2 : d2 = 67108863
      · by_cases c1 : d1 = 67108863
        · by_cases c0 : d0 ≥ 67108859
          · refine tri_seq (Mid := fun ex s => ex = .normal ∧ s.tm = tmE 4 ∧ s.h = hpE 4 b [WI (d0 - 67108859), 0, 0, 0, 0]) (tri_ctx (tri_execF (mkh0_ok _) (show 1 ≤ 2 from by decide) 300 _ _ (chk_run5 b rest d0 d1 d2 d3 d4)
              (hcons (bt _ c4) (hcons (bt _ c3) (hcons (bt _ c2) (hcons (bt _ c1) (Holds.one (decide_eq_true c0)))))) ⟨rfl, rfl, rfl⟩)) (fun s1 h1 => ?_) (fun ex s1 hne h1 => absurd h1.1 hne)
            obtain ⟨_, e1, e2⟩ := h1
            obtain ⟨tm, hp, ob⟩ := s1
            subst e1 e2
            have ew : WI (d0 - 67108859) = d0 - 67108859 := i64w _ (by omega) (by omega)
            rw [ew]
            refine tri_tail tail4 b r _ _ _ _ _ (all5.2 (by omega)) ?_ ob
            have e : dnum 26 [d0 - 67108859, 0, 0, 0, 0] = N % q130 := by
              rw [← hN]
              have e1 : dnum 26 [d0, d1, d2, d3, d4] = (d0 - 67108859) + 1 * q130 := by
                simp only [dnum, p26]
                unfold q130
                omega
              rw [e1, Int.add_mul_emod_self_right]
              symm
              simp only [dnum, p26]
              unfold q130
              omega
            rw [e]; exact hr
          · exact go 4 _ (chk_run4 b rest d0 d1 d2 d3 d4) (hcons (bt _ c4) (hcons (bt _ c3) (hcons (bt _ c2) (hcons (bt _ c1) (Holds.one (decide_eq_false c0)))))) (by omega)
        · exact go 3 _ (chk_run3 b rest d0 d1 d2 d3 d4) (hcons (bt _ c4) (hcons (bt _ c3) (hcons (bt _ c2) (Holds.one (bf _ c1))))) (by omega)
      · exact go 2 _ (chk_run2 b rest d0 d1 d2 d3 d4) (hcons (bt _ c4) (hcons (bt _ c3) (Holds.one (bf _ c2)))) (by omega)
    · exact go 1 _ (chk_run1 b rest d0 d1 d2 d3 d4) (hcons (bt _ c4) (Holds.one (bf _ c3))) (by omega)
  · exact go 0 _ (chk_run0 b rest d0 d1 d2 d3 d4) (Holds.one (bf _ c4)) (by omega)

/-! ### The contract -/

def fReduce : List A → List Blk → Option Res
  | [.slc i 0 n c], [b] => match Nat.beq i 1 && Nat.beq n b.l.length && Nat.beq c n && decide (b.k = .i64) && (Nat.beq n 6 || Nat.beq n 11) with
    | true => some ⟨.agg .u8 (bytesOf 17 (dnum 26 b.l % q130)), [none], none, b.l.map (fun x => 0 ≤ x ∧ x < 36028797018963968)⟩
    | false => none
  | _, _ => none

theorem list6 {l : List Int} (h : l.length = 6) : ∃ a b c d e f, l = [a, b, c, d, e, f] := by
  match l, h with
  | [a, b, c, d, e, f], _ => exact ⟨a, b, c, d, e, f, rfl⟩

theorem list11 {l : List Int} (h : l.length = 11) : ∃ a b c d e f g i j k m, l = [a, b, c, d, e, f, g, i, j, k, m] := by
  match l, h with
  | [a, b, c, d, e, f, g, i, j, k, m], _ => exact ⟨a, b, c, d, e, f, g, i, j, k, m, rfl⟩

theorem reduce_ok : FnOk Tryd.prog gl 41 fReduce := by
  refine fnOk_of_tri (C := mk []) Tryd.func41 (by kernel_rfl) bodyR_eq (fun args mem r hr hob => ?_)
  unfold fReduce at hr
  split at hr
  · rename_i i n c b
    split at hr
    · rename_i hc
      simp only [Option.some.injEq] at hr
      subst hr
      simp only [Bool.and_eq_true, Bool.or_eq_true] at hc
      obtain ⟨⟨⟨⟨hi, hn⟩, hcn⟩, hk⟩, h611⟩ := hc
      have hi' := Nat.eq_of_beq_eq_true hi
      have hn' := Nat.eq_of_beq_eq_true hn
      have hc' := Nat.eq_of_beq_eq_true hcn
      have hk' := of_decide_eq_true hk
      obtain ⟨k, ty, x, rw⟩ := b
      simp only at hk' hn'
      subst hi' hc' hn' hk'
      refine ⟨beq_le (by kernel_rfl), fun j b hj => ?_, fun b hb => (by cases hb), fun _ _ => ?_⟩
      · match j, hj with
        | 0, hj => simp at hj
        | j + 1, hj => simp at hj
      have hx : ∀ y ∈ x, 0 ≤ y ∧ y < 36028797018963968 := fun y hy => hob _ (List.mem_map.2 ⟨y, hy, rfl⟩)
      have key : ∀ d0 d1 d2 d3 d4 : Int, (∀ y ∈ [d0, d1, d2, d3, d4], 0 ≤ y ∧ y < 2305843009213693952) → dnum 26 [d0, d1, d2, d3, d4] % q130 = dnum 26 x % q130 →
          Tri (mk []) 2 (.seq (.block 6 (.loop loopR)) (.seq chkR tailR)) ⟨tmR 1, hpR ⟨.i64, ty, x, rw⟩ [d0, d1, d2, d3, d4], []⟩ (FinR ⟨.i64, ty, x, rw⟩ ⟨.agg .u8 (bytesOf 17 (dnum 26 x % q130)), [none], none, x.map (fun x => 0 ≤ x ∧ x < 36028797018963968)⟩) := by
        intro d0 d1 d2 d3 d4 hd hm
        refine tri_seq (tri_loopR _ (dnum 26 x) d0 d1 d2 d3 d4 hd hm) (fun s1 h1 => ?_) (fun ex s1 hne h1 => absurd h1.1 hne)
        obtain ⟨_, rest, e0, e1, e2, e3, e4, t1, t2, he, hem⟩ := h1
        obtain ⟨tm, hp, ob⟩ := s1
        subst t1 t2
        exact tri_ob (tri_chk _ _ (dnum 26 x) rest e0 e1 e2 e3 e4 he hem rfl)
      rcases h611 with h6 | h6
      · have h6' := Nat.eq_of_beq_eq_true h6
        obtain ⟨x0, x1, x2, x3, x4, x5, rfl⟩ := list6 h6'
        have hx' := hx
        simp only [List.mem_cons, List.not_mem_nil, or_false, forall_eq_or_imp, forall_eq] at hx'
        have run := pre6_run ty rw x0 x1 x2 x3 x4 x5
        rw [red6_eq x0 x1 x2 x3 x4 x5 (by omega) (by omega) (by omega) (by omega) (by omega) (by omega)] at run
        refine tri_preF mk0_ok (Nat.le_add_right _ _) 600 5 _ _ _ [2, 3, 7] [0, 1, 2, 3] run Holds.nil ?_
        rw [post_eq]
        refine key _ _ _ _ _ (all5.2 (by omega)) ?_
        have : dnum 26 [x0, x1, x2, x3, x4, x5] = dnum 26 [x0 + 5 * x5, x1, x2, x3, x4] + x5 * q130 := by
          simp only [dnum, p26]
          unfold q130
          omega
        rw [this, Int.add_mul_emod_self_right]
      · have h6' := Nat.eq_of_beq_eq_true h6
        obtain ⟨x0, x1, x2, x3, x4, x5, x6, x7, x8, x9, x10, rfl⟩ := list11 h6'
        have hx' := hx
        simp only [List.mem_cons, List.not_mem_nil, or_false, forall_eq_or_imp, forall_eq] at hx'
        have run := pre11_run ty rw x0 x1 x2 x3 x4 x5 x6 x7 x8 x9 x10
        rw [red11_eq x0 x1 x2 x3 x4 x5 x6 x7 x8 x9 x10 hx, red6_eq _ _ _ _ _ _ (by omega) (by omega) (by omega) (by omega) (by omega) (by omega)] at run
        refine tri_preF mk0_ok (Nat.le_add_right _ _) 600 5 _ _ _ [2, 3, 7] [0, 1, 2, 3] run Holds.nil ?_
        rw [post_eq]
        refine key _ _ _ _ _ (all5.2 (by omega)) ?_
        have : dnum 26 [x0, x1, x2, x3, x4, x5, x6, x7, x8, x9, x10] = dnum 26 [x0 + 5 * x5 + 5 * (5 * x10), x1 + 5 * x6, x2 + 5 * x7, x3 + 5 * x8, x4 + 5 * x9] + (x5 + 67108864 * (x6 + 67108864 * (x7 + 67108864 * (x8 + 67108864 * (x9 + 67108864 * x10)))) + 5 * x10) * q130 := by
          simp only [dnum, p26]
          unfold q130
          omega
        rw [this, Int.add_mul_emod_self_right]
    · cases hr
  · cases hr

end Go.Proofs.YtbdmahidobjaoaaDoor.Sx
