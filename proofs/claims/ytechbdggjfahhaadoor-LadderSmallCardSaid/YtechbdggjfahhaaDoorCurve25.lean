/-
  Plain arithmetic of words modulo 2^255 - 19. No program in sight.
-/
import Derived.Test.YtechbdggjfahhaaDoorFnKit
namespace Go.Proofs.YtechbdggjfahhaaDoor.Sx
open Go
set_option maxRecDepth 100000

/-- 2^255 - 19. -/
def p25 : Int := 57896044618658097711785492504343953926634992332820282019728792003956564819949

/-- What stands from 2^256 on, 38 times below. -/
def red25 (n : Int) : Int := n % 115792089237316195423570985008687907853269984665640564039457584007913129639936 + 38 * (n / 115792089237316195423570985008687907853269984665640564039457584007913129639936)

abbrev W (n : Int) : Prop := 0 ≤ n ∧ n < 18446744073709551616

theorem pow4 : (18446744073709551616 : Int) ^ 4 = 115792089237316195423570985008687907853269984665640564039457584007913129639936 := by decide

theorem red25_mod (n : Int) : red25 n % p25 = n % p25 := by
  have e : n = red25 n + p25 * (2 * (n / 115792089237316195423570985008687907853269984665640564039457584007913129639936)) := by unfold red25 p25; omega
  conv => rhs; rw [e]
  rw [Int.add_mul_emod_self_left]

theorem red25_nonneg (n : Int) (h : 0 ≤ n) : 0 ≤ red25 n := by unfold red25; omega

theorem wnum_wordsOf4 (n : Int) : wnum (wordsOf 4 n) = n % 115792089237316195423570985008687907853269984665640564039457584007913129639936 := by
  rw [wnum_wordsOf, pow4]

theorem wordsOf4_mod (n m : Int) (h : n % 115792089237316195423570985008687907853269984665640564039457584007913129639936 = m % 115792089237316195423570985008687907853269984665640564039457584007913129639936) : wordsOf 4 n = wordsOf 4 m := by
  simp only [wordsOf, wordsFrom]
  have e : ∀ x : Int, (18446744073709551616 : Int) ^ 0 = 1 ∧ (18446744073709551616 : Int) ^ (0 + 1) = 18446744073709551616 ∧ (18446744073709551616 : Int) ^ (0 + 1 + 1) = 340282366920938463463374607431768211456 ∧ (18446744073709551616 : Int) ^ (0 + 1 + 1 + 1) = 6277101735386680763835789423207666416102355444464034512896 := fun _ => by decide
  obtain ⟨e0, e1, e2, e3⟩ := e 0
  rw [e0, e1, e2, e3]
  congr 1
  · omega
  · congr 1
    · omega
    · congr 1
      · omega
      · congr 1
        omega

theorem wordsFrom_range (n : Int) : ∀ (m k : Nat), ∀ x ∈ wordsFrom k n m, W x
  | 0, _, x, h => by cases h
  | m + 1, k, x, h => by
    simp only [wordsFrom, List.mem_cons] at h
    rcases h with rfl | h
    · constructor <;> omega
    · exact wordsFrom_range n m (k + 1) x h

/-- Four words, out of a number. -/
theorem words4 (n : Int) : ∃ a b c d, wordsOf 4 n = [a, b, c, d] ∧ W a ∧ W b ∧ W c ∧ W d ∧ wnum [a, b, c, d] = n % 115792089237316195423570985008687907853269984665640564039457584007913129639936 := by
  refine ⟨_, _, _, _, rfl, ?_, ?_, ?_, ?_, ?_⟩
  · exact wordsFrom_range n 4 0 _ (by simp [wordsFrom])
  · exact wordsFrom_range n 4 0 _ (by simp [wordsFrom])
  · exact wordsFrom_range n 4 0 _ (by simp [wordsFrom])
  · exact wordsFrom_range n 4 0 _ (by simp [wordsFrom])
  · exact wnum_wordsOf4 n

theorem wnum4_range {a b c d : Int} (ha : W a) (hb : W b) (hc : W c) (hd : W d) : 0 ≤ wnum [a, b, c, d] ∧ wnum [a, b, c, d] < 115792089237316195423570985008687907853269984665640564039457584007913129639936 := by
  simp only [wnum]
  omega

/-- Four words are those of their number. -/
theorem words4_eq {a b c d n : Int} (ha : W a) (hb : W b) (hc : W c) (hd : W d) (h : wnum [a, b, c, d] = n % 115792089237316195423570985008687907853269984665640564039457584007913129639936) : [a, b, c, d] = wordsOf 4 n := by
  have := wordsOf_wnum [a, b, c, d] (fun x hx => by
    simp only [List.mem_cons, List.not_mem_nil, or_false] at hx
    rcases hx with rfl | rfl | rfl | rfl <;> assumption)
  rw [← this]
  exact wordsOf4_mod _ _ (by rw [h, Int.emod_emod])

/-! ### more -/

def moreR1 (w : List Int) (ab : Int) : List Int × Int :=
  match w with
  | [w0, w1, w2, w3] =>
    let lo := ab * 38 % b64
    let hi := ab * 38 / b64
    let c0 := carry w0 lo false
    let c1 := carry w1 hi c0
    let c2 := carry w2 0 c1
    let c3 := carry w3 0 c2
    ([addc w0 lo false, addc w1 hi c0, addc w2 0 c1, addc w3 0 c2], bi c3)
  | w => (w, ab)

theorem moreR1_eq (w0 w1 w2 w3 ab : Int) (h0 : W w0) (h1 : W w1) (h2 : W w2) (h3 : W w3) (ha : W ab) :
    ∃ a b c d k, moreR1 [w0, w1, w2, w3] ab = ([a, b, c, d], k) ∧ W a ∧ W b ∧ W c ∧ W d ∧ (k = 0 ∨ k = 1) ∧ wnum [w0, w1, w2, w3] + 38 * ab = wnum [a, b, c, d] + 115792089237316195423570985008687907853269984665640564039457584007913129639936 * k := by
  refine ⟨_, _, _, _, _, rfl, ?_⟩
  have e0 := addc_split w0 (ab * 38 % b64) false h0.1 h0.2 (by unfold b64; omega) (by unfold b64; omega)
  have e1 := addc_split w1 (ab * 38 / b64) (carry w0 (ab * 38 % b64) false) h1.1 h1.2 (by unfold b64; omega) (by unfold b64; omega)
  have e2 := addc_split w2 0 (carry w1 (ab * 38 / b64) (carry w0 (ab * 38 % b64) false)) h2.1 h2.2 (by decide) (by decide)
  have e3 := addc_split w3 0 (carry w2 0 (carry w1 (ab * 38 / b64) (carry w0 (ab * 38 % b64) false))) h3.1 h3.2 (by decide) (by decide)
  have k0 := bi_range (carry w0 (ab * 38 % b64) false)
  have k1 := bi_range (carry w1 (ab * 38 / b64) (carry w0 (ab * 38 % b64) false))
  have k2 := bi_range (carry w2 0 (carry w1 (ab * 38 / b64) (carry w0 (ab * 38 % b64) false)))
  have k3 := bi_range (carry w3 0 (carry w2 0 (carry w1 (ab * 38 / b64) (carry w0 (ab * 38 % b64) false))))
  rw [show bi false = 0 from rfl] at e0
  refine ⟨e0.2, e1.2, e2.2, e3.2, by omega, ?_⟩
  simp only [wnum]
  unfold b64 at *
  omega

def moreR (w : List Int) (ab : Int) : List Int :=
  (moreR1 (moreR1 w ab).1 (moreR1 w ab).2).1

theorem moreR_eq (w0 w1 w2 w3 ab : Int) (h0 : W w0) (h1 : W w1) (h2 : W w2) (h3 : W w3) (ha : W ab) :
    moreR [w0, w1, w2, w3] ab = wordsOf 4 (red25 (wnum [w0, w1, w2, w3] + 38 * ab)) := by
  obtain ⟨a, b, c, d, k, e1, ha', hb, hc, hd, hk, en⟩ := moreR1_eq w0 w1 w2 w3 ab h0 h1 h2 h3 ha
  have hk' : W k := by rcases hk with rfl | rfl <;> constructor <;> decide
  obtain ⟨a', b', c', d', k', e1', ha'', hb', hc', hd', hk'', en'⟩ := moreR1_eq a b c d k ha' hb hc hd hk'
  unfold moreR
  rw [e1]
  simp only [e1']
  have r := wnum4_range ha' hb hc hd
  have r' := wnum4_range ha'' hb' hc' hd'
  refine words4_eq ha'' hb' hc' hd' ?_
  rw [en]
  unfold red25
  generalize wnum [a, b, c, d] = n at *
  generalize wnum [a', b', c', d'] = n' at *
  rcases hk with rfl | rfl <;> rcases hk'' with rfl | rfl <;> omega

/-! ### less -/

def lessR (w : List Int) : List Int :=
  match w with
  | [w0, w1, w2, w3] =>
    let b0 := borrow w0 18446744073709551597 false
    let b1 := borrow w1 18446744073709551615 b0
    let b2 := borrow w2 18446744073709551615 b1
    let b3 := borrow w3 9223372036854775807 b2
    [pickW b3 (subc w0 18446744073709551597 false) w0, pickW b3 (subc w1 18446744073709551615 b0) w1, pickW b3 (subc w2 18446744073709551615 b1) w2, pickW b3 (subc w3 9223372036854775807 b2) w3]
  | w => w

def less25 (n : Int) : Int := if n < p25 then n else n - p25

theorem lessR_eq (w0 w1 w2 w3 : Int) (h0 : W w0) (h1 : W w1) (h2 : W w2) (h3 : W w3) : lessR [w0, w1, w2, w3] = wordsOf 4 (less25 (wnum [w0, w1, w2, w3])) := by
  have e0 := subc_split w0 18446744073709551597 false h0.1 h0.2 (by decide) (by decide)
  have e1 := subc_split w1 18446744073709551615 (borrow w0 18446744073709551597 false) h1.1 h1.2 (by decide) (by decide)
  have e2 := subc_split w2 18446744073709551615 (borrow w1 18446744073709551615 (borrow w0 18446744073709551597 false)) h2.1 h2.2 (by decide) (by decide)
  have e3 := subc_split w3 9223372036854775807 (borrow w2 18446744073709551615 (borrow w1 18446744073709551615 (borrow w0 18446744073709551597 false))) h3.1 h3.2 (by decide) (by decide)
  have r := wnum4_range h0 h1 h2 h3
  simp only [lessR]
  rw [pickW_eq _ _ _ e0.2.1 e0.2.2 h0.1 h0.2, pickW_eq _ _ _ e1.2.1 e1.2.2 h1.1 h1.2, pickW_eq _ _ _ e2.2.1 e2.2.2 h2.1 h2.2, pickW_eq _ _ _ e3.2.1 e3.2.2 h3.1 h3.2]
  rw [show bi false = 0 from rfl] at e0
  have k0 := bi_range (borrow w0 18446744073709551597 false)
  have k1 := bi_range (borrow w1 18446744073709551615 (borrow w0 18446744073709551597 false))
  have k2 := bi_range (borrow w2 18446744073709551615 (borrow w1 18446744073709551615 (borrow w0 18446744073709551597 false)))
  generalize borrow w0 18446744073709551597 false = b0 at *
  generalize borrow w1 18446744073709551615 b0 = b1 at *
  generalize borrow w2 18446744073709551615 b1 = b2 at *
  generalize subc w0 18446744073709551597 false = a' at *
  generalize subc w1 18446744073709551615 b0 = b' at *
  generalize subc w2 18446744073709551615 b1 = c' at *
  generalize subc w3 9223372036854775807 b2 = d' at *
  generalize bi b0 = k0' at *
  generalize bi b1 = k1' at *
  generalize bi b2 = k2' at *
  unfold less25
  cases hb3 : borrow w3 9223372036854775807 b2 with
  | true =>
    rw [hb3, show bi true = 1 from rfl] at e3
    simp only [if_true]
    rw [if_pos (by simp only [wnum, p25]; omega)]
    exact words4_eq h0 h1 h2 h3 (by omega)
  | false =>
    rw [hb3, show bi false = 0 from rfl] at e3
    simp only [Bool.false_eq_true, if_false]
    rw [if_neg (by simp only [wnum, p25]; omega)]
    refine words4_eq e0.2 e1.2 e2.2 e3.2 ?_
    simp only [wnum, p25] at *
    omega

theorem less25_range (n : Int) (h : 0 ≤ n) (h1 : n < 115792089237316195423570985008687907853269984665640564039457584007913129639936) : 0 ≤ less25 n ∧ less25 n < 115792089237316195423570985008687907853269984665640564039457584007913129639936 := by
  unfold less25 p25; split <;> omega

theorem less25_lt {n : Int} (h : n < p25) : less25 n = n := if_pos h
theorem less25_ge {n : Int} (h : p25 ≤ n) : less25 n = n - p25 := if_neg (by omega)

theorem less25_twice (n : Int) (h : 0 ≤ n) (h1 : n < 115792089237316195423570985008687907853269984665640564039457584007913129639936) : less25 (less25 n) = n % p25 := by
  rcases Int.lt_or_le n p25 with a | a
  · rw [less25_lt a, less25_lt a]
    exact (Int.emod_eq_of_lt h a).symm
  · rw [less25_ge a]
    rcases Int.lt_or_le (n - p25) p25 with b | b
    · rw [less25_lt b]
      unfold p25 at *
      omega
    · rw [less25_ge b]
      unfold p25 at *
      omega

/-! ### sum, minus -/

def sumR (x y : List Int) : List Int × Int :=
  match x, y with
  | [x0, x1, x2, x3], [y0, y1, y2, y3] =>
    let c0 := carry x0 y0 false
    let c1 := carry x1 y1 c0
    let c2 := carry x2 y2 c1
    let c3 := carry x3 y3 c2
    ([addc x0 y0 false, addc x1 y1 c0, addc x2 y2 c1, addc x3 y3 c2], bi c3)
  | x, _ => (x, 0)

theorem sumR_eq (x0 x1 x2 x3 y0 y1 y2 y3 : Int) (h0 : W x0) (h1 : W x1) (h2 : W x2) (h3 : W x3) (g0 : W y0) (g1 : W y1) (g2 : W y2) (g3 : W y3) :
    ∃ a b c d k, sumR [x0, x1, x2, x3] [y0, y1, y2, y3] = ([a, b, c, d], k) ∧ W a ∧ W b ∧ W c ∧ W d ∧ (k = 0 ∨ k = 1) ∧ wnum [x0, x1, x2, x3] + wnum [y0, y1, y2, y3] = wnum [a, b, c, d] + 115792089237316195423570985008687907853269984665640564039457584007913129639936 * k := by
  refine ⟨_, _, _, _, _, rfl, ?_⟩
  have e0 := addc_split x0 y0 false h0.1 h0.2 g0.1 g0.2
  have e1 := addc_split x1 y1 (carry x0 y0 false) h1.1 h1.2 g1.1 g1.2
  have e2 := addc_split x2 y2 (carry x1 y1 (carry x0 y0 false)) h2.1 h2.2 g2.1 g2.2
  have e3 := addc_split x3 y3 (carry x2 y2 (carry x1 y1 (carry x0 y0 false))) h3.1 h3.2 g3.1 g3.2
  have k3 := bi_range (carry x3 y3 (carry x2 y2 (carry x1 y1 (carry x0 y0 false))))
  rw [show bi false = 0 from rfl] at e0
  refine ⟨e0.2, e1.2, e2.2, e3.2, by omega, ?_⟩
  simp only [wnum]
  omega

theorem more_sum (x0 x1 x2 x3 y0 y1 y2 y3 : Int) (h0 : W x0) (h1 : W x1) (h2 : W x2) (h3 : W x3) (g0 : W y0) (g1 : W y1) (g2 : W y2) (g3 : W y3) :
    wordsOf 4 (red25 (wnum (sumR [x0, x1, x2, x3] [y0, y1, y2, y3]).1 + 38 * (sumR [x0, x1, x2, x3] [y0, y1, y2, y3]).2)) = wordsOf 4 (red25 (red25 (wnum [x0, x1, x2, x3] + wnum [y0, y1, y2, y3]))) := by
  obtain ⟨a, b, c, d, k, e, ha, hb, hc, hd, hk, en⟩ := sumR_eq x0 x1 x2 x3 y0 y1 y2 y3 h0 h1 h2 h3 g0 g1 g2 g3
  rw [e, en]
  have r := wnum4_range ha hb hc hd
  generalize wnum [a, b, c, d] = n at *
  have e2 : red25 (n + 115792089237316195423570985008687907853269984665640564039457584007913129639936 * k) = n + 38 * k := by
    unfold red25
    rcases hk with rfl | rfl <;> omega
  rw [e2]

def minusR (x : List Int) : List Int :=
  match x with
  | [x0, x1, x2, x3] =>
    let b0 := borrow 18446744073709551597 x0 false
    let b1 := borrow 18446744073709551615 x1 b0
    let b2 := borrow 18446744073709551615 x2 b1
    [subc 18446744073709551597 x0 false, subc 18446744073709551615 x1 b0, subc 18446744073709551615 x2 b1, subc 9223372036854775807 x3 b2]
  | x => x

theorem minusR_eq (w0 w1 w2 w3 : Int) (h0 : W w0) (h1 : W w1) (h2 : W w2) (h3 : W w3) : minusR [w0, w1, w2, w3] = wordsOf 4 (p25 - wnum [w0, w1, w2, w3]) := by
  have e0 := subc_split 18446744073709551597 w0 false (by decide) (by decide) h0.1 h0.2
  have e1 := subc_split 18446744073709551615 w1 (borrow 18446744073709551597 w0 false) (by decide) (by decide) h1.1 h1.2
  have e2 := subc_split 18446744073709551615 w2 (borrow 18446744073709551615 w1 (borrow 18446744073709551597 w0 false)) (by decide) (by decide) h2.1 h2.2
  have e3 := subc_split 9223372036854775807 w3 (borrow 18446744073709551615 w2 (borrow 18446744073709551615 w1 (borrow 18446744073709551597 w0 false))) (by decide) (by decide) h3.1 h3.2
  rw [show bi false = 0 from rfl] at e0
  have k3 := bi_range (borrow 9223372036854775807 w3 (borrow 18446744073709551615 w2 (borrow 18446744073709551615 w1 (borrow 18446744073709551597 w0 false))))
  refine words4_eq e0.2 e1.2 e2.2 e3.2 ?_
  simp only [wnum, p25]
  omega

/-! ### product -/

structure Row4 where
  l0 : Int
  l1 : Int
  l2 : Int
  l3 : Int
  h : Int

def rowR (x y0 y1 y2 y3 t0 t1 t2 t3 : Int) : Row4 :=
  let h0 := macHi x y0 t0 0
  let h1 := macHi x y1 t1 h0
  let h2 := macHi x y2 t2 h1
  ⟨macLo x y0 t0 0, macLo x y1 t1 h0, macLo x y2 t2 h1, macLo x y3 t3 h2, macHi x y3 t3 h2⟩

theorem rowR_eq (x y0 y1 y2 y3 t0 t1 t2 t3 : Int) (hx : W x) (h0 : W y0) (h1 : W y1) (h2 : W y2) (h3 : W y3) (g0 : W t0) (g1 : W t1) (g2 : W t2) (g3 : W t3) :
    x * y0 + 18446744073709551616 * (x * y1 + 18446744073709551616 * (x * y2 + 18446744073709551616 * (x * y3))) + (t0 + 18446744073709551616 * (t1 + 18446744073709551616 * (t2 + 18446744073709551616 * t3))) =
      (rowR x y0 y1 y2 y3 t0 t1 t2 t3).l0 + 18446744073709551616 * ((rowR x y0 y1 y2 y3 t0 t1 t2 t3).l1 + 18446744073709551616 * ((rowR x y0 y1 y2 y3 t0 t1 t2 t3).l2 + 18446744073709551616 * ((rowR x y0 y1 y2 y3 t0 t1 t2 t3).l3 + 18446744073709551616 * (rowR x y0 y1 y2 y3 t0 t1 t2 t3).h))) ∧
    W (rowR x y0 y1 y2 y3 t0 t1 t2 t3).l0 ∧ W (rowR x y0 y1 y2 y3 t0 t1 t2 t3).l1 ∧ W (rowR x y0 y1 y2 y3 t0 t1 t2 t3).l2 ∧ W (rowR x y0 y1 y2 y3 t0 t1 t2 t3).l3 ∧ W (rowR x y0 y1 y2 y3 t0 t1 t2 t3).h := by
  simp only [rowR]
  obtain ⟨e0, a0, b0⟩ := mac_split x y0 t0 0 hx.1 hx.2 h0.1 h0.2 g0.1 g0.2 (by decide) (by decide)
  obtain ⟨e1, a1, b1⟩ := mac_split x y1 t1 (macHi x y0 t0 0) hx.1 hx.2 h1.1 h1.2 g1.1 g1.2 b0.1 b0.2
  obtain ⟨e2, a2, b2⟩ := mac_split x y2 t2 (macHi x y1 t1 (macHi x y0 t0 0)) hx.1 hx.2 h2.1 h2.2 g2.1 g2.2 b1.1 b1.2
  obtain ⟨e3, a3, b3⟩ := mac_split x y3 t3 (macHi x y2 t2 (macHi x y1 t1 (macHi x y0 t0 0))) hx.1 hx.2 h3.1 h3.2 g3.1 g3.2 b2.1 b2.2
  refine ⟨?_, a0, a1, a2, a3, b3⟩
  generalize macHi x y3 t3 (macHi x y2 t2 (macHi x y1 t1 (macHi x y0 t0 0))) = H3 at *
  generalize macLo x y3 t3 (macHi x y2 t2 (macHi x y1 t1 (macHi x y0 t0 0))) = L3 at *
  generalize macHi x y2 t2 (macHi x y1 t1 (macHi x y0 t0 0)) = H2 at *
  generalize macLo x y2 t2 (macHi x y1 t1 (macHi x y0 t0 0)) = L2 at *
  generalize macHi x y1 t1 (macHi x y0 t0 0) = H1 at *
  generalize macLo x y1 t1 (macHi x y0 t0 0) = L1 at *
  generalize macHi x y0 t0 0 = H0 at *
  generalize macLo x y0 t0 0 = L0 at *
  generalize x * y0 = p0 at *
  generalize x * y1 = p1 at *
  generalize x * y2 = p2 at *
  generalize x * y3 = p3 at *
  omega

/-- The eight words of a product. -/
def prodR (x y : List Int) : List Int :=
  match x, y with
  | [x0, x1, x2, x3], [y0, y1, y2, y3] =>
    let p := rowR x0 y0 y1 y2 y3 0 0 0 0
    let q := rowR x1 y0 y1 y2 y3 p.l1 p.l2 p.l3 p.h
    let r := rowR x2 y0 y1 y2 y3 q.l1 q.l2 q.l3 q.h
    let s := rowR x3 y0 y1 y2 y3 r.l1 r.l2 r.l3 r.h
    [p.l0, q.l0, r.l0, s.l0, s.l1, s.l2, s.l3, s.h]
  | _, _ => []

theorem prodR_eq (x0 x1 x2 x3 y0 y1 y2 y3 : Int) (hx0 : W x0) (hx1 : W x1) (hx2 : W x2) (hx3 : W x3) (hy0 : W y0) (hy1 : W y1) (hy2 : W y2) (hy3 : W y3) :
    ∃ t0 t1 t2 t3 t4 t5 t6 t7, prodR [x0, x1, x2, x3] [y0, y1, y2, y3] = [t0, t1, t2, t3, t4, t5, t6, t7] ∧ W t0 ∧ W t1 ∧ W t2 ∧ W t3 ∧ W t4 ∧ W t5 ∧ W t6 ∧ W t7 ∧
      wnum [x0, x1, x2, x3] * wnum [y0, y1, y2, y3] = wnum [t0, t1, t2, t3] + 115792089237316195423570985008687907853269984665640564039457584007913129639936 * wnum [t4, t5, t6, t7] := by
  refine ⟨_, _, _, _, _, _, _, _, rfl, ?_⟩
  have z : W 0 := ⟨by decide, by decide⟩
  obtain ⟨e0, a0, a1, a2, a3, a4⟩ := rowR_eq x0 y0 y1 y2 y3 0 0 0 0 hx0 hy0 hy1 hy2 hy3 z z z z
  generalize rowR x0 y0 y1 y2 y3 0 0 0 0 = p at *
  obtain ⟨e1, b0, b1, b2, b3, b4⟩ := rowR_eq x1 y0 y1 y2 y3 p.l1 p.l2 p.l3 p.h hx1 hy0 hy1 hy2 hy3 a1 a2 a3 a4
  generalize rowR x1 y0 y1 y2 y3 p.l1 p.l2 p.l3 p.h = q at *
  obtain ⟨e2, c0, c1, c2, c3, c4⟩ := rowR_eq x2 y0 y1 y2 y3 q.l1 q.l2 q.l3 q.h hx2 hy0 hy1 hy2 hy3 b1 b2 b3 b4
  generalize rowR x2 y0 y1 y2 y3 q.l1 q.l2 q.l3 q.h = r at *
  obtain ⟨e3, d0, d1, d2, d3, d4⟩ := rowR_eq x3 y0 y1 y2 y3 r.l1 r.l2 r.l3 r.h hx3 hy0 hy1 hy2 hy3 c1 c2 c3 c4
  generalize rowR x3 y0 y1 y2 y3 r.l1 r.l2 r.l3 r.h = s at *
  refine ⟨a0, b0, c0, d0, d1, d2, d3, d4, ?_⟩
  have e : wnum [x0, x1, x2, x3] * wnum [y0, y1, y2, y3] =
      (x0 * y0 + 18446744073709551616 * (x0 * y1 + 18446744073709551616 * (x0 * y2 + 18446744073709551616 * (x0 * y3)))) + 18446744073709551616 * (x1 * y0 + 18446744073709551616 * (x1 * y1 + 18446744073709551616 * (x1 * y2 + 18446744073709551616 * (x1 * y3)))) +
        340282366920938463463374607431768211456 * (x2 * y0 + 18446744073709551616 * (x2 * y1 + 18446744073709551616 * (x2 * y2 + 18446744073709551616 * (x2 * y3)))) +
        6277101735386680763835789423207666416102355444464034512896 * (x3 * y0 + 18446744073709551616 * (x3 * y1 + 18446744073709551616 * (x3 * y2 + 18446744073709551616 * (x3 * y3)))) := by
    simp only [wnum]
    grind
  rw [e]
  simp only [wnum]
  generalize x0 * y0 + 18446744073709551616 * (x0 * y1 + 18446744073709551616 * (x0 * y2 + 18446744073709551616 * (x0 * y3))) = q0 at *
  generalize x1 * y0 + 18446744073709551616 * (x1 * y1 + 18446744073709551616 * (x1 * y2 + 18446744073709551616 * (x1 * y3))) = q1 at *
  generalize x2 * y0 + 18446744073709551616 * (x2 * y1 + 18446744073709551616 * (x2 * y2 + 18446744073709551616 * (x2 * y3))) = q2 at *
  generalize x3 * y0 + 18446744073709551616 * (x3 * y1 + 18446744073709551616 * (x3 * y2 + 18446744073709551616 * (x3 * y3))) = q3 at *
  omega

/-- The upper half, 38 times below: the lower words, what is above. -/
def lowR (t : List Int) : List Int × Int :=
  match t with
  | [t0, t1, t2, t3, t4, t5, t6, t7] =>
    let h0 := macHi t4 38 t0 0
    let h1 := macHi t5 38 t1 h0
    let h2 := macHi t6 38 t2 h1
    ([macLo t4 38 t0 0, macLo t5 38 t1 h0, macLo t6 38 t2 h1, macLo t7 38 t3 h2], macHi t7 38 t3 h2)
  | t => (t, 0)

theorem lowR_eq (t0 t1 t2 t3 t4 t5 t6 t7 : Int) (h0 : W t0) (h1 : W t1) (h2 : W t2) (h3 : W t3) (h4 : W t4) (h5 : W t5) (h6 : W t6) (h7 : W t7) :
    ∃ a b c d k, lowR [t0, t1, t2, t3, t4, t5, t6, t7] = ([a, b, c, d], k) ∧ W a ∧ W b ∧ W c ∧ W d ∧ W k ∧ wnum [t0, t1, t2, t3] + 38 * wnum [t4, t5, t6, t7] = wnum [a, b, c, d] + 115792089237316195423570985008687907853269984665640564039457584007913129639936 * k := by
  refine ⟨_, _, _, _, _, rfl, ?_⟩
  have z : W 38 := ⟨by decide, by decide⟩
  obtain ⟨e0, a0, b0⟩ := mac_split t4 38 t0 0 h4.1 h4.2 z.1 z.2 h0.1 h0.2 (by decide) (by decide)
  obtain ⟨e1, a1, b1⟩ := mac_split t5 38 t1 (macHi t4 38 t0 0) h5.1 h5.2 z.1 z.2 h1.1 h1.2 b0.1 b0.2
  obtain ⟨e2, a2, b2⟩ := mac_split t6 38 t2 (macHi t5 38 t1 (macHi t4 38 t0 0)) h6.1 h6.2 z.1 z.2 h2.1 h2.2 b1.1 b1.2
  obtain ⟨e3, a3, b3⟩ := mac_split t7 38 t3 (macHi t6 38 t2 (macHi t5 38 t1 (macHi t4 38 t0 0))) h7.1 h7.2 z.1 z.2 h3.1 h3.2 b2.1 b2.2
  refine ⟨a0, a1, a2, a3, b3, ?_⟩
  simp only [wnum]
  omega

/-- What a product of two numbers below 2^256 is brought down to. -/
def prod25 (x y : Int) : Int := red25 (red25 (red25 (x * y)))

theorem prod25_mod (x y : Int) : prod25 x y % p25 = x * y % p25 := by
  unfold prod25
  rw [red25_mod, red25_mod, red25_mod]

theorem red25_3 (n : Int) (h : 0 ≤ n) (h1 : n < 115792089237316195423570985008687907853269984665640564039457584007913129639936 * 115792089237316195423570985008687907853269984665640564039457584007913129639936) :
    0 ≤ red25 (red25 (red25 n)) ∧ red25 (red25 (red25 n)) < 115792089237316195423570985008687907853269984665640564039457584007913129639936 := by
  have a : 0 ≤ red25 n ∧ red25 n < 115792089237316195423570985008687907853269984665640564039457584007913129639936 * 39 := by
    unfold red25; omega
  have b : 0 ≤ red25 (red25 n) ∧ red25 (red25 n) < 115792089237316195423570985008687907853269984665640564039457584007913129639936 + 1482 := by
    generalize red25 n = m at *
    unfold red25; omega
  generalize red25 (red25 n) = m at *
  unfold red25; omega

theorem prod25_range (x y : Int) (hx : 0 ≤ x ∧ x < 115792089237316195423570985008687907853269984665640564039457584007913129639936) (hy : 0 ≤ y ∧ y < 115792089237316195423570985008687907853269984665640564039457584007913129639936) :
    0 ≤ prod25 x y ∧ prod25 x y < 115792089237316195423570985008687907853269984665640564039457584007913129639936 := by
  have h0 : 0 ≤ x * y := Int.mul_nonneg hx.1 hy.1
  have h1 : x * y ≤ 115792089237316195423570985008687907853269984665640564039457584007913129639935 * 115792089237316195423570985008687907853269984665640564039457584007913129639935 := Int.mul_le_mul (by omega) (by omega) hy.1 (by decide)
  exact red25_3 _ h0 (by omega)

end Go.Proofs.YtechbdggjfahhaaDoor.Sx
