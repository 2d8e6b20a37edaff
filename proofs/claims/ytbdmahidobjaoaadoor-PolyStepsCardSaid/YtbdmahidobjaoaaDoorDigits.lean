/-
  Numbers by digits of any width, bit by bit. No program in sight.
-/
import Derived.Test.YtbdmahidobjaoaaDoorW64
namespace Go.Proofs.YtbdmahidobjaoaaDoor.Sx
open Go

theorem pp (k : Nat) : (0 : Int) < 2 ^ k := Int.pow_pos (by decide)

/-- Digit j of w bits. -/
def dig (w : Nat) (n : Int) (j : Nat) : Int := n / 2 ^ (w * j) % 2 ^ w

def digsFrom (w : Nat) (n : Int) : Nat → Nat → List Int
  | _, 0 => []
  | j, m + 1 => dig w n j :: digsFrom w n (j + 1) m

def digsOf (w k : Nat) (n : Int) : List Int := digsFrom w n 0 k

theorem digsFrom_length (w : Nat) (n : Int) : ∀ (m j : Nat), (digsFrom w n j m).length = m
  | 0, _ => rfl
  | m + 1, j => by simp [digsFrom, digsFrom_length w n m (j + 1)]

theorem digsFrom_get (w : Nat) (n : Int) : ∀ (m j i : Nat), i < m → (digsFrom w n j m)[i]? = some (dig w n (j + i))
  | 0, _, i, h => by omega
  | m + 1, j, 0, _ => rfl
  | m + 1, j, i + 1, h => by
    unfold digsFrom
    rw [List.getElem?_cons_succ, digsFrom_get w n m (j + 1) i (by omega)]
    congr 2
    omega

theorem digsOf_get (w k : Nat) (n : Int) (i : Nat) (h : i < k) : (digsOf w k n)[i]? = some (dig w n i) := by
  unfold digsOf
  rw [digsFrom_get w n k 0 i h, Nat.zero_add]

theorem bytesOf_digs (m : Nat) (n : Int) : bytesOf m n = digsOf 8 m n := by
  have key : ∀ (m k : Nat), bytesFrom k n m = digsFrom 8 n k m := by
    intro m
    induction m with
    | zero => intro k; rfl
    | succ m ih =>
      intro k
      unfold bytesFrom digsFrom dig
      rw [ih, pow256, show (2 : Int) ^ 8 = 256 by decide]
  exact key m 0

theorem emod_ediv_emod (N : Int) (r w : Nat) (h : r < w) : (N % 2 ^ w) / 2 ^ r % 2 = N / 2 ^ r % 2 := by
  have e : (2 : Int) ^ w = 2 ^ r * (2 * 2 ^ (w - r - 1)) := by
    rw [← Int.mul_assoc, ← Int.pow_succ, ← Int.pow_add]
    congr 1
    omega
  have h1 := Int.mul_ediv_add_emod N (2 ^ w)
  have h2 : N = N % 2 ^ w + 2 ^ r * (2 * 2 ^ (w - r - 1) * (N / 2 ^ w)) := by
    rw [← Int.mul_assoc, ← e]
    omega
  conv => rhs; rw [h2]
  rw [Int.add_mul_ediv_left _ _ (Int.ne_of_gt (pp r)), Int.mul_assoc, Int.add_mul_emod_self_left]

theorem dig_bit (w : Nat) (hw : 0 < w) (n : Int) (i : Nat) : dig w n (i / w) / 2 ^ (i % w) % 2 = n / 2 ^ i % 2 := by
  unfold dig
  rw [emod_ediv_emod _ _ _ (Nat.mod_lt i hw), Int.ediv_ediv_of_nonneg (Int.le_of_lt (pp _)), ← Int.pow_add]
  congr 3
  exact Nat.div_add_mod i w

theorem dig_range (w : Nat) (n : Int) (j : Nat) : 0 ≤ dig w n j ∧ dig w n j < 2 ^ w := ⟨Int.emod_nonneg _ (Int.ne_of_gt (pp w)), Int.emod_lt_of_pos _ (pp w)⟩

theorem pow_le {a b : Nat} (h : a ≤ b) : (2 : Int) ^ a ≤ 2 ^ b := two_pow_mono h

/-- One bit more. -/
theorem dig_add (w : Nat) (hw : 0 < w) (m b : Int) (i j : Nat) (h0 : 0 ≤ m) (h1 : m < 2 ^ i) (hb : b = 0 ∨ b = 1) :
    dig w (m + b * 2 ^ i) j = (if j = i / w then dig w m j + b * 2 ^ (i % w) else dig w m j) ∧ (j = i / w → dig w m j < 2 ^ (i % w)) := by
  have hi := Nat.div_add_mod i w
  have hr := Nat.mod_lt i hw
  generalize i / w = q at *
  generalize i % w = r at *
  subst hi
  rcases Nat.lt_trichotomy j q with h | h | h
  · refine ⟨?_, fun e => by omega⟩
    rw [if_neg (by omega)]
    unfold dig
    have e : (2 : Int) ^ (w * q + r) = 2 ^ (w * j) * (2 ^ w * 2 ^ (w * q + r - w * j - w)) := by
      rw [← Int.pow_add, ← Int.pow_add]
      congr 1
      have : w * (j + 1) ≤ w * q := Nat.mul_le_mul_left w h
      rw [Nat.mul_add] at this
      omega
    rw [e, ← Int.mul_assoc, Int.mul_comm b, Int.mul_assoc, Int.add_mul_ediv_left _ _ (Int.ne_of_gt (pp _)), Int.mul_comm b, Int.mul_assoc, Int.add_mul_emod_self_left]
  · subst h
    have hq : m / 2 ^ (w * j) < 2 ^ r := by
      apply Int.ediv_lt_of_lt_mul (pp _)
      rw [← Int.pow_add, Nat.add_comm]
      exact h1
    have hq0 : 0 ≤ m / 2 ^ (w * j) := Int.ediv_nonneg h0 (Int.le_of_lt (pp _))
    have hrw : (2 : Int) ^ r * 2 ≤ 2 ^ w := by rw [← Int.pow_succ]; exact pow_le hr
    have hp := pp r
    have e1 : dig w m j = m / 2 ^ (w * j) := Int.emod_eq_of_lt hq0 (by omega)
    refine ⟨?_, fun _ => by rw [e1]; exact hq⟩
    rw [if_pos rfl, e1]
    unfold dig
    rw [Int.pow_add, ← Int.mul_assoc, Int.mul_comm b, Int.mul_assoc, Int.add_mul_ediv_left _ _ (Int.ne_of_gt (pp _))]
    refine Int.emod_eq_of_lt ?_ ?_
    · rcases hb with rfl | rfl <;> omega
    · rcases hb with rfl | rfl <;> omega
  · refine ⟨?_, fun e => by omega⟩
    rw [if_neg (by omega)]
    have hle : (2 : Int) ^ (w * q + r) * 2 ≤ 2 ^ (w * j) := by
      rw [← Int.pow_succ]
      apply pow_le
      have : w * (q + 1) ≤ w * j := Nat.mul_le_mul_left w h
      rw [Nat.mul_add] at this
      omega
    have hp := pp (w * q + r)
    unfold dig
    rw [Int.ediv_eq_zero_of_lt (show 0 ≤ m + b * 2 ^ (w * q + r) by rcases hb with rfl | rfl <;> omega) (by rcases hb with rfl | rfl <;> omega), Int.ediv_eq_zero_of_lt h0 (by omega)]

/-- The lowest i + 1 bits out of the lowest i. -/
theorem emod_succ (n : Int) (i : Nat) : n % 2 ^ (i + 1) = n % 2 ^ i + (n / 2 ^ i % 2) * 2 ^ i := by
  rw [Int.pow_succ, emod_mul' n (2 ^ i) 2 (pp i) (by decide), Int.mul_comm]

theorem bit01 (n : Int) : n % 2 = 0 ∨ n % 2 = 1 := by omega

/-- A list of digits with one bit more. -/
theorem digsOf_set (w k : Nat) (hw : 0 < w) (n : Int) (i : Nat) :
    (digsOf w k (n % 2 ^ i)).set (i / w) (dig w (n % 2 ^ i) (i / w) + (n / 2 ^ i % 2) * 2 ^ (i % w)) = digsOf w k (n % 2 ^ (i + 1)) := by
  have h0 := Int.emod_nonneg n (Int.ne_of_gt (pp i))
  have h1 := Int.emod_lt_of_pos n (pp i)
  apply List.ext_getElem?
  intro j
  rw [emod_succ n i]
  have hd := dig_add w hw (n % 2 ^ i) (n / 2 ^ i % 2) i j h0 h1 (bit01 _)
  have hl : (digsOf w k (n % 2 ^ i)).length = k := digsFrom_length _ _ _ _
  rcases Nat.lt_or_ge j k with hj | hj
  · rw [digsOf_get w k _ j hj, hd.1]
    by_cases e : j = i / w
    · subst e
      rw [if_pos rfl, List.getElem?_set_self (by rw [hl]; exact hj)]
    · rw [if_neg e, List.getElem?_set_ne (Ne.symm e), digsOf_get w k _ j hj]
  · have hl2 : (digsOf w k (n % 2 ^ i + n / 2 ^ i % 2 * 2 ^ i)).length = k := digsFrom_length _ _ _ _
    rw [List.getElem?_eq_none (by simp [hl]; exact hj), List.getElem?_eq_none (by omega)]

/-- The number of digits of w bits, the lowest first. -/
def dnum (w : Nat) : List Int → Int
  | [] => 0
  | x :: l => x + 2 ^ w * dnum w l

theorem dnum_digsFrom (w : Nat) (n : Int) : ∀ (m j : Nat), dnum w (digsFrom w n j m) = n / 2 ^ (w * j) % 2 ^ (w * m)
  | 0, j => by
    show (0 : Int) = _
    rw [Nat.mul_zero, Int.pow_zero, Int.emod_one]
  | m + 1, j => by
    unfold digsFrom dnum dig
    rw [dnum_digsFrom w n m (j + 1), Nat.mul_add w j 1, Nat.mul_one, Int.pow_add, ← Int.ediv_ediv_of_nonneg (Int.le_of_lt (pp _)), Nat.mul_add w m 1, Nat.mul_one, Nat.add_comm (w * m), Int.pow_add, emod_mul' _ _ _ (pp _) (pp _)]

theorem dnum_digsOf (w k : Nat) (n : Int) : dnum w (digsOf w k n) = n % 2 ^ (w * k) := by
  unfold digsOf
  rw [dnum_digsFrom, Nat.mul_zero, Int.pow_zero, Int.ediv_one]

theorem digsFrom_dnum (w : Nat) : ∀ (l : List Int) (j : Nat) (n : Int), (∀ x ∈ l, 0 ≤ x ∧ x < 2 ^ w) → n / 2 ^ (w * j) = dnum w l → digsFrom w n j l.length = l
  | [], j, n, _, _ => rfl
  | x :: l, j, n, h, e => by
    obtain ⟨h0, h1⟩ := h x (by simp)
    simp only [List.length_cons, digsFrom, dnum] at e ⊢
    have hp := pp w
    have e1 : dig w n j = x := by
      unfold dig
      rw [e, Int.add_mul_emod_self_left, Int.emod_eq_of_lt h0 h1]
    have e2 : n / 2 ^ (w * (j + 1)) = dnum w l := by
      rw [Nat.mul_add w j 1, Nat.mul_one, Int.pow_add, ← Int.ediv_ediv_of_nonneg (Int.le_of_lt (pp _)), e, Int.add_mul_ediv_left _ _ (Int.ne_of_gt hp), Int.ediv_eq_zero_of_lt h0 h1, Int.zero_add]
    rw [e1, digsFrom_dnum w l (j + 1) n (fun y hy => h y (by simp [hy])) e2]

theorem digsOf_dnum (w : Nat) (l : List Int) (h : ∀ x ∈ l, 0 ≤ x ∧ x < 2 ^ w) : digsOf w l.length (dnum w l) = l :=
  digsFrom_dnum w l 0 _ h (by rw [Nat.mul_zero, Int.pow_zero, Int.ediv_one])

theorem dnum_range (w : Nat) : ∀ (l : List Int), (∀ x ∈ l, 0 ≤ x ∧ x < 2 ^ w) → 0 ≤ dnum w l ∧ dnum w l < 2 ^ (w * l.length)
  | [], _ => by simp [dnum]
  | x :: l, h => by
    obtain ⟨h0, h1⟩ := h x (by simp)
    obtain ⟨g0, g1⟩ := dnum_range w l (fun y hy => h y (by simp [hy]))
    have hp := pp w
    simp only [dnum, List.length_cons]
    rw [Nat.mul_add, Nat.mul_one, Int.pow_add]
    have m0 := Int.mul_nonneg (Int.le_of_lt hp) g0
    have m1 : 2 ^ w * (dnum w l + 1) ≤ 2 ^ w * 2 ^ (w * l.length) := Int.mul_le_mul_of_nonneg_left (by omega) (Int.le_of_lt hp)
    rw [Int.mul_add, Int.mul_one] at m1
    rw [Int.mul_comm (2 ^ (w * l.length))]
    omega

end Go.Proofs.YtbdmahidobjaoaaDoor.Sx
