/-
  Plain arithmetic: numbers out of bytes and out of words of 64 bits; the model's operations on uint64 as arithmetic. No program in sight.
-/
import Derived.Test.YtbdmahidobjaoaaDoorSxFn
namespace Go.Proofs.YtbdmahidobjaoaaDoor.Sx
open Go

/-- The number of bytes (the lowest first). -/
def num : List Int → Int
  | [] => 0
  | x :: r => x + 256 * num r

/-- The number of words of 64 bits. -/
def wnum : List Int → Int
  | [] => 0
  | x :: r => x + 18446744073709551616 * wnum r

def bytesFrom (k : Nat) (n : Int) : Nat → List Int
  | 0 => []
  | m + 1 => (n / 256 ^ k % 256) :: bytesFrom (k + 1) n m

/-- The lowest bytes of a number. -/
def bytesOf (m : Nat) (n : Int) : List Int := bytesFrom 0 n m

def wordsFrom (k : Nat) (n : Int) : Nat → List Int
  | 0 => []
  | m + 1 => (n / 18446744073709551616 ^ k % 18446744073709551616) :: wordsFrom (k + 1) n m

def wordsOf (m : Nat) (n : Int) : List Int := wordsFrom 0 n m

theorem bytesFrom_length (n : Int) : ∀ (m k : Nat), (bytesFrom k n m).length = m
  | 0, _ => rfl
  | m + 1, k => by simp [bytesFrom, bytesFrom_length n m (k + 1)]

theorem bytesOf_length (m : Nat) (n : Int) : (bytesOf m n).length = m := bytesFrom_length n m 0

theorem emod_mul' (q a b : Int) (ha : 0 < a) (hb : 0 < b) : q % (a * b) = q % a + a * (q / a % b) := by
  have h1 := Int.mul_ediv_add_emod q a
  have h2 := Int.mul_ediv_add_emod (q / a) b
  have r1 := Int.emod_nonneg q (Int.ne_of_gt ha)
  have r2 := Int.emod_lt_of_pos q ha
  have r3 := Int.emod_nonneg (q / a) (Int.ne_of_gt hb)
  have r4 := Int.emod_lt_of_pos (q / a) hb
  have e : q = (q % a + a * (q / a % b)) + (a * b) * (q / a / b) := by
    have : a * (q / a) = a * (b * (q / a / b)) + a * (q / a % b) := by rw [← Int.mul_add, h2]
    rw [Int.mul_assoc]
    omega
  have hlo : 0 ≤ q % a + a * (q / a % b) := Int.add_nonneg r1 (Int.mul_nonneg (Int.le_of_lt ha) r3)
  have hhi : q % a + a * (q / a % b) < a * b := by
    have : a * (q / a % b) ≤ a * (b - 1) := Int.mul_le_mul_of_nonneg_left (by omega) (Int.le_of_lt ha)
    rw [Int.mul_sub, Int.mul_one] at this
    omega
  conv => lhs; rw [e]
  rw [Int.add_mul_emod_self_left]
  exact Int.emod_eq_of_lt hlo hhi

theorem num_bytesFrom (n : Int) : ∀ (m k : Nat), num (bytesFrom k n m) = n / 256 ^ k % 256 ^ m
  | 0, k => by simp [bytesFrom, num, Int.emod_one]
  | m + 1, k => by
    simp only [bytesFrom, num]
    rw [num_bytesFrom n m (k + 1)]
    have h1 : n / 256 ^ (k + 1) = n / 256 ^ k / 256 := by rw [Int.pow_succ, Int.ediv_ediv_of_nonneg (Int.pow_nonneg (by decide))]
    rw [h1, Int.pow_succ, Int.mul_comm (256 ^ m) 256, emod_mul' _ 256 (256 ^ m) (by decide) (Int.pow_pos (by decide))]

theorem num_bytesOf (m : Nat) (n : Int) : num (bytesOf m n) = n % 256 ^ m := by
  unfold bytesOf
  rw [num_bytesFrom]
  simp

theorem wnum_wordsFrom (n : Int) : ∀ (m k : Nat), wnum (wordsFrom k n m) = n / 18446744073709551616 ^ k % 18446744073709551616 ^ m
  | 0, k => by simp [wordsFrom, wnum, Int.emod_one]
  | m + 1, k => by
    simp only [wordsFrom, wnum]
    rw [wnum_wordsFrom n m (k + 1)]
    have h1 : n / 18446744073709551616 ^ (k + 1) = n / 18446744073709551616 ^ k / 18446744073709551616 := by rw [Int.pow_succ, Int.ediv_ediv_of_nonneg (Int.pow_nonneg (by decide))]
    rw [h1, Int.pow_succ, Int.mul_comm (18446744073709551616 ^ m) 18446744073709551616, emod_mul' _ 18446744073709551616 (18446744073709551616 ^ m) (by decide) (Int.pow_pos (by decide))]

theorem wnum_wordsOf (m : Nat) (n : Int) : wnum (wordsOf m n) = n % 18446744073709551616 ^ m := by
  unfold wordsOf
  rw [wnum_wordsFrom]
  simp

theorem wf_u8 {n : Int} : wf .u8 n ↔ 0 ≤ n ∧ n < 256 := by
  unfold wf
  rw [IntKind.wrap_u8]
  omega

/-- Bytes are those of their number. -/
theorem bytesFrom_num : ∀ (l : List Int) (k : Nat) (n : Int), (∀ x ∈ l, 0 ≤ x ∧ x < 256) → n / 256 ^ k % 256 ^ l.length = num l → bytesFrom k n l.length = l
  | [], _, _, _, _ => rfl
  | x :: l, k, n, h, hn => by
    obtain ⟨x0, x1⟩ := h x (by simp)
    simp only [List.length_cons, bytesFrom, num] at hn ⊢
    rw [Int.pow_succ, Int.mul_comm (256 ^ l.length) 256, emod_mul' _ 256 (256 ^ l.length) (by decide) (Int.pow_pos (by decide))] at hn
    have h1 : n / 256 ^ (k + 1) = n / 256 ^ k / 256 := by rw [Int.pow_succ, Int.ediv_ediv_of_nonneg (Int.pow_nonneg (by decide))]
    have e1 : n / 256 ^ k % 256 = x := by omega
    rw [e1, bytesFrom_num l (k + 1) n (fun y hy => h y (by simp [hy])) (by rw [h1]; omega)]

theorem num_range : ∀ (l : List Int), (∀ x ∈ l, 0 ≤ x ∧ x < 256) → 0 ≤ num l ∧ num l < 256 ^ l.length
  | [], _ => by simp [num]
  | x :: l, h => by
    obtain ⟨x0, x1⟩ := h x (by simp)
    obtain ⟨h1, h2⟩ := num_range l (fun y hy => h y (by simp [hy]))
    simp only [num, List.length_cons]
    rw [Int.pow_succ]
    omega

theorem bytesOf_num (l : List Int) (h : ∀ x ∈ l, 0 ≤ x ∧ x < 256) : bytesOf l.length (num l) = l := by
  obtain ⟨h1, h2⟩ := num_range l h
  exact bytesFrom_num l 0 _ h (by rw [Int.pow_zero, Int.ediv_one]; exact Int.emod_eq_of_lt h1 h2)

theorem bytesFrom_range (n : Int) : ∀ (m k : Nat), ∀ x ∈ bytesFrom k n m, 0 ≤ x ∧ x < 256
  | 0, _, x, h => by cases h
  | m + 1, k, x, h => by
    simp only [bytesFrom, List.mem_cons] at h
    rcases h with rfl | h
    · omega
    · exact bytesFrom_range n m (k + 1) x h

theorem bytesOf_range (m : Nat) (n : Int) : ∀ x ∈ bytesOf m n, 0 ≤ x ∧ x < 256 := bytesFrom_range n m 0

theorem wordsFrom_wnum : ∀ (l : List Int) (k : Nat) (n : Int), (∀ x ∈ l, 0 ≤ x ∧ x < 18446744073709551616) → n / 18446744073709551616 ^ k % 18446744073709551616 ^ l.length = wnum l → wordsFrom k n l.length = l
  | [], _, _, _, _ => rfl
  | x :: l, k, n, h, hn => by
    obtain ⟨x0, x1⟩ := h x (by simp)
    simp only [List.length_cons, wordsFrom, wnum] at hn ⊢
    rw [Int.pow_succ, Int.mul_comm (18446744073709551616 ^ l.length) 18446744073709551616, emod_mul' _ 18446744073709551616 (18446744073709551616 ^ l.length) (by decide) (Int.pow_pos (by decide))] at hn
    have h1 : n / 18446744073709551616 ^ (k + 1) = n / 18446744073709551616 ^ k / 18446744073709551616 := by rw [Int.pow_succ, Int.ediv_ediv_of_nonneg (Int.pow_nonneg (by decide))]
    have e1 : n / 18446744073709551616 ^ k % 18446744073709551616 = x := by omega
    rw [e1, wordsFrom_wnum l (k + 1) n (fun y hy => h y (by simp [hy])) (by rw [h1]; omega)]

theorem wnum_range : ∀ (l : List Int), (∀ x ∈ l, 0 ≤ x ∧ x < 18446744073709551616) → 0 ≤ wnum l ∧ wnum l < 18446744073709551616 ^ l.length
  | [], _ => by simp [wnum]
  | x :: l, h => by
    obtain ⟨x0, x1⟩ := h x (by simp)
    obtain ⟨h1, h2⟩ := wnum_range l (fun y hy => h y (by simp [hy]))
    simp only [wnum, List.length_cons]
    rw [Int.pow_succ]
    omega

theorem wordsOf_wnum (l : List Int) (h : ∀ x ∈ l, 0 ≤ x ∧ x < 18446744073709551616) : wordsOf l.length (wnum l) = l := by
  obtain ⟨h1, h2⟩ := wnum_range l h
  exact wordsFrom_wnum l 0 _ h (by rw [Int.pow_zero, Int.ediv_one]; exact Int.emod_eq_of_lt h1 h2)

end Go.Proofs.YtbdmahidobjaoaaDoor.Sx
