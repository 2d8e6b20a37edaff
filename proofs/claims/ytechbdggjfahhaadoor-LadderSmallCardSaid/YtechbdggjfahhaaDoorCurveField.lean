/-
  Numbers modulo 2^255 - 19 are a field: Invert gives what Fermat says. No program in sight.
-/
import Derived.Test.YtechbdggjfahhaaDoorCurveInv
import Derived.Test.YtechbdggjfahhaaDoorPrimes25
namespace Go.Proofs.YtechbdggjfahhaaDoor.Sx
open Go
set_option maxRecDepth 100000

def P25 : Nat := 57896044618658097711785492504343953926634992332820282019728792003956564819949

theorem p25_cast : p25 = (P25 : Int) := rfl

theorem num_q (n : Int) : num (bytesOf 32 (n % p25)) = n % p25 := by
  rw [num_bytesOf, show (256 : Int) ^ 32 = 115792089237316195423570985008687907853269984665640564039457584007913129639936 by decide]
  exact Int.emod_eq_of_lt (mod25 n).1 (mod25 n).2

theorem num_cC (l : List Int) : num (cC l) = num l % p25 := num_q _
theorem num_cA (l m : List Int) : num (cA l m) = (num l + num m) % p25 := num_q _
theorem num_cS (l m : List Int) : num (cS l m) = (num l - num m) % p25 := num_q _
theorem num_cM (l m : List Int) : num (cM l m) = (num l * num m) % p25 := num_q _
theorem num_cI (l : List Int) : num (cI l) = invGo (num l) 255 := by
  unfold cI
  rw [← invGo_mod]
  exact num_q _

/-- The power that n steps make. -/
def eI : Nat → Nat
  | 0 => 0
  | n + 1 => if n = 250 ∨ n = 252 then 2 * eI n else 2 * eI n + 1

theorem eI_255 : eI 255 + 1 = P25 - 1 := by decide +kernel

theorem emod_pow (x q : Int) : ∀ k : Nat, (x % q) ^ k % q = x ^ k % q
  | 0 => by rw [Int.pow_zero, Int.pow_zero]
  | k + 1 => by rw [Int.pow_succ, Int.pow_succ, Int.mul_emod, emod_pow x q k, Int.emod_emod, ← Int.mul_emod]

theorem invGo_pow (x : Int) : ∀ n, invGo x n = x ^ eI n % p25
  | 0 => (show (1 : Int) = x ^ 0 % p25 by rw [Int.pow_zero]; decide)
  | n + 1 => by
    have ih := invGo_pow x n
    show (if n = 250 ∨ n = 252 then _ else _) = x ^ (if n = 250 ∨ n = 252 then _ else _) % p25
    have sq : invGo x n * invGo x n % p25 = x ^ (2 * eI n) % p25 := by
      rw [ih, ← Int.mul_emod, ← Int.pow_add]
      congr 2
      omega
    split
    · exact sq
    · rw [sq, emm, ← Int.pow_succ]

theorem fermat25 (x : Int) (h : x % p25 ≠ 0) : x ^ (P25 - 1) % p25 = 1 := by
  have hf := full_57896044618658097711785492504343953926634992332820282019728792003956564819949.2
  have h0 := Int.emod_nonneg x (show p25 ≠ 0 by decide)
  have h1 := Int.emod_lt_of_pos x (show (0 : Int) < p25 by decide)
  obtain ⟨X, hX⟩ := Int.eq_ofNat_of_zero_le h0
  have hp : p25 = (57896044618658097711785492504343953926634992332820282019728792003956564819949 : Nat) := rfl
  rw [hX, hp] at h1
  rw [hX] at h
  have := hf X (by omega) (by omega)
  rw [← emod_pow, hX]
  have hP : P25 = 57896044618658097711785492504343953926634992332820282019728792003956564819949 := rfl
  rw [hP, hp, ← Int.natCast_pow, ← Int.natCast_emod, this]
  rfl

/-- What Invert gives. -/
def inv (x : Int) : Int := invGo x 255

theorem inv_mul (x : Int) (h : x % p25 ≠ 0) : inv x * x % p25 = 1 := by
  unfold inv
  rw [invGo_pow, emm, ← Int.pow_succ, Nat.succ_eq_add_one, eI_255]
  exact fermat25 x h

theorem inv_zero (x : Int) (h : x % p25 = 0) : inv x = 0 := by
  unfold inv
  rw [invGo_pow, ← emod_pow, h]
  have e : eI 255 = eI 255 - 1 + 1 := by
    have := eI_255
    have : 2 ≤ P25 - 1 := by decide
    omega
  rw [e, Int.pow_succ, Int.mul_zero, Int.zero_emod]

theorem inv_mod (x : Int) : inv x % p25 = inv x := invGo_mod x 255

theorem inv_congr (x : Int) : inv (x % p25) = inv x := by
  unfold inv
  rw [invGo_pow, invGo_pow, emod_pow]

theorem inv_ne (x : Int) (h : x % p25 ≠ 0) : inv x % p25 ≠ 0 := fun e => by
  have := inv_mul x h
  rw [← emm, e, Int.zero_mul] at this
  exact absurd this (by decide)

theorem no_zero_div (a b : Int) (h : a * b % p25 = 0) : a % p25 = 0 ∨ b % p25 = 0 := by
  by_cases ha : a % p25 = 0
  · exact Or.inl ha
  · right
    have h1 := inv_mul a ha
    have h2 : inv a * (a * b) % p25 = 0 := by rw [← mem, h, Int.mul_zero, Int.zero_emod]
    rw [← Int.mul_assoc, ← emm, h1, Int.one_mul] at h2
    exact h2

theorem inv_uniq (a y : Int) (h : y * a % p25 = 1) : y % p25 = inv a := by
  have ha : a % p25 ≠ 0 := fun e => by
    rw [← mem, e, Int.mul_zero] at h
    exact absurd h (by decide)
  have h1 := inv_mul a ha
  have e1 : y * (inv a * a) % p25 = y % p25 := by rw [← mem, h1, Int.mul_one]
  have e2 : y * (inv a * a) = y * a * inv a := by grind
  rw [e2, ← emm, h, Int.one_mul, inv_mod] at e1
  exact e1.symm

theorem inv_inv (a : Int) : inv (inv a) = a % p25 := by
  by_cases ha : a % p25 = 0
  · rw [inv_zero a ha, ha]
    exact inv_zero 0 (by decide)
  · symm
    exact inv_uniq _ _ (by rw [Int.mul_comm]; exact inv_mul a ha)

theorem inv_prod (a b : Int) : inv (a * b) = inv a * inv b % p25 := by
  by_cases ha : a % p25 = 0
  · rw [inv_zero a ha, Int.zero_mul, Int.zero_emod]
    exact inv_zero _ (by rw [← emm, ha, Int.zero_mul, Int.zero_emod])
  · by_cases hb : b % p25 = 0
    · rw [inv_zero b hb, Int.mul_zero, Int.zero_emod]
      exact inv_zero _ (by rw [← mem, hb, Int.mul_zero, Int.zero_emod])
    · symm
      refine inv_uniq _ _ ?_
      have e : inv a * inv b * (a * b) = (inv a * a) * (inv b * b) := by grind
      rw [e, ← emm, inv_mul a ha, Int.one_mul, inv_mul b hb]

end Go.Proofs.YtechbdggjfahhaaDoor.Sx
