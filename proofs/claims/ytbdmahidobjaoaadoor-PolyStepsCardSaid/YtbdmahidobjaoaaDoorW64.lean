/-
  The model's operations on uint64 words as arithmetic: sums with carry, differences with borrow, masks, shifts. No program in sight.
-/
import Derived.Test.YtbdmahidobjaoaaDoorNum
namespace Go.Proofs.YtbdmahidobjaoaaDoor.Sx
open Go

theorem u64w (n : Int) (h0 : 0 ≤ n) (h1 : n < 18446744073709551616) : IntKind.u64.wrap n = n := IntWalk.u64_in n (by omega)
theorem u8w (n : Int) : IntKind.u8.wrap n = n % 256 := IntKind.wrap_u8 n
theorem i64w (n : Int) (h0 : -9223372036854775808 ≤ n) (h1 : n < 9223372036854775808) : IntKind.i64.wrap n = n := IntWalk.i64_in n (by omega)

theorem bits_or_comm (k : IntKind) (x y : Int) : bits .or k x y = bits .or k y x := by simp only [bits, BitVec.or_comm]

theorem or_low_high (i : Nat) (x y : Int) (hx : 0 ≤ x) (hx1 : x < 2 ^ i) (hx2 : x < 18446744073709551616) (hy : 0 ≤ y) (hy1 : y < 18446744073709551616) (hd : y % 2 ^ i = 0) : bits .or .u64 x y = x + y := by
  rw [bits_or_comm, bits_join .u64 64 (by decide) (fun n a b => u64w n a (by simpa using b)) i y x hy hd (by simpa using hy1) hx hx1 (by simpa using hx2)]
  omega

theorem and_mask (m : Nat) (hm : m ≤ 64) (x : Int) (h0 : 0 ≤ x) (h1 : x < 18446744073709551616) : bits .and .u64 x (2 ^ m - 1) = x % 2 ^ m :=
  bits_mask .u64 64 (by decide) (fun n a b => u64w n a (by simpa using b)) m hm x h0 (by simpa using h1)

/-- Bytes laid one above the other. -/
def orW : Nat → Int → List Int → Int
  | _, acc, [] => acc
  | j, acc, a :: r => orW (j + 1) (bits .or .u64 acc (IntKind.u64.wrap (IntKind.u64.wrap a * 2 ^ (8 * j)))) r

theorem two_pow_mono {a b : Nat} (h : a ≤ b) : (2 : Int) ^ a ≤ 2 ^ b := by
  obtain ⟨c, rfl⟩ := Nat.exists_eq_add_of_le h
  rw [Int.pow_add]
  have h1 : (0 : Int) < 2 ^ a := Int.pow_pos (by decide)
  have h2 : (0 : Int) < 2 ^ c := Int.pow_pos (by decide)
  have : (2 : Int) ^ a * 1 ≤ 2 ^ a * 2 ^ c := Int.mul_le_mul_of_nonneg_left (by omega) (by omega)
  omega

theorem orW_num : ∀ (l : List Int) (j : Nat) (acc : Int), j + l.length ≤ 8 → (∀ x ∈ l, 0 ≤ x ∧ x < 256) → 0 ≤ acc → acc < 2 ^ (8 * j) → orW j acc l = acc + 2 ^ (8 * j) * num l
  | [], j, acc, _, _, _, _ => by simp [orW, num]
  | a :: r, j, acc, hl, hb, h0, h1 => by
    obtain ⟨a0, a1⟩ := hb a (by simp)
    simp only [List.length_cons] at hl
    have hp : (0 : Int) < 2 ^ (8 * j) := Int.pow_pos (by decide)
    have hj : (2 : Int) ^ (8 * (j + 1)) ≤ 2 ^ 64 := two_pow_mono (by omega)
    have he : (2 : Int) ^ (8 * (j + 1)) = 2 ^ (8 * j) * 256 := by rw [Nat.mul_add, Int.pow_add]; rfl
    have hlo : 0 ≤ a * 2 ^ (8 * j) := Int.mul_nonneg a0 (Int.le_of_lt hp)
    have hhi : a * 2 ^ (8 * j) ≤ 255 * 2 ^ (8 * j) := Int.mul_le_mul_of_nonneg_right (by omega) (Int.le_of_lt hp)
    have h64 : (2 : Int) ^ 64 = 18446744073709551616 := by decide
    unfold orW
    rw [u64w a a0 (by omega), u64w _ hlo (by omega), or_low_high (8 * j) acc _ h0 h1 (by omega) hlo (by omega) (Int.mul_emod_left _ _),
      orW_num r (j + 1) _ (by omega) (fun x hx => hb x (by simp [hx])) (by omega) (by omega)]
    simp only [num]
    rw [he, Int.mul_add, Int.mul_assoc, Int.mul_comm a]
    omega

/-- The bytes of a word, as they are shifted out of it. -/
def stFrom (w : Int) : Nat → Nat → List Int
  | _, 0 => []
  | k, m + 1 => IntKind.u8.wrap (w.fdiv (2 ^ (8 * k))) :: stFrom w (k + 1) m

theorem pow256 (k : Nat) : (2 : Int) ^ (8 * k) = 256 ^ k := by rw [Int.pow_mul]; rfl

theorem stFrom_bytes (w : Int) : ∀ (m k : Nat), stFrom w k m = bytesFrom k w m
  | 0, _ => rfl
  | m + 1, k => by
    unfold stFrom bytesFrom
    rw [u8w, pow256, Int.fdiv_eq_ediv_of_nonneg _ (Int.pow_nonneg (by decide)), stFrom_bytes w m (k + 1)]

theorem bytesFrom_div (n : Int) (j : Nat) : ∀ (m k : Nat), bytesFrom (j + k) n m = bytesFrom k (n / 256 ^ j) m
  | 0, _ => rfl
  | m + 1, k => by
    unfold bytesFrom
    rw [Int.pow_add, ← Int.ediv_ediv_of_nonneg (Int.pow_nonneg (by decide)), Nat.add_assoc, bytesFrom_div n j m (k + 1)]

theorem bytesFrom_append (n : Int) : ∀ (a b k : Nat), bytesFrom k n (a + b) = bytesFrom k n a ++ bytesFrom (k + a) n b
  | 0, b, k => by simp [bytesFrom]
  | a + 1, b, k => by
    rw [Nat.succ_add]
    simp only [bytesFrom, List.cons_append]
    rw [bytesFrom_append n a b (k + 1), show k + 1 + a = k + (a + 1) by omega]

theorem bytesFrom_mod (n : Int) (M : Nat) : ∀ (m k : Nat), k + m ≤ M → bytesFrom k (n % 256 ^ M) m = bytesFrom k n m
  | 0, _, _ => rfl
  | m + 1, k, h => by
    unfold bytesFrom
    rw [bytesFrom_mod n M m (k + 1) (by omega)]
    congr 1
    have hM : (256 : Int) ^ M = 256 ^ k * 256 ^ (M - k) := by rw [← Int.pow_add]; congr 1; omega
    rw [hM, emod_mul' n _ _ (Int.pow_pos (by decide)) (Int.pow_pos (by decide))]
    have r1 := Int.emod_nonneg n (Int.ne_of_gt (Int.pow_pos (by decide) : (0 : Int) < 256 ^ k))
    have r2 := Int.emod_lt_of_pos n (Int.pow_pos (by decide) : (0 : Int) < 256 ^ k)
    rw [Int.add_mul_ediv_left _ _ (Int.ne_of_gt (Int.pow_pos (by decide))), Int.ediv_eq_zero_of_lt r1 r2, Int.zero_add]
    have : (256 : Int) ^ (M - k) = 256 * 256 ^ (M - k - 1) := by rw [Int.mul_comm, ← Int.pow_succ]; congr 1; omega
    rw [this]
    exact Int.emod_emod_of_dvd _ (Int.dvd_mul_right _ _)

/-- The bytes of a number above its first word are those of the rest. -/
theorem bytesOf_word (w r : Int) (m : Nat) (h0 : 0 ≤ w) (h1 : w < 18446744073709551616) : bytesOf (8 + m) (w + 18446744073709551616 * r) = bytesOf 8 w ++ bytesOf m r := by
  have h256 : (256 : Int) ^ 8 = 18446744073709551616 := by decide
  unfold bytesOf
  rw [bytesFrom_append]
  congr 1
  · rw [← bytesFrom_mod _ 8 8 0 (by omega), h256, Int.add_mul_emod_self_left, Int.emod_eq_of_lt h0 h1]
  · rw [Nat.zero_add, show (8 : Nat) = 8 + 0 by rfl, bytesFrom_div, h256]
    congr 1
    omega

/-! ### Sums and differences -/

def addc (x y : Int) (c : Bool) : Int := (x + y + bi c) % b64
def carry (x y : Int) (c : Bool) : Bool := decide (b64 ≤ x + y + bi c)
def subc (x y : Int) (c : Bool) : Int := (x + b64 - y - bi c) % b64
def borrow (x y : Int) (c : Bool) : Bool := decide (x < y + bi c)

theorem addc_split (x y : Int) (c : Bool) (hx : 0 ≤ x) (hx1 : x < 18446744073709551616) (hy : 0 ≤ y) (hy1 : y < 18446744073709551616) :
    x + y + bi c = addc x y c + 18446744073709551616 * bi (carry x y c) ∧ 0 ≤ addc x y c ∧ addc x y c < 18446744073709551616 := by
  have h3 := bi_range c
  unfold addc carry b64
  by_cases h : 18446744073709551616 ≤ x + y + bi c
  · rw [decide_eq_true h, show bi true = 1 from rfl]; omega
  · rw [decide_eq_false h, show bi false = 0 from rfl]; omega

theorem subc_split (x y : Int) (c : Bool) (hx : 0 ≤ x) (hx1 : x < 18446744073709551616) (hy : 0 ≤ y) (hy1 : y < 18446744073709551616) :
    x - y - bi c = subc x y c - 18446744073709551616 * bi (borrow x y c) ∧ 0 ≤ subc x y c ∧ subc x y c < 18446744073709551616 := by
  have h3 := bi_range c
  unfold subc borrow b64
  by_cases h : x < y + bi c
  · rw [decide_eq_true h, show bi true = 1 from rfl]; omega
  · rw [decide_eq_false h, show bi false = 0 from rfl]; omega

/-- 't & (c - 1) | w & -c'. -/
def pickW (c : Bool) (t w : Int) : Int := bits .or .u64 (bits .and .u64 t (IntKind.u64.wrap (bi c - 1))) (bits .and .u64 w (IntKind.u64.wrap (0 - bi c)))

theorem and_zero (x : Int) : bits .and .u64 x 0 = 0 := by
  show IntKind.u64.wrap ((BitVec.ofInt 64 x &&& 0#64).toNat : Nat) = 0
  rw [BitVec.and_zero]
  decide

theorem and_ones (x : Int) (h0 : 0 ≤ x) (h1 : x < 18446744073709551616) : bits .and .u64 x 18446744073709551615 = x := by
  have := and_mask 64 (Nat.le_refl _) x h0 h1
  rw [show (2 : Int) ^ 64 - 1 = 18446744073709551615 by decide, show (2 : Int) ^ 64 = 18446744073709551616 by decide] at this
  rw [this]
  exact Int.emod_eq_of_lt h0 h1

theorem pickW_eq (c : Bool) (t w : Int) (ht : 0 ≤ t) (ht1 : t < 18446744073709551616) (hw : 0 ≤ w) (hw1 : w < 18446744073709551616) : pickW c t w = if c then w else t := by
  unfold pickW
  cases c with
  | true =>
    rw [show IntKind.u64.wrap (bi true - 1) = 0 by decide, show IntKind.u64.wrap (0 - bi true) = 18446744073709551615 by decide, and_zero, and_ones w hw hw1,
      or_low_high 0 0 w (by decide) (by decide) (by decide) hw hw1 (by simp [Int.emod_one])]
    simp
  | false =>
    rw [show IntKind.u64.wrap (bi false - 1) = 18446744073709551615 by decide, show IntKind.u64.wrap (0 - bi false) = 0 by decide, and_zero, and_ones t ht ht1, bits_or_comm,
      or_low_high 0 0 t (by decide) (by decide) (by decide) ht ht1 (by simp [Int.emod_one])]
    simp

/-- One step of a long product: x * y + t + above, its lower word and its upper one. -/
def macLo (x y t ab : Int) : Int := addc (addc (x * y % b64) t false) ab false
def macHi (x y t ab : Int) : Int := IntKind.u64.wrap (IntKind.u64.wrap (x * y / b64 + bi (carry (x * y % b64) t false)) + bi (carry (addc (x * y % b64) t false) ab false))

theorem mac_split (x y t ab : Int) (hx : 0 ≤ x) (hx1 : x < 18446744073709551616) (hy : 0 ≤ y) (hy1 : y < 18446744073709551616) (ht : 0 ≤ t) (ht1 : t < 18446744073709551616) (ha : 0 ≤ ab) (ha1 : ab < 18446744073709551616) :
    x * y + t + ab = macLo x y t ab + 18446744073709551616 * macHi x y t ab ∧ (0 ≤ macLo x y t ab ∧ macLo x y t ab < 18446744073709551616) ∧ 0 ≤ macHi x y t ab ∧ macHi x y t ab < 18446744073709551616 := by
  have hp : 0 ≤ x * y := Int.mul_nonneg hx hy
  have hp1 : x * y ≤ 18446744073709551615 * 18446744073709551615 := Int.mul_le_mul (by omega) (by omega) hy (by decide)
  unfold macLo macHi
  generalize x * y = p at *
  have e1 := addc_split (p % b64) t false (by unfold b64; omega) (by unfold b64; omega) ht ht1
  have e2 := addc_split (addc (p % b64) t false) ab false e1.2.1 e1.2.2 ha ha1
  have c1 := bi_range (carry (p % b64) t false)
  have c2 := bi_range (carry (addc (p % b64) t false) ab false)
  rw [show bi false = 0 from rfl] at e1 e2
  generalize addc (addc (p % b64) t false) ab false = lo at *
  generalize bi (carry (addc (p % b64) t false) ab false) = k2 at *
  generalize addc (p % b64) t false = lo1 at *
  generalize bi (carry (p % b64) t false) = k1 at *
  unfold b64 at *
  have hd : p / 18446744073709551616 + k1 + k2 < 18446744073709551616 := by omega
  rw [u64w (p / 18446744073709551616 + k1) (by omega) (by omega), u64w _ (by omega) (by omega)]
  omega

end Go.Proofs.YtbdmahidobjaoaaDoor.Sx
