/-
  The contracts of curve, ladder, clamp and poly.
-/
import Derived.Test.YtiojkpgcmhlhnaaGreatDoorTkD
namespace Go.Proofs.YtiojkpgcmhlhnaaGreatDoor.Ty
open Go
set_option maxRecDepth 100000
set_option linter.unusedSimpArgs false
set_option linter.unusedVariables false
section
def b64 : Int := 18446744073709551616
theorem bi_range (b : Bool) : 0 ≤ bi b ∧ bi b ≤ 1 := by cases b <;> decide
theorem wf_u64 {n : Int} : wf .u64 n ↔ 0 ≤ n ∧ n < 18446744073709551616 := by
 unfold wf
 have : IntKind.u64.wrap n = n % 18446744073709551616 := by simp [IntKind.wrap, IntKind.bits, IntKind.signed]
 omega
def num : List Int → Int
 | [] => 0
 | x :: r => x + 256 * num r
def wnum : List Int → Int
 | [] => 0
 | x :: r => x + 18446744073709551616 * wnum r
def bytesFrom (k : Nat) (n : Int) : Nat → List Int
 | 0 => []
 | m + 1 => (n / 256 ^ k % 256) :: bytesFrom (k + 1) n m
def bytesOf (m : Nat) (n : Int) : List Int := bytesFrom 0 n m
def wordsFrom (k : Nat) (n : Int) : Nat → List Int
 | 0 => []
 | m + 1 => (n / 18446744073709551616 ^ k % 18446744073709551616) :: wordsFrom (k + 1) n m
def wordsOf (m : Nat) (n : Int) : List Int := wordsFrom 0 n m
theorem bytesFrom_length (n : Int) : ∀ (m k : Nat), (bytesFrom k n m).length = m
 | 0, _ => rfl
 | m + 1, k => by simp [bytesFrom, bytesFrom_length n m (k + 1)]
theorem bytesOf_length (m : Nat) (n : Int) : (bytesOf m n).length = m := bytesFrom_length n m 0
theorem emod_mul' (q a b : Int) (ha : 0 < a) (hb : 0 < b) : q % (a * b) = q % a + a * (q / a % b) := by
 have h1 := Int.mul_ediv_add_emod q a
 have h2 := Int.mul_ediv_add_emod (q / a) b
 have r1 := Int.emod_nonneg q (Int.ne_of_gt ha)
 have r2 := Int.emod_lt_of_pos q ha
 have r3 := Int.emod_nonneg (q / a) (Int.ne_of_gt hb)
 have r4 := Int.emod_lt_of_pos (q / a) hb
 have e : q = (q % a + a * (q / a % b)) + (a * b) * (q / a / b) := by
  have : a * (q / a) = a * (b * (q / a / b)) + a * (q / a % b) := by rw [← Int.mul_add, h2]
  rw [Int.mul_assoc]
  omega
 have hlo : 0 ≤ q % a + a * (q / a % b) := Int.add_nonneg r1 (Int.mul_nonneg (Int.le_of_lt ha) r3)
 have hhi : q % a + a * (q / a % b) < a * b := by
  have : a * (q / a % b) ≤ a * (b - 1) := Int.mul_le_mul_of_nonneg_left (by omega) (Int.le_of_lt ha)
  rw [Int.mul_sub, Int.mul_one] at this
  omega
 conv => lhs; rw [e]
 rw [Int.add_mul_emod_self_left]
 exact Int.emod_eq_of_lt hlo hhi
theorem num_bytesFrom (n : Int) : ∀ (m k : Nat), num (bytesFrom k n m) = n / 256 ^ k % 256 ^ m
 | 0, k => by simp [bytesFrom, num, Int.emod_one]
 | m + 1, k => by
  simp only [bytesFrom, num]
  rw [num_bytesFrom n m (k + 1)]
  have h1 : n / 256 ^ (k + 1) = n / 256 ^ k / 256 := by rw [Int.pow_succ, Int.ediv_ediv_of_nonneg (Int.pow_nonneg (by decide))]
  rw [h1, Int.pow_succ, Int.mul_comm (256 ^ m) 256, emod_mul' _ 256 (256 ^ m) (by decide) (Int.pow_pos (by decide))]
theorem num_bytesOf (m : Nat) (n : Int) : num (bytesOf m n) = n % 256 ^ m := by
 unfold bytesOf
 rw [num_bytesFrom]
 simp
theorem wnum_wordsFrom (n : Int) : ∀ (m k : Nat), wnum (wordsFrom k n m) = n / 18446744073709551616 ^ k % 18446744073709551616 ^ m
 | 0, k => by simp [wordsFrom, wnum, Int.emod_one]
 | m + 1, k => by
  simp only [wordsFrom, wnum]
  rw [wnum_wordsFrom n m (k + 1)]
  have h1 : n / 18446744073709551616 ^ (k + 1) = n / 18446744073709551616 ^ k / 18446744073709551616 := by rw [Int.pow_succ, Int.ediv_ediv_of_nonneg (Int.pow_nonneg (by decide))]
  rw [h1, Int.pow_succ, Int.mul_comm (18446744073709551616 ^ m) 18446744073709551616, emod_mul' _ 18446744073709551616 (18446744073709551616 ^ m) (by decide) (Int.pow_pos (by decide))]
theorem wnum_wordsOf (m : Nat) (n : Int) : wnum (wordsOf m n) = n % 18446744073709551616 ^ m := by
 unfold wordsOf
 rw [wnum_wordsFrom]
 simp
theorem bytesFrom_num : ∀ (l : List Int) (k : Nat) (n : Int), (∀ x ∈ l, 0 ≤ x ∧ x < 256) → n / 256 ^ k % 256 ^ l.length = num l → bytesFrom k n l.length = l
 | [], _, _, _, _ => rfl
 | x :: l, k, n, h, hn => by
  obtain ⟨x0, x1⟩ := h x (by simp)
  simp only [List.length_cons, bytesFrom, num] at hn ⊢
  rw [Int.pow_succ, Int.mul_comm (256 ^ l.length) 256, emod_mul' _ 256 (256 ^ l.length) (by decide) (Int.pow_pos (by decide))] at hn
  have h1 : n / 256 ^ (k + 1) = n / 256 ^ k / 256 := by rw [Int.pow_succ, Int.ediv_ediv_of_nonneg (Int.pow_nonneg (by decide))]
  have e1 : n / 256 ^ k % 256 = x := by omega
  rw [e1, bytesFrom_num l (k + 1) n (fun y hy => h y (by simp [hy])) (by rw [h1]; omega)]
theorem num_range : ∀ (l : List Int), (∀ x ∈ l, 0 ≤ x ∧ x < 256) → 0 ≤ num l ∧ num l < 256 ^ l.length
 | [], _ => by simp [num]
 | x :: l, h => by
  obtain ⟨x0, x1⟩ := h x (by simp)
  obtain ⟨h1, h2⟩ := num_range l (fun y hy => h y (by simp [hy]))
  simp only [num, List.length_cons]
  rw [Int.pow_succ]
  omega
theorem bytesOf_num (l : List Int) (h : ∀ x ∈ l, 0 ≤ x ∧ x < 256) : bytesOf l.length (num l) = l := by
 obtain ⟨h1, h2⟩ := num_range l h
 exact bytesFrom_num l 0 _ h (by rw [Int.pow_zero, Int.ediv_one]; exact Int.emod_eq_of_lt h1 h2)
theorem bytesFrom_range (n : Int) : ∀ (m k : Nat), ∀ x ∈ bytesFrom k n m, 0 ≤ x ∧ x < 256
 | 0, _, x, h => by cases h
 | m + 1, k, x, h => by
  simp only [bytesFrom, List.mem_cons] at h
  rcases h with rfl | h
  ·omega
  ·exact bytesFrom_range n m (k + 1) x h
theorem bytesOf_range (m : Nat) (n : Int) : ∀ x ∈ bytesOf m n, 0 ≤ x ∧ x < 256 := bytesFrom_range n m 0
theorem wordsFrom_wnum : ∀ (l : List Int) (k : Nat) (n : Int), (∀ x ∈ l, 0 ≤ x ∧ x < 18446744073709551616) → n / 18446744073709551616 ^ k % 18446744073709551616 ^ l.length = wnum l → wordsFrom k n l.length = l
 | [], _, _, _, _ => rfl
 | x :: l, k, n, h, hn => by
  obtain ⟨x0, x1⟩ := h x (by simp)
  simp only [List.length_cons, wordsFrom, wnum] at hn ⊢
  rw [Int.pow_succ, Int.mul_comm (18446744073709551616 ^ l.length) 18446744073709551616, emod_mul' _ 18446744073709551616 (18446744073709551616 ^ l.length) (by decide) (Int.pow_pos (by decide))] at hn
  have h1 : n / 18446744073709551616 ^ (k + 1) = n / 18446744073709551616 ^ k / 18446744073709551616 := by rw [Int.pow_succ, Int.ediv_ediv_of_nonneg (Int.pow_nonneg (by decide))]
  have e1 : n / 18446744073709551616 ^ k % 18446744073709551616 = x := by omega
  rw [e1, wordsFrom_wnum l (k + 1) n (fun y hy => h y (by simp [hy])) (by rw [h1]; omega)]
theorem wnum_range : ∀ (l : List Int), (∀ x ∈ l, 0 ≤ x ∧ x < 18446744073709551616) → 0 ≤ wnum l ∧ wnum l < 18446744073709551616 ^ l.length
 | [], _ => by simp [wnum]
 | x :: l, h => by
  obtain ⟨x0, x1⟩ := h x (by simp)
  obtain ⟨h1, h2⟩ := wnum_range l (fun y hy => h y (by simp [hy]))
  simp only [wnum, List.length_cons]
  rw [Int.pow_succ]
  omega
theorem wordsOf_wnum (l : List Int) (h : ∀ x ∈ l, 0 ≤ x ∧ x < 18446744073709551616) : wordsOf l.length (wnum l) = l := by
 obtain ⟨h1, h2⟩ := wnum_range l h
 exact wordsFrom_wnum l 0 _ h (by rw [Int.pow_zero, Int.ediv_one]; exact Int.emod_eq_of_lt h1 h2)
theorem u64w (n : Int) (h0 : 0 ≤ n) (h1 : n < 18446744073709551616) : IntKind.u64.wrap n = n := IntWalk.u64_in n (by omega)
theorem u8w (n : Int) : IntKind.u8.wrap n = n % 256 := IntKind.wrap_u8 n
theorem bits_or_comm (k : IntKind) (x y : Int) : bits .or k x y = bits .or k y x := by simp only [bits, BitVec.or_comm]
theorem or_low_high (i : Nat) (x y : Int) (hx : 0 ≤ x) (hx1 : x < 2 ^ i) (hx2 : x < 18446744073709551616) (hy : 0 ≤ y) (hy1 : y < 18446744073709551616) (hd : y % 2 ^ i = 0) : bits .or .u64 x y = x + y := by
 rw [bits_or_comm, bits_join .u64 64 (by decide) (fun n a b => u64w n a (by simpa using b)) i y x hy hd (by simpa using hy1) hx hx1 (by simpa using hx2)]
 omega
theorem and_mask (m : Nat) (hm : m ≤ 64) (x : Int) (h0 : 0 ≤ x) (h1 : x < 18446744073709551616) : bits .and .u64 x (2 ^ m - 1) = x % 2 ^ m :=
 bits_mask .u64 64 (by decide) (fun n a b => u64w n a (by simpa using b)) m hm x h0 (by simpa using h1)
def orW : Nat → Int → List Int → Int
 | _, acc, [] => acc
 | j, acc, a :: r => orW (j + 1) (bits .or .u64 acc (IntKind.u64.wrap (IntKind.u64.wrap a * 2 ^ (8 * j)))) r
theorem two_pow_mono {a b : Nat} (h : a ≤ b) : (2 : Int) ^ a ≤ 2 ^ b := by
 obtain ⟨c, rfl⟩ := Nat.exists_eq_add_of_le h
 rw [Int.pow_add]
 have h1 : (0 : Int) < 2 ^ a := Int.pow_pos (by decide)
 have h2 : (0 : Int) < 2 ^ c := Int.pow_pos (by decide)
 have : (2 : Int) ^ a * 1 ≤ 2 ^ a * 2 ^ c := Int.mul_le_mul_of_nonneg_left (by omega) (by omega)
 omega
theorem orW_num : ∀ (l : List Int) (j : Nat) (acc : Int), j + l.length ≤ 8 → (∀ x ∈ l, 0 ≤ x ∧ x < 256) → 0 ≤ acc → acc < 2 ^ (8 * j) → orW j acc l = acc + 2 ^ (8 * j) * num l
 | [], j, acc, _, _, _, _ => by simp [orW, num]
 | a :: r, j, acc, hl, hb, h0, h1 => by
  obtain ⟨a0, a1⟩ := hb a (by simp)
  simp only [List.length_cons] at hl
  have hp : (0 : Int) < 2 ^ (8 * j) := Int.pow_pos (by decide)
  have hj : (2 : Int) ^ (8 * (j + 1)) ≤ 2 ^ 64 := two_pow_mono (by omega)
  have he : (2 : Int) ^ (8 * (j + 1)) = 2 ^ (8 * j) * 256 := by rw [Nat.mul_add, Int.pow_add]; rfl
  have hlo : 0 ≤ a * 2 ^ (8 * j) := Int.mul_nonneg a0 (Int.le_of_lt hp)
  have hhi : a * 2 ^ (8 * j) ≤ 255 * 2 ^ (8 * j) := Int.mul_le_mul_of_nonneg_right (by omega) (Int.le_of_lt hp)
  have h64 : (2 : Int) ^ 64 = 18446744073709551616 := by decide
  unfold orW
  rw [u64w a a0 (by omega), u64w _ hlo (by omega), or_low_high (8 * j) acc _ h0 h1 (by omega) hlo (by omega) (Int.mul_emod_left _ _),
   orW_num r (j + 1) _ (by omega) (fun x hx => hb x (by simp [hx])) (by omega) (by omega)]
  simp only [num]
  rw [he, Int.mul_add, Int.mul_assoc, Int.mul_comm a]
  omega
def stFrom (w : Int) : Nat → Nat → List Int
 | _, 0 => []
 | k, m + 1 => IntKind.u8.wrap (w.fdiv (2 ^ (8 * k))) :: stFrom w (k + 1) m
theorem pow256 (k : Nat) : (2 : Int) ^ (8 * k) = 256 ^ k := by rw [Int.pow_mul]; rfl
theorem stFrom_bytes (w : Int) : ∀ (m k : Nat), stFrom w k m = bytesFrom k w m
 | 0, _ => rfl
 | m + 1, k => by
  unfold stFrom bytesFrom
  rw [u8w, pow256, Int.fdiv_eq_ediv_of_nonneg _ (Int.pow_nonneg (by decide)), stFrom_bytes w m (k + 1)]
theorem bytesFrom_div (n : Int) (j : Nat) : ∀ (m k : Nat), bytesFrom (j + k) n m = bytesFrom k (n / 256 ^ j) m
 | 0, _ => rfl
 | m + 1, k => by
  unfold bytesFrom
  rw [Int.pow_add, ← Int.ediv_ediv_of_nonneg (Int.pow_nonneg (by decide)), Nat.add_assoc, bytesFrom_div n j m (k + 1)]
theorem bytesFrom_append (n : Int) : ∀ (a b k : Nat), bytesFrom k n (a + b) = bytesFrom k n a ++ bytesFrom (k + a) n b
 | 0, b, k => by simp [bytesFrom]
 | a + 1, b, k => by
  rw [Nat.succ_add]
  simp only [bytesFrom, List.cons_append]
  rw [bytesFrom_append n a b (k + 1), show k + 1 + a = k + (a + 1) by omega]
theorem bytesFrom_mod (n : Int) (M : Nat) : ∀ (m k : Nat), k + m ≤ M → bytesFrom k (n % 256 ^ M) m = bytesFrom k n m
 | 0, _, _ => rfl
 | m + 1, k, h => by
  unfold bytesFrom
  rw [bytesFrom_mod n M m (k + 1) (by omega)]
  congr 1
  have hM : (256 : Int) ^ M = 256 ^ k * 256 ^ (M - k) := by rw [← Int.pow_add]; congr 1; omega
  rw [hM, emod_mul' n _ _ (Int.pow_pos (by decide)) (Int.pow_pos (by decide))]
  have r1 := Int.emod_nonneg n (Int.ne_of_gt (Int.pow_pos (by decide) : (0 : Int) < 256 ^ k))
  have r2 := Int.emod_lt_of_pos n (Int.pow_pos (by decide) : (0 : Int) < 256 ^ k)
  rw [Int.add_mul_ediv_left _ _ (Int.ne_of_gt (Int.pow_pos (by decide))), Int.ediv_eq_zero_of_lt r1 r2, Int.zero_add]
  have : (256 : Int) ^ (M - k) = 256 * 256 ^ (M - k - 1) := by rw [Int.mul_comm, ← Int.pow_succ]; congr 1; omega
  rw [this]
  exact Int.emod_emod_of_dvd _ (Int.dvd_mul_right _ _)
theorem bytesOf_word (w r : Int) (m : Nat) (h0 : 0 ≤ w) (h1 : w < 18446744073709551616) : bytesOf (8 + m) (w + 18446744073709551616 * r) = bytesOf 8 w ++ bytesOf m r := by
 have h256 : (256 : Int) ^ 8 = 18446744073709551616 := by decide
 unfold bytesOf
 rw [bytesFrom_append]
 congr 1
 ·rw [← bytesFrom_mod _ 8 8 0 (by omega), h256, Int.add_mul_emod_self_left, Int.emod_eq_of_lt h0 h1]
 ·rw [Nat.zero_add, show (8 : Nat) = 8 + 0 by rfl, bytesFrom_div, h256]
  congr 1
  omega
def addc (x y : Int) (c : Bool) : Int := (x + y + bi c) % b64
def carry (x y : Int) (c : Bool) : Bool := decide (b64 ≤ x + y + bi c)
def subc (x y : Int) (c : Bool) : Int := (x + b64 - y - bi c) % b64
def borrow (x y : Int) (c : Bool) : Bool := decide (x < y + bi c)
theorem addc_split (x y : Int) (c : Bool) (hx : 0 ≤ x) (hx1 : x < 18446744073709551616) (hy : 0 ≤ y) (hy1 : y < 18446744073709551616) :
  x + y + bi c = addc x y c + 18446744073709551616 * bi (carry x y c) ∧ 0 ≤ addc x y c ∧ addc x y c < 18446744073709551616 := by
 have h3 := bi_range c
 unfold addc carry b64
 by_cases h : 18446744073709551616 ≤ x + y + bi c
 ·rw [decide_eq_true h, show bi true = 1 from rfl]; omega
 ·rw [decide_eq_false h, show bi false = 0 from rfl]; omega
theorem subc_split (x y : Int) (c : Bool) (hx : 0 ≤ x) (hx1 : x < 18446744073709551616) (hy : 0 ≤ y) (hy1 : y < 18446744073709551616) :
  x - y - bi c = subc x y c - 18446744073709551616 * bi (borrow x y c) ∧ 0 ≤ subc x y c ∧ subc x y c < 18446744073709551616 := by
 have h3 := bi_range c
 unfold subc borrow b64
 by_cases h : x < y + bi c
 ·rw [decide_eq_true h, show bi true = 1 from rfl]; omega
 ·rw [decide_eq_false h, show bi false = 0 from rfl]; omega
def pickW (c : Bool) (t w : Int) : Int := bits .or .u64 (bits .and .u64 t (IntKind.u64.wrap (bi c - 1))) (bits .and .u64 w (IntKind.u64.wrap (0 - bi c)))
theorem and_zero (x : Int) : bits .and .u64 x 0 = 0 := by
 show IntKind.u64.wrap ((BitVec.ofInt 64 x &&& 0#64).toNat : Nat) = 0
 rw [BitVec.and_zero]
 decide
theorem and_ones (x : Int) (h0 : 0 ≤ x) (h1 : x < 18446744073709551616) : bits .and .u64 x 18446744073709551615 = x := by
 have := and_mask 64 (Nat.le_refl _) x h0 h1
 rw [show (2 : Int) ^ 64 - 1 = 18446744073709551615 by decide, show (2 : Int) ^ 64 = 18446744073709551616 by decide] at this
 rw [this]
 exact Int.emod_eq_of_lt h0 h1
theorem pickW_eq (c : Bool) (t w : Int) (ht : 0 ≤ t) (ht1 : t < 18446744073709551616) (hw : 0 ≤ w) (hw1 : w < 18446744073709551616) : pickW c t w = if c then w else t := by
 unfold pickW
 cases c with
 | true =>
  rw [show IntKind.u64.wrap (bi true - 1) = 0 by decide, show IntKind.u64.wrap (0 - bi true) = 18446744073709551615 by decide, and_zero, and_ones w hw hw1,
   or_low_high 0 0 w (by decide) (by decide) (by decide) hw hw1 (by simp [Int.emod_one])]
  simp
 | false =>
  rw [show IntKind.u64.wrap (bi false - 1) = 18446744073709551615 by decide, show IntKind.u64.wrap (0 - bi false) = 0 by decide, and_zero, and_ones t ht ht1, bits_or_comm,
   or_low_high 0 0 t (by decide) (by decide) (by decide) ht ht1 (by simp [Int.emod_one])]
  simp
def macLo (x y t ab : Int) : Int := addc (addc (x * y % b64) t false) ab false
def macHi (x y t ab : Int) : Int := IntKind.u64.wrap (IntKind.u64.wrap (x * y / b64 + bi (carry (x * y % b64) t false)) + bi (carry (addc (x * y % b64) t false) ab false))
theorem mac_split (x y t ab : Int) (hx : 0 ≤ x) (hx1 : x < 18446744073709551616) (hy : 0 ≤ y) (hy1 : y < 18446744073709551616) (ht : 0 ≤ t) (ht1 : t < 18446744073709551616) (ha : 0 ≤ ab) (ha1 : ab < 18446744073709551616) :
  x * y + t + ab = macLo x y t ab + 18446744073709551616 * macHi x y t ab ∧ (0 ≤ macLo x y t ab ∧ macLo x y t ab < 18446744073709551616) ∧ 0 ≤ macHi x y t ab ∧ macHi x y t ab < 18446744073709551616 := by
 have hp : 0 ≤ x * y := Int.mul_nonneg hx hy
 have hp1 : x * y ≤ 18446744073709551615 * 18446744073709551615 := Int.mul_le_mul (by omega) (by omega) hy (by decide)
 unfold macLo macHi
 generalize x * y = p at *
 have e1 := addc_split (p % b64) t false (by unfold b64; omega) (by unfold b64; omega) ht ht1
 have e2 := addc_split (addc (p % b64) t false) ab false e1.2.1 e1.2.2 ha ha1
 have c1 := bi_range (carry (p % b64) t false)
 have c2 := bi_range (carry (addc (p % b64) t false) ab false)
 rw [show bi false = 0 from rfl] at e1 e2
 generalize addc (addc (p % b64) t false) ab false = lo at *
 generalize bi (carry (addc (p % b64) t false) ab false) = k2 at *
 generalize addc (p % b64) t false = lo1 at *
 generalize bi (carry (p % b64) t false) = k1 at *
 unfold b64 at *
 have hd : p / 18446744073709551616 + k1 + k2 < 18446744073709551616 := by omega
 rw [u64w (p / 18446744073709551616 + k1) (by omega) (by omega), u64w _ (by omega) (by omega)]
 omega
theorem list16 {l : List Int} (h : l.length = 16) : ∃ a0 a1 a2 a3 a4 a5 a6 a7 a8 a9 a10 a11 a12 a13 a14 a15, l = [a0, a1, a2, a3, a4, a5, a6, a7, a8, a9, a10, a11, a12, a13, a14, a15] := by
 match l, h with
 | [a0, a1, a2, a3, a4, a5, a6, a7, a8, a9, a10, a11, a12, a13, a14, a15], _ => exact ⟨a0, a1, a2, a3, a4, a5, a6, a7, a8, a9, a10, a11, a12, a13, a14, a15, rfl⟩
theorem list32 {l : List Int} (h : l.length = 32) : ∃ k0 k1 k2 k3 k4 k5 k6 k7 k8 k9 k10 k11 k12 k13 k14 k15 k16 k17 k18 k19 k20 k21 k22 k23 k24 k25 k26 k27 k28 k29 k30 k31, l = [k0, k1, k2, k3, k4, k5, k6, k7, k8, k9, k10, k11, k12, k13, k14, k15, k16, k17, k18, k19, k20, k21, k22, k23, k24, k25, k26, k27, k28, k29, k30, k31] := by
 match l, h with
 | [k0, k1, k2, k3, k4, k5, k6, k7, k8, k9, k10, k11, k12, k13, k14, k15, k16, k17, k18, k19, k20, k21, k22, k23, k24, k25, k26, k27, k28, k29, k30, k31], _ => exact ⟨k0, k1, k2, k3, k4, k5, k6, k7, k8, k9, k10, k11, k12, k13, k14, k15, k16, k17, k18, k19, k20, k21, k22, k23, k24, k25, k26, k27, k28, k29, k30, k31, rfl⟩
theorem list4 {l : List Int} (h : l.length = 4) : ∃ a b c d, l = [a, b, c, d] := by
 match l, h with
 | [a, b, c, d], _ => exact ⟨a, b, c, d, rfl⟩
theorem num_append : ∀ (l m : List Int), num (l ++ m) = num l + 256 ^ l.length * num m
 | [], m => by simp [num]
 | x :: l, m => by
  simp only [List.cons_append, num, num_append l m, List.length_cons, Int.pow_succ]
  rw [Int.mul_add, Int.mul_comm (256 ^ l.length) 256, Int.mul_assoc]
  omega
theorem emm (a b q : Int) : a % q * b % q = a * b % q := by
 rw [Int.mul_emod, Int.emod_emod, ← Int.mul_emod]
theorem mem (a b q : Int) : a * (b % q) % q = a * b % q := by
 rw [Int.mul_emod, Int.emod_emod, ← Int.mul_emod]
theorem u64wm (n : Int) : IntKind.u64.wrap n = n % 18446744073709551616 := by
 simp [IntKind.wrap, IntKind.bits, IntKind.signed]
theorem fdiv32 (n : Int) : n.fdiv (2 ^ 32) = n / 4294967296 := by
 rw [show (2 : Int) ^ 32 = 4294967296 by decide, Int.fdiv_eq_ediv_of_nonneg _ (by decide)]
def mulHiR (x y : Int) : Int :=
 let w (n : Int) := IntKind.u64.wrap n
 let x0 := bits .and .u64 x 4294967295
 let x1 := x.fdiv (2 ^ 32)
 let y0 := bits .and .u64 y 4294967295
 let y1 := y.fdiv (2 ^ 32)
 let w0 := w (x0 * y0)
 let t := w (w (x1 * y0) + w0.fdiv (2 ^ 32))
 let w1 := bits .and .u64 t 4294967295
 let w2 := t.fdiv (2 ^ 32)
 let w1' := w (w1 + w (x0 * y1))
 w (w (w (x1 * y1) + w2) + w1'.fdiv (2 ^ 32))
def p25 : Int := 57896044618658097711785492504343953926634992332820282019728792003956564819949
def red25 (n : Int) : Int := n % 115792089237316195423570985008687907853269984665640564039457584007913129639936 + 38 * (n / 115792089237316195423570985008687907853269984665640564039457584007913129639936)
abbrev W (n : Int) : Prop := 0 ≤ n ∧ n < 18446744073709551616
theorem pow4 : (18446744073709551616 : Int) ^ 4 = 115792089237316195423570985008687907853269984665640564039457584007913129639936 := by decide
theorem red25_mod (n : Int) : red25 n % p25 = n % p25 := by
 have e : n = red25 n + p25 * (2 * (n / 115792089237316195423570985008687907853269984665640564039457584007913129639936)) := by unfold red25 p25; omega
 conv => rhs; rw [e]
 rw [Int.add_mul_emod_self_left]
theorem wnum_wordsOf4 (n : Int) : wnum (wordsOf 4 n) = n % 115792089237316195423570985008687907853269984665640564039457584007913129639936 := by
 rw [wnum_wordsOf, pow4]
theorem wordsOf4_mod (n m : Int) (h : n % 115792089237316195423570985008687907853269984665640564039457584007913129639936 = m % 115792089237316195423570985008687907853269984665640564039457584007913129639936) : wordsOf 4 n = wordsOf 4 m := by
 simp only [wordsOf, wordsFrom]
 have e : ∀ x : Int, (18446744073709551616 : Int) ^ 0 = 1 ∧ (18446744073709551616 : Int) ^ (0 + 1) = 18446744073709551616 ∧ (18446744073709551616 : Int) ^ (0 + 1 + 1) = 340282366920938463463374607431768211456 ∧ (18446744073709551616 : Int) ^ (0 + 1 + 1 + 1) = 6277101735386680763835789423207666416102355444464034512896 := fun _ => by decide
 obtain ⟨e0, e1, e2, e3⟩ := e 0
 rw [e0, e1, e2, e3]
 congr 1
 ·omega
 ·congr 1
  ·omega
  ·congr 1
   ·omega
   ·congr 1
    omega
theorem wordsFrom_range (n : Int) : ∀ (m k : Nat), ∀ x ∈ wordsFrom k n m, W x
 | 0, _, x, h => by cases h
 | m + 1, k, x, h => by
  simp only [wordsFrom, List.mem_cons] at h
  rcases h with rfl | h
  ·constructor <;> omega
  ·exact wordsFrom_range n m (k + 1) x h
theorem words4 (n : Int) : ∃ a b c d, wordsOf 4 n = [a, b, c, d] ∧ W a ∧ W b ∧ W c ∧ W d ∧ wnum [a, b, c, d] = n % 115792089237316195423570985008687907853269984665640564039457584007913129639936 := by
 refine ⟨_, _, _, _, rfl, ?_, ?_, ?_, ?_, ?_⟩
 ·exact wordsFrom_range n 4 0 _ (by simp [wordsFrom])
 ·exact wordsFrom_range n 4 0 _ (by simp [wordsFrom])
 ·exact wordsFrom_range n 4 0 _ (by simp [wordsFrom])
 ·exact wordsFrom_range n 4 0 _ (by simp [wordsFrom])
 ·exact wnum_wordsOf4 n
theorem wnum4_range {a b c d : Int} (ha : W a) (hb : W b) (hc : W c) (hd : W d) : 0 ≤ wnum [a, b, c, d] ∧ wnum [a, b, c, d] < 115792089237316195423570985008687907853269984665640564039457584007913129639936 := by
 simp only [wnum]
 omega
theorem words4_eq {a b c d n : Int} (ha : W a) (hb : W b) (hc : W c) (hd : W d) (h : wnum [a, b, c, d] = n % 115792089237316195423570985008687907853269984665640564039457584007913129639936) : [a, b, c, d] = wordsOf 4 n := by
 have := wordsOf_wnum [a, b, c, d] (fun x hx => by
  simp only [List.mem_cons, List.not_mem_nil, or_false] at hx
  rcases hx with rfl | rfl | rfl | rfl <;> assumption)
 rw [← this]
 exact wordsOf4_mod _ _ (by rw [h, Int.emod_emod])
def moreR1 (w : List Int) (ab : Int) : List Int × Int :=
 match w with
 | [w0, w1, w2, w3] =>
  let lo := ab * 38 % b64
  let hi := ab * 38 / b64
  let c0 := carry w0 lo false
  let c1 := carry w1 hi c0
  let c2 := carry w2 0 c1
  let c3 := carry w3 0 c2
  ([addc w0 lo false, addc w1 hi c0, addc w2 0 c1, addc w3 0 c2], bi c3)
 | w => (w, ab)
theorem moreR1_eq (w0 w1 w2 w3 ab : Int) (h0 : W w0) (h1 : W w1) (h2 : W w2) (h3 : W w3) (ha : W ab) :
  ∃ a b c d k, moreR1 [w0, w1, w2, w3] ab = ([a, b, c, d], k) ∧ W a ∧ W b ∧ W c ∧ W d ∧ (k = 0 ∨ k = 1) ∧ wnum [w0, w1, w2, w3] + 38 * ab = wnum [a, b, c, d] + 115792089237316195423570985008687907853269984665640564039457584007913129639936 * k := by
 refine ⟨_, _, _, _, _, rfl, ?_⟩
 have e0 := addc_split w0 (ab * 38 % b64) false h0.1 h0.2 (by unfold b64; omega) (by unfold b64; omega)
 have e1 := addc_split w1 (ab * 38 / b64) (carry w0 (ab * 38 % b64) false) h1.1 h1.2 (by unfold b64; omega) (by unfold b64; omega)
 have e2 := addc_split w2 0 (carry w1 (ab * 38 / b64) (carry w0 (ab * 38 % b64) false)) h2.1 h2.2 (by decide) (by decide)
 have e3 := addc_split w3 0 (carry w2 0 (carry w1 (ab * 38 / b64) (carry w0 (ab * 38 % b64) false))) h3.1 h3.2 (by decide) (by decide)
 have k0 := bi_range (carry w0 (ab * 38 % b64) false)
 have k1 := bi_range (carry w1 (ab * 38 / b64) (carry w0 (ab * 38 % b64) false))
 have k2 := bi_range (carry w2 0 (carry w1 (ab * 38 / b64) (carry w0 (ab * 38 % b64) false)))
 have k3 := bi_range (carry w3 0 (carry w2 0 (carry w1 (ab * 38 / b64) (carry w0 (ab * 38 % b64) false))))
 rw [show bi false = 0 from rfl] at e0
 refine ⟨e0.2, e1.2, e2.2, e3.2, by omega, ?_⟩
 simp only [wnum]
 unfold b64 at *
 omega
def moreR (w : List Int) (ab : Int) : List Int :=
 (moreR1 (moreR1 w ab).1 (moreR1 w ab).2).1
theorem moreR_eq (w0 w1 w2 w3 ab : Int) (h0 : W w0) (h1 : W w1) (h2 : W w2) (h3 : W w3) (ha : W ab) :
  moreR [w0, w1, w2, w3] ab = wordsOf 4 (red25 (wnum [w0, w1, w2, w3] + 38 * ab)) := by
 obtain ⟨a, b, c, d, k, e1, ha', hb, hc, hd, hk, en⟩ := moreR1_eq w0 w1 w2 w3 ab h0 h1 h2 h3 ha
 have hk' : W k := by rcases hk with rfl | rfl <;> constructor <;> decide
 obtain ⟨a', b', c', d', k', e1', ha'', hb', hc', hd', hk'', en'⟩ := moreR1_eq a b c d k ha' hb hc hd hk'
 unfold moreR
 rw [e1]
 simp only [e1']
 have r := wnum4_range ha' hb hc hd
 have r' := wnum4_range ha'' hb' hc' hd'
 refine words4_eq ha'' hb' hc' hd' ?_
 rw [en]
 unfold red25
 generalize wnum [a, b, c, d] = n at *
 generalize wnum [a', b', c', d'] = n' at *
 rcases hk with rfl | rfl <;> rcases hk'' with rfl | rfl <;> omega
def lessR (w : List Int) : List Int :=
 match w with
 | [w0, w1, w2, w3] =>
  let b0 := borrow w0 18446744073709551597 false
  let b1 := borrow w1 18446744073709551615 b0
  let b2 := borrow w2 18446744073709551615 b1
  let b3 := borrow w3 9223372036854775807 b2
  [pickW b3 (subc w0 18446744073709551597 false) w0, pickW b3 (subc w1 18446744073709551615 b0) w1, pickW b3 (subc w2 18446744073709551615 b1) w2, pickW b3 (subc w3 9223372036854775807 b2) w3]
 | w => w
def less25 (n : Int) : Int := if n < p25 then n else n - p25
theorem lessR_eq (w0 w1 w2 w3 : Int) (h0 : W w0) (h1 : W w1) (h2 : W w2) (h3 : W w3) : lessR [w0, w1, w2, w3] = wordsOf 4 (less25 (wnum [w0, w1, w2, w3])) := by
 have e0 := subc_split w0 18446744073709551597 false h0.1 h0.2 (by decide) (by decide)
 have e1 := subc_split w1 18446744073709551615 (borrow w0 18446744073709551597 false) h1.1 h1.2 (by decide) (by decide)
 have e2 := subc_split w2 18446744073709551615 (borrow w1 18446744073709551615 (borrow w0 18446744073709551597 false)) h2.1 h2.2 (by decide) (by decide)
 have e3 := subc_split w3 9223372036854775807 (borrow w2 18446744073709551615 (borrow w1 18446744073709551615 (borrow w0 18446744073709551597 false))) h3.1 h3.2 (by decide) (by decide)
 have r := wnum4_range h0 h1 h2 h3
 simp only [lessR]
 rw [pickW_eq _ _ _ e0.2.1 e0.2.2 h0.1 h0.2, pickW_eq _ _ _ e1.2.1 e1.2.2 h1.1 h1.2, pickW_eq _ _ _ e2.2.1 e2.2.2 h2.1 h2.2, pickW_eq _ _ _ e3.2.1 e3.2.2 h3.1 h3.2]
 rw [show bi false = 0 from rfl] at e0
 have k0 := bi_range (borrow w0 18446744073709551597 false)
 have k1 := bi_range (borrow w1 18446744073709551615 (borrow w0 18446744073709551597 false))
 have k2 := bi_range (borrow w2 18446744073709551615 (borrow w1 18446744073709551615 (borrow w0 18446744073709551597 false)))
 generalize borrow w0 18446744073709551597 false = b0 at *
 generalize borrow w1 18446744073709551615 b0 = b1 at *
 generalize borrow w2 18446744073709551615 b1 = b2 at *
 generalize subc w0 18446744073709551597 false = a' at *
 generalize subc w1 18446744073709551615 b0 = b' at *
 generalize subc w2 18446744073709551615 b1 = c' at *
 generalize subc w3 9223372036854775807 b2 = d' at *
 generalize bi b0 = k0' at *
 generalize bi b1 = k1' at *
 generalize bi b2 = k2' at *
 unfold less25
 cases hb3 : borrow w3 9223372036854775807 b2 with
 | true =>
  rw [hb3, show bi true = 1 from rfl] at e3
  simp only [if_true]
  rw [if_pos (by simp only [wnum, p25]; omega)]
  exact words4_eq h0 h1 h2 h3 (by omega)
 | false =>
  rw [hb3, show bi false = 0 from rfl] at e3
  simp only [Bool.false_eq_true, if_false]
  rw [if_neg (by simp only [wnum, p25]; omega)]
  refine words4_eq e0.2 e1.2 e2.2 e3.2 ?_
  simp only [wnum, p25] at *
  omega
theorem less25_range (n : Int) (h : 0 ≤ n) (h1 : n < 115792089237316195423570985008687907853269984665640564039457584007913129639936) : 0 ≤ less25 n ∧ less25 n < 115792089237316195423570985008687907853269984665640564039457584007913129639936 := by
 unfold less25 p25; split <;> omega
theorem less25_lt {n : Int} (h : n < p25) : less25 n = n := if_pos h
theorem less25_ge {n : Int} (h : p25 ≤ n) : less25 n = n - p25 := if_neg (by omega)
theorem less25_twice (n : Int) (h : 0 ≤ n) (h1 : n < 115792089237316195423570985008687907853269984665640564039457584007913129639936) : less25 (less25 n) = n % p25 := by
 rcases Int.lt_or_le n p25 with a | a
 ·rw [less25_lt a, less25_lt a]
  exact (Int.emod_eq_of_lt h a).symm
 ·rw [less25_ge a]
  rcases Int.lt_or_le (n - p25) p25 with b | b
  ·rw [less25_lt b]
   unfold p25 at *
   omega
  ·rw [less25_ge b]
   unfold p25 at *
   omega
def sumR (x y : List Int) : List Int × Int :=
 match x, y with
 | [x0, x1, x2, x3], [y0, y1, y2, y3] =>
  let c0 := carry x0 y0 false
  let c1 := carry x1 y1 c0
  let c2 := carry x2 y2 c1
  let c3 := carry x3 y3 c2
  ([addc x0 y0 false, addc x1 y1 c0, addc x2 y2 c1, addc x3 y3 c2], bi c3)
 | x, _ => (x, 0)
theorem sumR_eq (x0 x1 x2 x3 y0 y1 y2 y3 : Int) (h0 : W x0) (h1 : W x1) (h2 : W x2) (h3 : W x3) (g0 : W y0) (g1 : W y1) (g2 : W y2) (g3 : W y3) :
  ∃ a b c d k, sumR [x0, x1, x2, x3] [y0, y1, y2, y3] = ([a, b, c, d], k) ∧ W a ∧ W b ∧ W c ∧ W d ∧ (k = 0 ∨ k = 1) ∧ wnum [x0, x1, x2, x3] + wnum [y0, y1, y2, y3] = wnum [a, b, c, d] + 115792089237316195423570985008687907853269984665640564039457584007913129639936 * k := by
 refine ⟨_, _, _, _, _, rfl, ?_⟩
 have e0 := addc_split x0 y0 false h0.1 h0.2 g0.1 g0.2
 have e1 := addc_split x1 y1 (carry x0 y0 false) h1.1 h1.2 g1.1 g1.2
 have e2 := addc_split x2 y2 (carry x1 y1 (carry x0 y0 false)) h2.1 h2.2 g2.1 g2.2
 have e3 := addc_split x3 y3 (carry x2 y2 (carry x1 y1 (carry x0 y0 false))) h3.1 h3.2 g3.1 g3.2
 have k3 := bi_range (carry x3 y3 (carry x2 y2 (carry x1 y1 (carry x0 y0 false))))
 rw [show bi false = 0 from rfl] at e0
 refine ⟨e0.2, e1.2, e2.2, e3.2, by omega, ?_⟩
 simp only [wnum]
 omega
theorem more_sum (x0 x1 x2 x3 y0 y1 y2 y3 : Int) (h0 : W x0) (h1 : W x1) (h2 : W x2) (h3 : W x3) (g0 : W y0) (g1 : W y1) (g2 : W y2) (g3 : W y3) :
  wordsOf 4 (red25 (wnum (sumR [x0, x1, x2, x3] [y0, y1, y2, y3]).1 + 38 * (sumR [x0, x1, x2, x3] [y0, y1, y2, y3]).2)) = wordsOf 4 (red25 (red25 (wnum [x0, x1, x2, x3] + wnum [y0, y1, y2, y3]))) := by
 obtain ⟨a, b, c, d, k, e, ha, hb, hc, hd, hk, en⟩ := sumR_eq x0 x1 x2 x3 y0 y1 y2 y3 h0 h1 h2 h3 g0 g1 g2 g3
 rw [e, en]
 have r := wnum4_range ha hb hc hd
 generalize wnum [a, b, c, d] = n at *
 have e2 : red25 (n + 115792089237316195423570985008687907853269984665640564039457584007913129639936 * k) = n + 38 * k := by
  unfold red25
  rcases hk with rfl | rfl <;> omega
 rw [e2]
def minusR (x : List Int) : List Int :=
 match x with
 | [x0, x1, x2, x3] =>
  let b0 := borrow 18446744073709551597 x0 false
  let b1 := borrow 18446744073709551615 x1 b0
  let b2 := borrow 18446744073709551615 x2 b1
  [subc 18446744073709551597 x0 false, subc 18446744073709551615 x1 b0, subc 18446744073709551615 x2 b1, subc 9223372036854775807 x3 b2]
 | x => x
theorem minusR_eq (w0 w1 w2 w3 : Int) (h0 : W w0) (h1 : W w1) (h2 : W w2) (h3 : W w3) : minusR [w0, w1, w2, w3] = wordsOf 4 (p25 - wnum [w0, w1, w2, w3]) := by
 have e0 := subc_split 18446744073709551597 w0 false (by decide) (by decide) h0.1 h0.2
 have e1 := subc_split 18446744073709551615 w1 (borrow 18446744073709551597 w0 false) (by decide) (by decide) h1.1 h1.2
 have e2 := subc_split 18446744073709551615 w2 (borrow 18446744073709551615 w1 (borrow 18446744073709551597 w0 false)) (by decide) (by decide) h2.1 h2.2
 have e3 := subc_split 9223372036854775807 w3 (borrow 18446744073709551615 w2 (borrow 18446744073709551615 w1 (borrow 18446744073709551597 w0 false))) (by decide) (by decide) h3.1 h3.2
 rw [show bi false = 0 from rfl] at e0
 have k3 := bi_range (borrow 9223372036854775807 w3 (borrow 18446744073709551615 w2 (borrow 18446744073709551615 w1 (borrow 18446744073709551597 w0 false))))
 refine words4_eq e0.2 e1.2 e2.2 e3.2 ?_
 simp only [wnum, p25]
 omega
structure Row4 where
 l0 : Int
 l1 : Int
 l2 : Int
 l3 : Int
 h : Int
def rowR (x y0 y1 y2 y3 t0 t1 t2 t3 : Int) : Row4 :=
 let h0 := macHi x y0 t0 0
 let h1 := macHi x y1 t1 h0
 let h2 := macHi x y2 t2 h1
 ⟨macLo x y0 t0 0, macLo x y1 t1 h0, macLo x y2 t2 h1, macLo x y3 t3 h2, macHi x y3 t3 h2⟩
theorem rowR_eq (x y0 y1 y2 y3 t0 t1 t2 t3 : Int) (hx : W x) (h0 : W y0) (h1 : W y1) (h2 : W y2) (h3 : W y3) (g0 : W t0) (g1 : W t1) (g2 : W t2) (g3 : W t3) :
  x * y0 + 18446744073709551616 * (x * y1 + 18446744073709551616 * (x * y2 + 18446744073709551616 * (x * y3))) + (t0 + 18446744073709551616 * (t1 + 18446744073709551616 * (t2 + 18446744073709551616 * t3))) =
   (rowR x y0 y1 y2 y3 t0 t1 t2 t3).l0 + 18446744073709551616 * ((rowR x y0 y1 y2 y3 t0 t1 t2 t3).l1 + 18446744073709551616 * ((rowR x y0 y1 y2 y3 t0 t1 t2 t3).l2 + 18446744073709551616 * ((rowR x y0 y1 y2 y3 t0 t1 t2 t3).l3 + 18446744073709551616 * (rowR x y0 y1 y2 y3 t0 t1 t2 t3).h))) ∧
  W (rowR x y0 y1 y2 y3 t0 t1 t2 t3).l0 ∧ W (rowR x y0 y1 y2 y3 t0 t1 t2 t3).l1 ∧ W (rowR x y0 y1 y2 y3 t0 t1 t2 t3).l2 ∧ W (rowR x y0 y1 y2 y3 t0 t1 t2 t3).l3 ∧ W (rowR x y0 y1 y2 y3 t0 t1 t2 t3).h := by
 simp only [rowR]
 obtain ⟨e0, a0, b0⟩ := mac_split x y0 t0 0 hx.1 hx.2 h0.1 h0.2 g0.1 g0.2 (by decide) (by decide)
 obtain ⟨e1, a1, b1⟩ := mac_split x y1 t1 (macHi x y0 t0 0) hx.1 hx.2 h1.1 h1.2 g1.1 g1.2 b0.1 b0.2
 obtain ⟨e2, a2, b2⟩ := mac_split x y2 t2 (macHi x y1 t1 (macHi x y0 t0 0)) hx.1 hx.2 h2.1 h2.2 g2.1 g2.2 b1.1 b1.2
 obtain ⟨e3, a3, b3⟩ := mac_split x y3 t3 (macHi x y2 t2 (macHi x y1 t1 (macHi x y0 t0 0))) hx.1 hx.2 h3.1 h3.2 g3.1 g3.2 b2.1 b2.2
 refine ⟨?_, a0, a1, a2, a3, b3⟩
 generalize macHi x y3 t3 (macHi x y2 t2 (macHi x y1 t1 (macHi x y0 t0 0))) = H3 at *
 generalize macLo x y3 t3 (macHi x y2 t2 (macHi x y1 t1 (macHi x y0 t0 0))) = L3 at *
 generalize macHi x y2 t2 (macHi x y1 t1 (macHi x y0 t0 0)) = H2 at *
 generalize macLo x y2 t2 (macHi x y1 t1 (macHi x y0 t0 0)) = L2 at *
 generalize macHi x y1 t1 (macHi x y0 t0 0) = H1 at *
 generalize macLo x y1 t1 (macHi x y0 t0 0) = L1 at *
 generalize macHi x y0 t0 0 = H0 at *
 generalize macLo x y0 t0 0 = L0 at *
 generalize x * y0 = p0 at *
 generalize x * y1 = p1 at *
 generalize x * y2 = p2 at *
 generalize x * y3 = p3 at *
 omega
def prodR (x y : List Int) : List Int :=
 match x, y with
 | [x0, x1, x2, x3], [y0, y1, y2, y3] =>
  let p := rowR x0 y0 y1 y2 y3 0 0 0 0
  let q := rowR x1 y0 y1 y2 y3 p.l1 p.l2 p.l3 p.h
  let r := rowR x2 y0 y1 y2 y3 q.l1 q.l2 q.l3 q.h
  let s := rowR x3 y0 y1 y2 y3 r.l1 r.l2 r.l3 r.h
  [p.l0, q.l0, r.l0, s.l0, s.l1, s.l2, s.l3, s.h]
 | _, _ => []
theorem prodR_eq (x0 x1 x2 x3 y0 y1 y2 y3 : Int) (hx0 : W x0) (hx1 : W x1) (hx2 : W x2) (hx3 : W x3) (hy0 : W y0) (hy1 : W y1) (hy2 : W y2) (hy3 : W y3) :
  ∃ t0 t1 t2 t3 t4 t5 t6 t7, prodR [x0, x1, x2, x3] [y0, y1, y2, y3] = [t0, t1, t2, t3, t4, t5, t6, t7] ∧ W t0 ∧ W t1 ∧ W t2 ∧ W t3 ∧ W t4 ∧ W t5 ∧ W t6 ∧ W t7 ∧
   wnum [x0, x1, x2, x3] * wnum [y0, y1, y2, y3] = wnum [t0, t1, t2, t3] + 115792089237316195423570985008687907853269984665640564039457584007913129639936 * wnum [t4, t5, t6, t7] := by
 refine ⟨_, _, _, _, _, _, _, _, rfl, ?_⟩
 have z : W 0 := ⟨by decide, by decide⟩
 obtain ⟨e0, a0, a1, a2, a3, a4⟩ := rowR_eq x0 y0 y1 y2 y3 0 0 0 0 hx0 hy0 hy1 hy2 hy3 z z z z
 generalize rowR x0 y0 y1 y2 y3 0 0 0 0 = p at *
 obtain ⟨e1, b0, b1, b2, b3, b4⟩ := rowR_eq x1 y0 y1 y2 y3 p.l1 p.l2 p.l3 p.h hx1 hy0 hy1 hy2 hy3 a1 a2 a3 a4
 generalize rowR x1 y0 y1 y2 y3 p.l1 p.l2 p.l3 p.h = q at *
 obtain ⟨e2, c0, c1, c2, c3, c4⟩ := rowR_eq x2 y0 y1 y2 y3 q.l1 q.l2 q.l3 q.h hx2 hy0 hy1 hy2 hy3 b1 b2 b3 b4
 generalize rowR x2 y0 y1 y2 y3 q.l1 q.l2 q.l3 q.h = r at *
 obtain ⟨e3, d0, d1, d2, d3, d4⟩ := rowR_eq x3 y0 y1 y2 y3 r.l1 r.l2 r.l3 r.h hx3 hy0 hy1 hy2 hy3 c1 c2 c3 c4
 generalize rowR x3 y0 y1 y2 y3 r.l1 r.l2 r.l3 r.h = s at *
 refine ⟨a0, b0, c0, d0, d1, d2, d3, d4, ?_⟩
 have e : wnum [x0, x1, x2, x3] * wnum [y0, y1, y2, y3] =
   (x0 * y0 + 18446744073709551616 * (x0 * y1 + 18446744073709551616 * (x0 * y2 + 18446744073709551616 * (x0 * y3)))) + 18446744073709551616 * (x1 * y0 + 18446744073709551616 * (x1 * y1 + 18446744073709551616 * (x1 * y2 + 18446744073709551616 * (x1 * y3)))) +
    340282366920938463463374607431768211456 * (x2 * y0 + 18446744073709551616 * (x2 * y1 + 18446744073709551616 * (x2 * y2 + 18446744073709551616 * (x2 * y3)))) +
    6277101735386680763835789423207666416102355444464034512896 * (x3 * y0 + 18446744073709551616 * (x3 * y1 + 18446744073709551616 * (x3 * y2 + 18446744073709551616 * (x3 * y3)))) := by
  simp only [wnum]
  grind
 rw [e]
 simp only [wnum]
 generalize x0 * y0 + 18446744073709551616 * (x0 * y1 + 18446744073709551616 * (x0 * y2 + 18446744073709551616 * (x0 * y3))) = q0 at *
 generalize x1 * y0 + 18446744073709551616 * (x1 * y1 + 18446744073709551616 * (x1 * y2 + 18446744073709551616 * (x1 * y3))) = q1 at *
 generalize x2 * y0 + 18446744073709551616 * (x2 * y1 + 18446744073709551616 * (x2 * y2 + 18446744073709551616 * (x2 * y3))) = q2 at *
 generalize x3 * y0 + 18446744073709551616 * (x3 * y1 + 18446744073709551616 * (x3 * y2 + 18446744073709551616 * (x3 * y3))) = q3 at *
 omega
def lowR (t : List Int) : List Int × Int :=
 match t with
 | [t0, t1, t2, t3, t4, t5, t6, t7] =>
  let h0 := macHi t4 38 t0 0
  let h1 := macHi t5 38 t1 h0
  let h2 := macHi t6 38 t2 h1
  ([macLo t4 38 t0 0, macLo t5 38 t1 h0, macLo t6 38 t2 h1, macLo t7 38 t3 h2], macHi t7 38 t3 h2)
 | t => (t, 0)
theorem lowR_eq (t0 t1 t2 t3 t4 t5 t6 t7 : Int) (h0 : W t0) (h1 : W t1) (h2 : W t2) (h3 : W t3) (h4 : W t4) (h5 : W t5) (h6 : W t6) (h7 : W t7) :
  ∃ a b c d k, lowR [t0, t1, t2, t3, t4, t5, t6, t7] = ([a, b, c, d], k) ∧ W a ∧ W b ∧ W c ∧ W d ∧ W k ∧ wnum [t0, t1, t2, t3] + 38 * wnum [t4, t5, t6, t7] = wnum [a, b, c, d] + 115792089237316195423570985008687907853269984665640564039457584007913129639936 * k := by
 refine ⟨_, _, _, _, _, rfl, ?_⟩
 have z : W 38 := ⟨by decide, by decide⟩
 obtain ⟨e0, a0, b0⟩ := mac_split t4 38 t0 0 h4.1 h4.2 z.1 z.2 h0.1 h0.2 (by decide) (by decide)
 obtain ⟨e1, a1, b1⟩ := mac_split t5 38 t1 (macHi t4 38 t0 0) h5.1 h5.2 z.1 z.2 h1.1 h1.2 b0.1 b0.2
 obtain ⟨e2, a2, b2⟩ := mac_split t6 38 t2 (macHi t5 38 t1 (macHi t4 38 t0 0)) h6.1 h6.2 z.1 z.2 h2.1 h2.2 b1.1 b1.2
 obtain ⟨e3, a3, b3⟩ := mac_split t7 38 t3 (macHi t6 38 t2 (macHi t5 38 t1 (macHi t4 38 t0 0))) h7.1 h7.2 z.1 z.2 h3.1 h3.2 b2.1 b2.2
 refine ⟨a0, a1, a2, a3, b3, ?_⟩
 simp only [wnum]
 omega
def prod25 (x y : Int) : Int := red25 (red25 (red25 (x * y)))
theorem prod25_mod (x y : Int) : prod25 x y % p25 = x * y % p25 := by
 unfold prod25
 rw [red25_mod, red25_mod, red25_mod]
theorem red25_3 (n : Int) (h : 0 ≤ n) (h1 : n < 115792089237316195423570985008687907853269984665640564039457584007913129639936 * 115792089237316195423570985008687907853269984665640564039457584007913129639936) :
  0 ≤ red25 (red25 (red25 n)) ∧ red25 (red25 (red25 n)) < 115792089237316195423570985008687907853269984665640564039457584007913129639936 := by
 have a : 0 ≤ red25 n ∧ red25 n < 115792089237316195423570985008687907853269984665640564039457584007913129639936 * 39 := by
  unfold red25; omega
 have b : 0 ≤ red25 (red25 n) ∧ red25 (red25 n) < 115792089237316195423570985008687907853269984665640564039457584007913129639936 + 1482 := by
  generalize red25 n = m at *
  unfold red25; omega
 generalize red25 (red25 n) = m at *
 unfold red25; omega
theorem prod25_range (x y : Int) (hx : 0 ≤ x ∧ x < 115792089237316195423570985008687907853269984665640564039457584007913129639936) (hy : 0 ≤ y ∧ y < 115792089237316195423570985008687907853269984665640564039457584007913129639936) :
  0 ≤ prod25 x y ∧ prod25 x y < 115792089237316195423570985008687907853269984665640564039457584007913129639936 := by
 have h0 : 0 ≤ x * y := Int.mul_nonneg hx.1 hy.1
 have h1 : x * y ≤ 115792089237316195423570985008687907853269984665640564039457584007913129639935 * 115792089237316195423570985008687907853269984665640564039457584007913129639935 := Int.mul_le_mul (by omega) (by omega) hy.1 (by decide)
 exact red25_3 _ h0 (by omega)
end
section
theorem left_same {loc : Loc} {fm : Fm} {w : World} (hH : HRel loc fm (lkOf gl []) w) : Left gl (baseOf gl [] loc fm w) loc fm (lkOf gl []) w := by
 refine ⟨fun i hi => ⟨rfl, ?_⟩, hH, fun i b hb hm _ => ?_, fun b l h => Or.inl h, fun b l h => h, ⟨rfl, rfl, rfl, Nat.le_refl _, fun k _ _ => rfl⟩⟩
 ·have hi : i < gl.length + ([] : List Blk).length := hi
  unfold lkOf
  rw [if_pos (by simpa using hi), List.getElem?_eq_getElem (by simpa using hi)]
  rfl
 ·unfold lkOf at hb
  split at hb
  ·rw [gl_ro i b hb] at hm
   cases hm
  ·simp at hb
def carI (x y c : Int) : Int := bi (decide (b64 ≤ x + y + c))
def addI (x y c : Int) : Int := (x + y + c) % b64
def subI (x y c : Int) : Int := (x + b64 - y - c) % b64
def borI (x y c : Int) : Int := bi (decide (x < y + c))
theorem vts3 {loc : Loc} {fm : Fm} {lk : Lk} {l1 l2 l3 : Bool} {x y c : Int} {vs : List Value} (h : VTs loc fm lk [.int l1 .u64 x, .int l2 .u64 y, .int l3 .u64 c] vs) :
  vs = [.int .u64 x, .int .u64 y, .int .u64 c] ∧ (0 ≤ x ∧ x < 18446744073709551616) ∧ (0 ≤ y ∧ y < 18446744073709551616) := by
 obtain ⟨v1, r1, rfl, ⟨e1, w1⟩, v2, r2, rfl, ⟨e2, w2⟩, v3, r3, rfl, ⟨e3, w3⟩, rfl⟩ := h
 cases e1; cases e2; cases e3
 exact ⟨rfl, wf_u64.1 w1, wf_u64.1 w2⟩
theorem vr2 {loc : Loc} {fm : Fm} {lk : Lk} {x y : Int} (hx : 0 ≤ x ∧ x < 18446744073709551616) (hy : 0 ≤ y ∧ y < 18446744073709551616) : VR loc fm lk (.tup [.int false .u64 x, .int false .u64 y]) (.tuple #[.int .u64 x, .int .u64 y]) :=
 ⟨[.int .u64 x, .int .u64 y], rfl, _, _, rfl, ⟨rfl, wf_u64.2 hx⟩, _, _, rfl, ⟨rfl, wf_u64.2 hy⟩, rfl⟩
def sub64Entry : Array Value → Sem Value := fun args => do
 let (x, y, b) ← Extern.MathBitsCarry.three "Sub64" args
 pure (Extern.MathBitsCarry.pair ((x + Extern.MathBitsCarry.m64 - y - b) % Extern.MathBitsCarry.m64) (if x < y + b then 1 else 0))
theorem run_sub64 {P : Program} (x y c : Int) (hx : 0 ≤ x) (hy : 0 ≤ y) (hy' : y < 18446744073709551616) (hc0 : 0 ≤ c) (hc : c ≤ 1) (w : World) :
  (sub64Entry #[.int .u64 x, .int .u64 y, .int .u64 c]).run P w =
   .ok (.tuple #[.int .u64 ((x + 18446744073709551616 - y - c) % 18446744073709551616), .int .u64 (if x < y + c then 1 else 0)]) w := by
 have key : ∀ k : Nat, k ≤ 1 → (sub64Entry #[.int .u64 x, .int .u64 y, .int .u64 (k : Int)]).run P w =
   .ok (Extern.MathBitsCarry.pair ((x.toNat + Extern.MathBitsCarry.m64 - y.toNat - k) % Extern.MathBitsCarry.m64) (if x.toNat < y.toNat + k then 1 else 0)) w := by
  intro k hk
  have : k = 0 ∨ k = 1 := by omega
  rcases this with rfl | rfl <;> rfl
 obtain ⟨k, rfl⟩ := Int.eq_ofNat_of_zero_le hc0
 rw [key k (by omega)]
 obtain ⟨X, rfl⟩ := Int.eq_ofNat_of_zero_le hx
 obtain ⟨Y, rfl⟩ := Int.eq_ofNat_of_zero_le hy
 simp only [Extern.MathBitsCarry.pair, Extern.MathBitsCarry.m64, Int.toNat_natCast]
 congr 4
 ·simp; omega
 ·by_cases h : X < Y + k
  ·rw [if_pos h, if_pos (by omega)]; rfl
  ·rw [if_neg h, if_neg (by omega)]; rfl
noncomputable def FAdd : Spec := fun args mem => match args, mem with
 | [.int _ .u64 x, .int _ .u64 y, .int _ .u64 c], [] => .ob (0 ≤ c ∧ c ≤ 1) (.leaf ⟨.tup [.int false .u64 (addI x y c), .int false .u64 (carI x y c)], []⟩)
 | _, _ => .fail
noncomputable def FSub : Spec := fun args mem => match args, mem with
 | [.int _ .u64 x, .int _ .u64 y, .int _ .u64 c], [] => .ob (0 ≤ c ∧ c ≤ 1) (.leaf ⟨.tup [.int false .u64 (subI x y c), .int false .u64 (borI x y c)], []⟩)
 | _, _ => .fail
theorem fadd_ok : FnOk Tryz.prog gl 242 FAdd := by
 intro args mem r h
 unfold FAdd at h
 split at h
 case h_2 => exact h.elim
 rename_i l1 x l2 y l3 c
 obtain ⟨⟨c0, c1⟩, h⟩ := Tr.is_ob.1 h
 have h := Tr.is_leaf.1 h
 subst h
 intro loc fm w vs hV hH hg
 obtain ⟨rfl, hx, hy⟩ := vts3 hV
 refine Or.inr ⟨.tuple #[.int .u64 ((x + y + c) % 18446744073709551616), .int .u64 ((x + y + c) / 18446744073709551616)], w, ?_, ?_⟩
 ·exact (run_callFunc_extern (e := add64Entry) Tryz.func242 (by kernel_rfl) (by kernel_rfl) (by kernel_rfl) (by kernel_rfl) _ w).trans (by rw [run_add64 x y c hx.1 hy.1 c0 c1 w]; rfl)
 ·refine ⟨_, loc, fm, rfl, ?_, left_same hH⟩
  have e : (x + y + c) / 18446744073709551616 = carI x y c := by
   unfold carI b64
   by_cases h : 18446744073709551616 ≤ x + y + c
   ·rw [decide_eq_true h, show bi true = 1 from rfl]; omega
   ·rw [decide_eq_false h, show bi false = 0 from rfl]; omega
  rw [e]
  show VR loc fm _ _ (.tuple #[.int .u64 (addI x y c), .int .u64 (carI x y c)])
  exact vr2 (by unfold addI b64; omega) (by have := bi_range (decide (b64 ≤ x + y + c)); unfold carI; omega)
theorem fsub_ok : FnOk Tryz.prog gl 244 FSub := by
 intro args mem r h
 unfold FSub at h
 split at h
 case h_2 => exact h.elim
 rename_i l1 x l2 y l3 c
 obtain ⟨⟨c0, c1⟩, h⟩ := Tr.is_ob.1 h
 have h := Tr.is_leaf.1 h
 subst h
 intro loc fm w vs hV hH hg
 obtain ⟨rfl, hx, hy⟩ := vts3 hV
 have run : (sub64Entry #[.int .u64 x, .int .u64 y, .int .u64 c]).run Tryz.prog w = .ok (.tuple #[.int .u64 (subI x y c), .int .u64 (borI x y c)]) w := by
  rw [run_sub64 x y c hx.1 hy.1 hy.2 c0 c1 w]
  have e : (if x < y + c then (1 : Int) else 0) = borI x y c := by
   unfold borI
   by_cases h : x < y + c
   ·rw [if_pos h, decide_eq_true h]; rfl
   ·rw [if_neg h, decide_eq_false h]; rfl
  rw [e]
  rfl
 refine Or.inr ⟨.tuple #[.int .u64 (subI x y c), .int .u64 (borI x y c)], w, ?_, ?_⟩
 ·exact (run_callFunc_extern (e := sub64Entry) Tryz.func244 (by kernel_rfl) (by kernel_rfl) (by kernel_rfl) (by kernel_rfl) _ w).trans (by rw [run]; rfl)
 ·refine ⟨_, loc, fm, rfl, ?_, left_same hH⟩
  exact vr2 (by unfold subI b64; omega) (by have := bi_range (decide (x < y + c)); unfold borI; omega)
theorem conj_rep {p : Prop} (h : p) : ∀ n : Nat, Conj (List.replicate n p)
 | 0 => trivial
 | n + 1 => ⟨h, conj_rep h n⟩
noncomputable def FMul64 : Spec := fun args mem => match args, mem with
 | [.int _ .u64 x, .int _ .u64 y], [] => .leaf ⟨.tup [.int false .u64 (x * y / b64), .int false .u64 (x * y % b64)], []⟩
 | _, _ => .fail
theorem mul64_run (x y : Int) : Goes (callRun tc ((env []).fn 20) Tryz.f245 1000 [.int false .u64 x, .int false .u64 y] []) [] (List.replicate 5 ((0 : Int) ≤ 32)) ⟨.tup [.int false .u64 (mulHiR x y), .int false .u64 (IntKind.u64.wrap (x * y))], []⟩ := by
 unfold Goes
 kernel_rfl
theorem fmul64_ok : FnOk Tryz.prog gl 245 FMul64 := by
 intro args mem r h
 unfold FMul64 at h
 split at h
 case h_2 => exact h.elim
 rename_i l1 x l2 y
 have h := Tr.is_leaf.1 h
 subst h
 refine con_wf fun hw _ => ?_
 obtain ⟨hx, hx1⟩ := wf_u64.1 hw.1
 obtain ⟨hy, hy1⟩ := wf_u64.1 hw.2.1
 have con := con_goes cons0 Tryz.func245 1000 (mul64_run x y) (conj_rep (by decide) 5)
 have h := mul64_arith x y hx hx1 hy hy1
 have a1 := and_low32 x hx hx1
 have a2 := and_low32 y hy hy1
 have e : mulHiR x y = x * y / b64 := by
  unfold mulHiR b64
  simp only [u64wm, fdiv32, a1, a2]
  rw [and_low32 _ (by omega) (by omega)]
  rw [← h]
 rw [e, u64wm] at con
 exact con_to con
noncomputable def FA1 (k k' : IntKind) (n n' : Nat) (g : List Int → List Int) : Spec := fun args mem => match args, mem with
 | [.arr _ k0 m l], [] => match decide (k0 = k) && Nat.beq m n with
  | true => .leaf ⟨.arr false k' n' (g l), []⟩
  | false => .fail
 | _, _ => .fail
noncomputable def FA2 (k k1 k' : IntKind) (n n1 n' : Nat) (g : List Int → List Int → List Int) : Spec := fun args mem => match args, mem with
 | [.arr _ k0 m l, .arr _ k2 m1 l'], [] => match decide (k0 = k) && decide (k2 = k1) && Nat.beq m n && Nat.beq m1 n1 with
  | true => .leaf ⟨.arr false k' n' (g l l'), []⟩
  | false => .fail
 | _, _ => .fail
theorem fnOk_A1 {f : FuncId} {k k' : IntKind} {n n' : Nat} {g : List Int → List Int} (h : ∀ l : List Int, l.length = n → (∀ x ∈ l, wf k x) → Con Tryz.prog gl f [.arr false k n l] [] ⟨.arr false k' n' (g l), []⟩) : FnOk Tryz.prog gl f (FA1 k k' n n' g) := by
 intro args mem r hr
 unfold FA1 at hr
 split at hr
 case h_2 => exact hr.elim
 rename_i o k0 m l
 split at hr
 case h_2 => exact hr.elim
 rename_i hc
 simp only [Bool.and_eq_true] at hc
 have e1 := of_decide_eq_true hc.1
 have e2 := Nat.eq_of_beq_eq_true hc.2
 subst e1 e2
 have hr := Tr.is_leaf.1 hr
 subst hr
 exact con_wf fun hw _ => con_to (h l hw.1.1 hw.1.2)
theorem fnOk_A2 {f : FuncId} {k k1 k' : IntKind} {n n1 n' : Nat} {g : List Int → List Int → List Int}
  (h : ∀ l l' : List Int, l.length = n → l'.length = n1 → (∀ x ∈ l, wf k x) → (∀ x ∈ l', wf k1 x) → Con Tryz.prog gl f [.arr false k n l, .arr false k1 n1 l'] [] ⟨.arr false k' n' (g l l'), []⟩) : FnOk Tryz.prog gl f (FA2 k k1 k' n n1 n' g) := by
 intro args mem r hr
 unfold FA2 at hr
 split at hr
 case h_2 => exact hr.elim
 rename_i o k0 m l o' k2 m1 l'
 split at hr
 case h_2 => exact hr.elim
 rename_i hc
 simp only [Bool.and_eq_true] at hc
 have e0 := of_decide_eq_true hc.1.1.1
 have e1 := of_decide_eq_true hc.1.1.2
 have e2 := Nat.eq_of_beq_eq_true hc.1.2
 have e3 := Nat.eq_of_beq_eq_true hc.2
 subst e0 e1 e2 e3
 have hr := Tr.is_leaf.1 hr
 subst hr
 exact con_wf fun hw _ => con_to (h l l' hw.1.1 hw.2.1.1 hw.1.2 hw.2.1.2)
end
section
def sh7 : List Prop := [(0 : Int) ≤ 8, (0 : Int) ≤ 16, (0 : Int) ≤ 24, (0 : Int) ≤ 32, (0 : Int) ≤ 40, (0 : Int) ≤ 48, (0 : Int) ≤ 56]
theorem sh7_ok : Conj sh7 := by unfold sh7; refine ⟨?_, ?_, ?_, ?_, ?_, ?_, ?_, trivial⟩ <;> decide
def sh8 : List Prop := ((0 : Int) ≤ 0) :: sh7
theorem sh8_ok : Conj sh8 := ⟨by decide, sh7_ok⟩
def o01 (c : Int) : Prop := 0 ≤ c ∧ c ≤ 1
theorem o01_bi (b : Bool) : o01 (bi b) := bi_range b
theorem o01_0 : o01 0 := ⟨by decide, by decide⟩
noncomputable abbrev fLoad : Spec := FA1 .u8 .u64 32 4 fun l => wordsOf 4 (num l)
theorem load_run (a0 a1 a2 a3 a4 a5 a6 a7 b0 b1 b2 b3 b4 b5 b6 b7 c0 c1 c2 c3 c4 c5 c6 c7 d0 d1 d2 d3 d4 d5 d6 d7 : Int) : Goes (callRun tc ((env []).fn 20) Tryz.f201 1000 [.arr false .u8 32 [a0, a1, a2, a3, a4, a5, a6, a7, b0, b1, b2, b3, b4, b5, b6, b7, c0, c1, c2, c3, c4, c5, c6, c7, d0, d1, d2, d3, d4, d5, d6, d7]] []) [] (sh7 ++ (sh7 ++ (sh7 ++ sh7)))
  ⟨.arr false .u64 4 [orW 1 (IntKind.u64.wrap a0) [a1, a2, a3, a4, a5, a6, a7], orW 1 (IntKind.u64.wrap b0) [b1, b2, b3, b4, b5, b6, b7], orW 1 (IntKind.u64.wrap c0) [c1, c2, c3, c4, c5, c6, c7], orW 1 (IntKind.u64.wrap d0) [d1, d2, d3, d4, d5, d6, d7]], []⟩ := by
 unfold Goes
 kernel_rfl
theorem orW8 (a0 a1 a2 a3 a4 a5 a6 a7 : Int) (h : ∀ x ∈ [a0, a1, a2, a3, a4, a5, a6, a7], 0 ≤ x ∧ x < 256) :
  orW 1 (IntKind.u64.wrap a0) [a1, a2, a3, a4, a5, a6, a7] = num [a0, a1, a2, a3, a4, a5, a6, a7] ∧ W (num [a0, a1, a2, a3, a4, a5, a6, a7]) := by
 have h0 := h a0 (by simp)
 have r := num_range _ h
 have h8 : (256 : Int) ^ 8 = 18446744073709551616 := by decide
 have e8 : [a0, a1, a2, a3, a4, a5, a6, a7].length = 8 := rfl
 rw [e8, h8] at r
 refine ⟨?_, r⟩
 rw [u64w a0 h0.1 (by omega), orW_num _ 1 a0 (by simp) (fun x hx => h x (List.mem_cons_of_mem _ hx)) h0.1 (by rw [show (2 : Int) ^ (8 * 1) = 256 by decide]; exact h0.2), show (2 : Int) ^ (8 * 1) = 256 by decide]
 rfl
theorem load_ok : FnOk Tryz.prog gl 201 fLoad := by
 refine fnOk_A1 fun l hl hw => ?_
 obtain ⟨a0, a1, a2, a3, a4, a5, a6, a7, b0, b1, b2, b3, b4, b5, b6, b7, c0, c1, c2, c3, c4, c5, c6, c7, d0, d1, d2, d3, d4, d5, d6, d7, rfl⟩ := list32 hl
 have con := con_goes cons0 Tryz.func201 1000 (load_run a0 a1 a2 a3 a4 a5 a6 a7 b0 b1 b2 b3 b4 b5 b6 b7 c0 c1 c2 c3 c4 c5 c6 c7 d0 d1 d2 d3 d4 d5 d6 d7) (Conj.app sh7_ok (Conj.app sh7_ok (Conj.app sh7_ok sh7_ok)))
 have key : [orW 1 (IntKind.u64.wrap a0) [a1, a2, a3, a4, a5, a6, a7], orW 1 (IntKind.u64.wrap b0) [b1, b2, b3, b4, b5, b6, b7], orW 1 (IntKind.u64.wrap c0) [c1, c2, c3, c4, c5, c6, c7], orW 1 (IntKind.u64.wrap d0) [d1, d2, d3, d4, d5, d6, d7]] = wordsOf 4 (num [a0, a1, a2, a3, a4, a5, a6, a7, b0, b1, b2, b3, b4, b5, b6, b7, c0, c1, c2, c3, c4, c5, c6, c7, d0, d1, d2, d3, d4, d5, d6, d7]) := by
  have hb : ∀ x ∈ [a0, a1, a2, a3, a4, a5, a6, a7, b0, b1, b2, b3, b4, b5, b6, b7, c0, c1, c2, c3, c4, c5, c6, c7, d0, d1, d2, d3, d4, d5, d6, d7], 0 ≤ x ∧ x < 256 := fun x hx => wf_u8.1 (hw x hx)
  have e : ([a0, a1, a2, a3, a4, a5, a6, a7, b0, b1, b2, b3, b4, b5, b6, b7, c0, c1, c2, c3, c4, c5, c6, c7, d0, d1, d2, d3, d4, d5, d6, d7] : List Int) =
   [a0, a1, a2, a3, a4, a5, a6, a7] ++ ([b0, b1, b2, b3, b4, b5, b6, b7] ++ ([c0, c1, c2, c3, c4, c5, c6, c7] ++ [d0, d1, d2, d3, d4, d5, d6, d7])) := rfl
  rw [e] at hb
  have ra := orW8 a0 a1 a2 a3 a4 a5 a6 a7 (fun x hx => hb x (List.mem_append_left _ hx))
  have rb := orW8 b0 b1 b2 b3 b4 b5 b6 b7 (fun x hx => hb x (List.mem_append_right _ (List.mem_append_left _ hx)))
  have rc := orW8 c0 c1 c2 c3 c4 c5 c6 c7 (fun x hx => hb x (List.mem_append_right _ (List.mem_append_right _ (List.mem_append_left _ hx))))
  have rd := orW8 d0 d1 d2 d3 d4 d5 d6 d7 (fun x hx => hb x (List.mem_append_right _ (List.mem_append_right _ (List.mem_append_right _ hx))))
  rw [e, num_append, num_append, num_append, ra.1, rb.1, rc.1, rd.1]
  have h88 : (256 : Int) ^ 8 = 18446744073709551616 := by decide
  have h8 : ∀ x0 x1 x2 x3 x4 x5 x6 x7 : Int, (256 : Int) ^ [x0, x1, x2, x3, x4, x5, x6, x7].length = 18446744073709551616 := fun _ _ _ _ _ _ _ _ => h88
  rw [h8, h8, h8]
  have r4 := wnum4_range ra.2 rb.2 rc.2 rd.2
  refine words4_eq ra.2 rb.2 rc.2 rd.2 ?_
  generalize num [a0, a1, a2, a3, a4, a5, a6, a7] = p at *
  generalize num [b0, b1, b2, b3, b4, b5, b6, b7] = q at *
  generalize num [c0, c1, c2, c3, c4, c5, c6, c7] = r at *
  generalize num [d0, d1, d2, d3, d4, d5, d6, d7] = s at *
  simp only [wnum] at *
  omega
 rw [key] at con
 exact con
noncomputable abbrev fStore : Spec := FA1 .u64 .u8 4 32 fun l => bytesOf 32 (wnum l)
theorem store_run (a b c d : Int) : Goes (callRun tc ((env []).fn 20) Tryz.f198 1000 [.arr false .u64 4 [a, b, c, d]] []) [] (sh8 ++ (sh8 ++ (sh8 ++ sh8))) ⟨.arr false .u8 32 (stFrom a 0 8 ++ (stFrom b 0 8 ++ (stFrom c 0 8 ++ stFrom d 0 8))), []⟩ := by
 unfold Goes
 kernel_rfl
theorem store_ok : FnOk Tryz.prog gl 198 fStore := by
 refine fnOk_A1 fun l hl hw => ?_
 obtain ⟨a, b, c, d, rfl⟩ := list4 hl
 have con := con_goes cons0 Tryz.func198 1000 (store_run a b c d) (Conj.app sh8_ok (Conj.app sh8_ok (Conj.app sh8_ok sh8_ok)))
 have ha := wf_u64.1 (hw a (by simp))
 have hb := wf_u64.1 (hw b (by simp))
 have hc := wf_u64.1 (hw c (by simp))
 have key : stFrom a 0 8 ++ (stFrom b 0 8 ++ (stFrom c 0 8 ++ stFrom d 0 8)) = bytesOf 32 (wnum [a, b, c, d]) := by
  simp only [stFrom_bytes, wnum]
  rw [show (32 : Nat) = 8 + (8 + (8 + 8)) by rfl, bytesOf_word _ _ _ ha.1 ha.2, bytesOf_word _ _ _ hb.1 hb.2, bytesOf_word _ _ _ hc.1 hc.2]
  simp [bytesOf]
 rw [key] at con
 exact con
noncomputable def fMore : Spec := fun args mem => match args, mem with
 | [.arr _ .u64 4 l, .int _ .u64 ab], [] => .leaf ⟨.arr false .u64 4 (wordsOf 4 (red25 (wnum l + 38 * ab))), []⟩
 | _, _ => .fail
noncomputable abbrev kMore : Cons := [(245, FMul64), (242, FAdd)]
def obCar (x0 x1 x2 y0 y1 y2 : Int) : List Prop := [o01 0, o01 (bi (carry x0 y0 false)), o01 (bi (carry x1 y1 (carry x0 y0 false))), o01 (bi (carry x2 y2 (carry x1 y1 (carry x0 y0 false))))]
theorem obCar_ok (x0 x1 x2 y0 y1 y2 : Int) : Conj (obCar x0 x1 x2 y0 y1 y2) := ⟨o01_0, o01_bi _, o01_bi _, o01_bi _, trivial⟩
def obBor (x0 x1 x2 y0 y1 y2 : Int) : List Prop := [o01 0, o01 (bi (borrow x0 y0 false)), o01 (bi (borrow x1 y1 (borrow x0 y0 false))), o01 (bi (borrow x2 y2 (borrow x1 y1 (borrow x0 y0 false))))]
theorem obBor_ok (x0 x1 x2 y0 y1 y2 : Int) : Conj (obBor x0 x1 x2 y0 y1 y2) := ⟨o01_0, o01_bi _, o01_bi _, o01_bi _, trivial⟩
def obMr (w : List Int) (ab : Int) : List Prop := obCar (w.getD 0 0) (w.getD 1 0) (w.getD 2 0) (ab * 38 % b64) (ab * 38 / b64) 0
theorem more_run (a b c d ab : Int) : Goes (callRun tc ((env kMore).fn 20) Tryz.f243 1000 [.arr false .u64 4 [a, b, c, d], .int false .u64 ab] []) [] (obMr [a, b, c, d] ab ++ obMr (moreR1 [a, b, c, d] ab).1 (moreR1 [a, b, c, d] ab).2) ⟨.arr false .u64 4 (moreR [a, b, c, d] ab), []⟩ := by
 unfold Goes
 kernel_rfl
theorem consOk_of {l : Cons} (h : ∀ p ∈ l, FnOk Tryz.prog gl p.1 p.2) (hr : l.all (fun p => !memN p.1 ros) = true) : ConsOk l :=
 ⟨h, fun p hp hm => by
  have := List.all_eq_true.1 hr p hp
  rw [hm] at this
  cases this⟩
theorem kMore_ok : ConsOk kMore := consOk_of (fun p hp => by
 simp only [kMore, List.mem_cons, List.not_mem_nil, or_false] at hp
 rcases hp with rfl | rfl
 ·exact fmul64_ok
 ·exact fadd_ok) (by decide)
theorem more_ok : FnOk Tryz.prog gl 243 fMore := by
 intro args mem r h
 unfold fMore at h
 split at h
 case h_2 => exact h.elim
 rename_i o l o' ab
 have h := Tr.is_leaf.1 h
 subst h
 refine con_wf fun hw _ => ?_
 obtain ⟨a, b, c, d, rfl⟩ := list4 hw.1.1
 have hl := hw.1.2
 have e := moreR_eq a b c d ab (wf_u64.1 (hl a (by simp))) (wf_u64.1 (hl b (by simp))) (wf_u64.1 (hl c (by simp))) (wf_u64.1 (hl d (by simp))) (wf_u64.1 hw.2.1)
 have con := con_goes kMore_ok Tryz.func243 1000 (more_run a b c d ab) (Conj.app (obCar_ok ..) (obCar_ok ..))
 rw [e] at con
 exact con_to con
noncomputable abbrev kSub : Cons := [(244, FSub)]
theorem kSub_ok : ConsOk kSub := consOk_of (fun p hp => by
 simp only [kSub, List.mem_cons, List.not_mem_nil, or_false] at hp
 subst hp
 exact fsub_ok) (by decide)
noncomputable abbrev fLess : Spec := FA1 .u64 .u64 4 4 fun l => wordsOf 4 (less25 (wnum l))
theorem less_run (a b c d : Int) : Goes (callRun tc ((env kSub).fn 20) Tryz.f241 1000 [.arr false .u64 4 [a, b, c, d]] []) [] (obBor a b c 18446744073709551597 18446744073709551615 18446744073709551615) ⟨.arr false .u64 4 (lessR [a, b, c, d]), []⟩ := by
 unfold Goes
 kernel_rfl
theorem less_ok : FnOk Tryz.prog gl 241 fLess := by
 refine fnOk_A1 fun l hl hw => ?_
 obtain ⟨a, b, c, d, rfl⟩ := list4 hl
 have con := con_goes kSub_ok Tryz.func241 1000 (less_run a b c d) (obBor_ok ..)
 rw [lessR_eq a b c d (wf_u64.1 (hw a (by simp))) (wf_u64.1 (hw b (by simp))) (wf_u64.1 (hw c (by simp))) (wf_u64.1 (hw d (by simp)))] at con
 exact con
noncomputable abbrev fCanonW : Spec := FA1 .u64 .u64 4 4 fun l => wordsOf 4 (wnum l % p25)
noncomputable abbrev kLess : Cons := [(241, fLess)]
theorem kLess_ok : ConsOk kLess := consOk_of (fun p hp => by
 simp only [kLess, List.mem_cons, List.not_mem_nil, or_false] at hp
 subst hp
 exact less_ok) (by decide)
theorem canonW_run (a b c d : Int) : Goes (callRun tc ((env kLess).fn 20) Tryz.f199 1000 [.arr false .u64 4 [a, b, c, d]] []) [] [] ⟨.arr false .u64 4 (wordsOf 4 (less25 (wnum (wordsOf 4 (less25 (wnum [a, b, c, d])))))), []⟩ := by
 unfold Goes
 kernel_rfl
theorem canonW_ok : FnOk Tryz.prog gl 199 fCanonW := by
 refine fnOk_A1 fun l hl hw => ?_
 obtain ⟨a, b, c, d, rfl⟩ := list4 hl
 have r := wnum4_range (wf_u64.1 (hw a (by simp))) (wf_u64.1 (hw b (by simp))) (wf_u64.1 (hw c (by simp))) (wf_u64.1 (hw d (by simp)))
 have r2 := less25_range _ r.1 r.2
 have con := con_goes kLess_ok Tryz.func199 1000 (canonW_run a b c d) trivial
 rw [wnum_wordsOf4, Int.emod_eq_of_lt r2.1 r2.2, less25_twice _ r.1 r.2] at con
 exact con
noncomputable abbrev fSumW : Spec := FA2 .u64 .u64 .u64 4 4 4 fun l m => wordsOf 4 (red25 (red25 (wnum l + wnum m)))
noncomputable abbrev kSum : Cons := [(243, fMore), (242, FAdd), (245, FMul64)]
theorem kSum_ok : ConsOk kSum := consOk_of (fun p hp => by
 simp only [kSum, List.mem_cons, List.not_mem_nil, or_false] at hp
 rcases hp with rfl | rfl | rfl
 ·exact more_ok
 ·exact fadd_ok
 ·exact fmul64_ok) (by decide)
theorem sumW_run (a b c d e f g i : Int) : Goes (callRun tc ((env kSum).fn 20) Tryz.f200 1000 [.arr false .u64 4 [a, b, c, d], .arr false .u64 4 [e, f, g, i]] []) [] (obCar a b c e f g)
  ⟨.arr false .u64 4 (wordsOf 4 (red25 (wnum (sumR [a, b, c, d] [e, f, g, i]).1 + 38 * (sumR [a, b, c, d] [e, f, g, i]).2))), []⟩ := by
 unfold Goes
 kernel_rfl
theorem sumW_ok : FnOk Tryz.prog gl 200 fSumW := by
 refine fnOk_A2 fun l m hl hm hw hw' => ?_
 obtain ⟨a, b, c, d, rfl⟩ := list4 hl
 obtain ⟨e, f, g, i, rfl⟩ := list4 hm
 have con := con_goes kSum_ok Tryz.func200 1000 (sumW_run a b c d e f g i) (obCar_ok ..)
 rw [more_sum a b c d e f g i (wf_u64.1 (hw a (by simp))) (wf_u64.1 (hw b (by simp))) (wf_u64.1 (hw c (by simp))) (wf_u64.1 (hw d (by simp))) (wf_u64.1 (hw' e (by simp))) (wf_u64.1 (hw' f (by simp))) (wf_u64.1 (hw' g (by simp))) (wf_u64.1 (hw' i (by simp)))] at con
 exact con
noncomputable abbrev fMinus : Spec := FA1 .u64 .u64 4 4 fun l => wordsOf 4 (p25 - wnum l)
theorem minus_run (a b c d : Int) : Goes (callRun tc ((env kSub).fn 20) Tryz.f202 1000 [.arr false .u64 4 [a, b, c, d]] []) [] (obBor 18446744073709551597 18446744073709551615 18446744073709551615 a b c) ⟨.arr false .u64 4 (minusR [a, b, c, d]), []⟩ := by
 unfold Goes
 kernel_rfl
theorem minus_ok : FnOk Tryz.prog gl 202 fMinus := by
 refine fnOk_A1 fun l hl hw => ?_
 obtain ⟨a, b, c, d, rfl⟩ := list4 hl
 have con := con_goes kSub_ok Tryz.func202 1000 (minus_run a b c d) (obBor_ok ..)
 rw [minusR_eq a b c d (wf_u64.1 (hw a (by simp))) (wf_u64.1 (hw b (by simp))) (wf_u64.1 (hw c (by simp))) (wf_u64.1 (hw d (by simp)))] at con
 exact con
noncomputable abbrev fProd : Spec := FA2 .u64 .u64 .u64 4 4 4 fun l m => wordsOf 4 (prod25 (wnum l) (wnum m))
theorem prod_run (a b c d e f g i : Int) : Goes (callRun tc ((env kSum).fn 20) Tryz.f203 1000 [.arr false .u64 4 [a, b, c, d], .arr false .u64 4 [e, f, g, i]] []) [] (List.replicate 40 (o01 0))
  ⟨.arr false .u64 4 (wordsOf 4 (red25 (wnum (lowR (prodR [a, b, c, d] [e, f, g, i])).1 + 38 * (lowR (prodR [a, b, c, d] [e, f, g, i])).2))), []⟩ := by
 unfold Goes
 kernel_rfl
theorem prod_ok : FnOk Tryz.prog gl 203 fProd := by
 refine fnOk_A2 fun l m hl hm hw hw' => ?_
 obtain ⟨a, b, c, d, rfl⟩ := list4 hl
 obtain ⟨e, f, g, i, rfl⟩ := list4 hm
 have con := con_goes kSum_ok Tryz.func203 1000 (prod_run a b c d e f g i) (conj_rep o01_0 40)
 have key : wordsOf 4 (red25 (wnum (lowR (prodR [a, b, c, d] [e, f, g, i])).1 + 38 * (lowR (prodR [a, b, c, d] [e, f, g, i])).2)) = wordsOf 4 (prod25 (wnum [a, b, c, d]) (wnum [e, f, g, i])) := by
  obtain ⟨t0, t1, t2, t3, t4, t5, t6, t7, ht, w0, w1, w2, w3, w4, w5, w6, w7, hn⟩ := prodR_eq a b c d e f g i (wf_u64.1 (hw a (by simp))) (wf_u64.1 (hw b (by simp))) (wf_u64.1 (hw c (by simp))) (wf_u64.1 (hw d (by simp))) (wf_u64.1 (hw' e (by simp))) (wf_u64.1 (hw' f (by simp))) (wf_u64.1 (hw' g (by simp))) (wf_u64.1 (hw' i (by simp)))
  obtain ⟨x0, x1, x2, x3, k, hx, v0, v1, v2, v3, vk, hn2⟩ := lowR_eq t0 t1 t2 t3 t4 t5 t6 t7 w0 w1 w2 w3 w4 w5 w6 w7
  unfold prod25
  rw [ht, hx, hn]
  have r1 := wnum4_range w0 w1 w2 w3
  have r2 := wnum4_range w4 w5 w6 w7
  have r3 := wnum4_range v0 v1 v2 v3
  generalize wnum [t0, t1, t2, t3] = lo at *
  generalize wnum [t4, t5, t6, t7] = hi at *
  generalize wnum [x0, x1, x2, x3] = x at *
  have e1 : red25 (lo + 115792089237316195423570985008687907853269984665640564039457584007913129639936 * hi) = x + 115792089237316195423570985008687907853269984665640564039457584007913129639936 * k := by
   rw [← hn2]
   unfold red25
   omega
  have e2 : red25 (x + 115792089237316195423570985008687907853269984665640564039457584007913129639936 * k) = x + 38 * k := by
   unfold red25
   omega
  rw [e1, e2]
 rw [key] at con
 exact con
def cC (l : List Int) : List Int := bytesOf 32 (num l % p25)
def cA (l m : List Int) : List Int := bytesOf 32 ((num l + num m) % p25)
def cS (l m : List Int) : List Int := bytesOf 32 ((num l - num m) % p25)
def cM (l m : List Int) : List Int := bytesOf 32 ((num l * num m) % p25)
noncomputable abbrev kWord : Cons := [(201, fLoad), (198, fStore), (199, fCanonW), (200, fSumW), (202, fMinus), (203, fProd)]
theorem kWord_ok : ConsOk kWord := consOk_of (fun p hp => by
 simp only [kWord, List.mem_cons, List.not_mem_nil, or_false] at hp
 rcases hp with rfl | rfl | rfl | rfl | rfl | rfl
 ·exact load_ok
 ·exact store_ok
 ·exact canonW_ok
 ·exact sumW_ok
 ·exact minus_ok
 ·exact prod_ok) (by decide)
theorem num32_range {l : List Int} (hl : l.length = 32) (hw : ∀ x ∈ l, wf .u8 x) : 0 ≤ num l ∧ num l < 115792089237316195423570985008687907853269984665640564039457584007913129639936 := by
 have := num_range l (fun x hx => wf_u8.1 (hw x hx))
 rw [hl, show (256 : Int) ^ 32 = 115792089237316195423570985008687907853269984665640564039457584007913129639936 by decide] at this
 exact this
theorem mod25 (n : Int) : 0 ≤ n % p25 ∧ n % p25 < 115792089237316195423570985008687907853269984665640564039457584007913129639936 :=
 ⟨Int.emod_nonneg _ (by decide), Int.lt_of_lt_of_le (Int.emod_lt_of_pos _ (by decide)) (by decide)⟩
theorem wnum_small {n : Int} (h : 0 ≤ n ∧ n < 115792089237316195423570985008687907853269984665640564039457584007913129639936) : wnum (wordsOf 4 n) = n := by
 rw [wnum_wordsOf4, Int.emod_eq_of_lt h.1 h.2]
noncomputable abbrev fCanon : Spec := FA1 .u8 .u8 32 32 cC
theorem canon_run (l : List Int) : Goes (callRun tc ((env kWord).fn 20) Tryz.f251 1000 [.arr false .u8 32 (tab 32 l)] []) [] [] ⟨.arr false .u8 32 (bytesOf 32 (wnum (wordsOf 4 (wnum (wordsOf 4 (num (tab 32 l))) % p25)))), []⟩ := by
 unfold Goes
 kernel_rfl
theorem canon_ok : FnOk Tryz.prog gl 251 fCanon := by
 refine fnOk_A1 fun l hl hw => ?_
 have con := con_goes kWord_ok Tryz.func251 1000 (canon_run l) trivial
 rw [tab_eq' hl] at con
 rw [wnum_small (num32_range hl hw), wnum_small (mod25 _)] at con
 exact con
theorem red2_range (n : Int) (h : 0 ≤ n) (h1 : n < 2 * 115792089237316195423570985008687907853269984665640564039457584007913129639936) : 0 ≤ red25 (red25 n) ∧ red25 (red25 n) < 115792089237316195423570985008687907853269984665640564039457584007913129639936 := by
 have a : 0 ≤ red25 n ∧ red25 n < 115792089237316195423570985008687907853269984665640564039457584007913129639936 + 38 := by unfold red25; omega
 generalize red25 n = m at *
 unfold red25; omega
theorem add_val (A B : Int) (hr : 0 ≤ A ∧ A < 115792089237316195423570985008687907853269984665640564039457584007913129639936) (hr' : 0 ≤ B ∧ B < 115792089237316195423570985008687907853269984665640564039457584007913129639936) :
  wnum (wordsOf 4 (wnum (wordsOf 4 (red25 (red25 (wnum (wordsOf 4 A) + wnum (wordsOf 4 B))))) % p25)) = (A + B) % p25 := by
 rw [wnum_small hr, wnum_small hr', wnum_small (red2_range _ (by omega) (by omega)), wnum_small (mod25 _), red25_mod, red25_mod]
noncomputable abbrev fAdd : Spec := FA2 .u8 .u8 .u8 32 32 32 cA
theorem add_run (l m : List Int) : Goes (callRun tc ((env kWord).fn 20) Tryz.f136 1000 [.arr false .u8 32 (tab 32 l), .arr false .u8 32 (tab 32 m)] []) [] [] ⟨.arr false .u8 32 (bytesOf 32 (wnum (wordsOf 4 (wnum (wordsOf 4 (red25 (red25 (wnum (wordsOf 4 (num (tab 32 l))) + wnum (wordsOf 4 (num (tab 32 m))))))) % p25)))), []⟩ := by
 unfold Goes
 kernel_rfl
theorem add_ok : FnOk Tryz.prog gl 136 fAdd := by
 refine fnOk_A2 fun l m hl hm hw hw' => ?_
 have con := con_goes kWord_ok Tryz.func136 1000 (add_run l m) trivial
 rw [tab_eq' hl, tab_eq' hm, add_val _ _ (num32_range hl hw) (num32_range hm hw')] at con
 exact con
theorem sub_val (A B : Int) (hr : 0 ≤ A ∧ A < 115792089237316195423570985008687907853269984665640564039457584007913129639936) (hr' : 0 ≤ B ∧ B < 115792089237316195423570985008687907853269984665640564039457584007913129639936) :
  wnum (wordsOf 4 (wnum (wordsOf 4 (red25 (red25 (wnum (wordsOf 4 A) + wnum (wordsOf 4 (p25 - wnum (wordsOf 4 (wnum (wordsOf 4 B) % p25)))))))) % p25)) = (A - B) % p25 := by
 have hp := Int.emod_lt_of_pos B (show (0 : Int) < p25 by decide)
 have hq := Int.emod_nonneg B (show p25 ≠ 0 by decide)
 have hpp : p25 < 115792089237316195423570985008687907853269984665640564039457584007913129639936 := by decide
 rw [wnum_small hr, wnum_small hr', wnum_small (mod25 B)]
 have h1 : 0 ≤ p25 - B % p25 ∧ p25 - B % p25 < 115792089237316195423570985008687907853269984665640564039457584007913129639936 := by omega
 rw [wnum_small h1, wnum_small (red2_range _ (by omega) (by omega)), wnum_small (mod25 _), red25_mod, red25_mod]
 have e : A + (p25 - B % p25) = (A - B) + p25 * (1 + B / p25) := by
  have := Int.mul_ediv_add_emod B p25
  rw [Int.mul_add]
  omega
 rw [e, Int.add_mul_emod_self_left]
noncomputable abbrev fSub : Spec := FA2 .u8 .u8 .u8 32 32 32 cS
theorem sub_run (l m : List Int) : Goes (callRun tc ((env kWord).fn 20) Tryz.f137 1000 [.arr false .u8 32 (tab 32 l), .arr false .u8 32 (tab 32 m)] []) [] [] ⟨.arr false .u8 32 (bytesOf 32 (wnum (wordsOf 4 (wnum (wordsOf 4 (red25 (red25 (wnum (wordsOf 4 (num (tab 32 l))) + wnum (wordsOf 4 (p25 - wnum (wordsOf 4 (wnum (wordsOf 4 (num (tab 32 m))) % p25)))))))) % p25)))), []⟩ := by
 unfold Goes
 kernel_rfl
theorem sub_ok : FnOk Tryz.prog gl 137 fSub := by
 refine fnOk_A2 fun l m hl hm hw hw' => ?_
 have con := con_goes kWord_ok Tryz.func137 1000 (sub_run l m) trivial
 rw [tab_eq' hl, tab_eq' hm, sub_val _ _ (num32_range hl hw) (num32_range hm hw')] at con
 exact con
theorem mul_val (A B : Int) (hr : 0 ≤ A ∧ A < 115792089237316195423570985008687907853269984665640564039457584007913129639936) (hr' : 0 ≤ B ∧ B < 115792089237316195423570985008687907853269984665640564039457584007913129639936) :
  wnum (wordsOf 4 (wnum (wordsOf 4 (prod25 (wnum (wordsOf 4 A)) (wnum (wordsOf 4 B)))) % p25)) = A * B % p25 := by
 rw [wnum_small hr, wnum_small hr', wnum_small (prod25_range _ _ hr hr'), wnum_small (mod25 _), prod25_mod]
noncomputable abbrev fMul : Spec := FA2 .u8 .u8 .u8 32 32 32 cM
theorem mul_run (l m : List Int) : Goes (callRun tc ((env kWord).fn 20) Tryz.f138 1000 [.arr false .u8 32 (tab 32 l), .arr false .u8 32 (tab 32 m)] []) [] [] ⟨.arr false .u8 32 (bytesOf 32 (wnum (wordsOf 4 (wnum (wordsOf 4 (prod25 (wnum (wordsOf 4 (num (tab 32 l)))) (wnum (wordsOf 4 (num (tab 32 m)))))) % p25)))), []⟩ := by
 unfold Goes
 kernel_rfl
theorem mul_ok : FnOk Tryz.prog gl 138 fMul := by
 refine fnOk_A2 fun l m hl hm hw hw' => ?_
 have con := con_goes kWord_ok Tryz.func138 1000 (mul_run l m) trivial
 rw [tab_eq' hl, tab_eq' hm, mul_val _ _ (num32_range hl hw) (num32_range hm hw')] at con
 exact con
noncomputable abbrev kMul : Cons := [(138, fMul)]
theorem kMul_ok : ConsOk kMul := consOk_of (fun p hp => by
 simp only [kMul, List.mem_cons, List.not_mem_nil, or_false] at hp
 subst hp
 exact mul_ok) (by decide)
noncomputable abbrev fSquare : Spec := FA1 .u8 .u8 32 32 fun l => cM l l
theorem square_run (l : List Int) : Goes (callRun tc ((env kMul).fn 20) Tryz.f139 1000 [.arr false .u8 32 l] []) [] [] ⟨.arr false .u8 32 (cM l l), []⟩ := by
 unfold Goes
 kernel_rfl
theorem square_ok : FnOk Tryz.prog gl 139 fSquare := fnOk_A1 fun l _ _ => con_goes kMul_ok Tryz.func139 1000 (square_run l) trivial
end
section
theorem pp (k : Nat) : (0 : Int) < 2 ^ k := Int.pow_pos (by decide)
def dig (w : Nat) (n : Int) (j : Nat) : Int := n / 2 ^ (w * j) % 2 ^ w
def digsFrom (w : Nat) (n : Int) : Nat → Nat → List Int
 | _, 0 => []
 | j, m + 1 => dig w n j :: digsFrom w n (j + 1) m
def digsOf (w k : Nat) (n : Int) : List Int := digsFrom w n 0 k
theorem digsFrom_get (w : Nat) (n : Int) : ∀ (m j i : Nat), i < m → (digsFrom w n j m)[i]? = some (dig w n (j + i))
 | 0, _, i, h => by omega
 | m + 1, j, 0, _ => rfl
 | m + 1, j, i + 1, h => by
  unfold digsFrom
  rw [List.getElem?_cons_succ, digsFrom_get w n m (j + 1) i (by omega)]
  congr 2
  omega
theorem digsOf_get (w k : Nat) (n : Int) (i : Nat) (h : i < k) : (digsOf w k n)[i]? = some (dig w n i) := by
 unfold digsOf
 rw [digsFrom_get w n k 0 i h, Nat.zero_add]
theorem bytesOf_digs (m : Nat) (n : Int) : bytesOf m n = digsOf 8 m n := by
 have key : ∀ (m k : Nat), bytesFrom k n m = digsFrom 8 n k m := by
  intro m
  induction m with
  | zero => intro k; rfl
  | succ m ih =>
   intro k
   unfold bytesFrom digsFrom dig
   rw [ih, pow256, show (2 : Int) ^ 8 = 256 by decide]
 exact key m 0
theorem emod_ediv_emod (N : Int) (r w : Nat) (h : r < w) : (N % 2 ^ w) / 2 ^ r % 2 = N / 2 ^ r % 2 := by
 have e : (2 : Int) ^ w = 2 ^ r * (2 * 2 ^ (w - r - 1)) := by
  rw [← Int.mul_assoc, ← Int.pow_succ, ← Int.pow_add]
  congr 1
  omega
 have h1 := Int.mul_ediv_add_emod N (2 ^ w)
 have h2 : N = N % 2 ^ w + 2 ^ r * (2 * 2 ^ (w - r - 1) * (N / 2 ^ w)) := by
  rw [← Int.mul_assoc, ← e]
  omega
 conv => rhs; rw [h2]
 rw [Int.add_mul_ediv_left _ _ (Int.ne_of_gt (pp r)), Int.mul_assoc, Int.add_mul_emod_self_left]
theorem dig_bit (w : Nat) (hw : 0 < w) (n : Int) (i : Nat) : dig w n (i / w) / 2 ^ (i % w) % 2 = n / 2 ^ i % 2 := by
 unfold dig
 rw [emod_ediv_emod _ _ _ (Nat.mod_lt i hw), Int.ediv_ediv_of_nonneg (Int.le_of_lt (pp _)), ← Int.pow_add]
 congr 3
 exact Nat.div_add_mod i w
theorem dig_range (w : Nat) (n : Int) (j : Nat) : 0 ≤ dig w n j ∧ dig w n j < 2 ^ w := ⟨Int.emod_nonneg _ (Int.ne_of_gt (pp w)), Int.emod_lt_of_pos _ (pp w)⟩
def dnum (w : Nat) : List Int → Int
 | [] => 0
 | x :: l => x + 2 ^ w * dnum w l
end
section
theorem u8_toNat (v : BitVec 8) : IntKind.u8.wrap (v.toNat : Int) = (v.toNat : Int) := by
 rw [u8w]
 have := v.isLt
 omega
theorem bits8 (op : BitVec 8 → BitVec 8 → BitVec 8) (v w : BitVec 8) (x y : Int) (hx : x = v.toNat) (hy : y = w.toNat) : IntKind.u8.wrap ((op (BitVec.ofInt 8 x) (BitVec.ofInt 8 y)).toNat : Int) = ((op v w).toNat : Int) := by
 subst hx hy
 rw [u8_toNat, BitVec.ofInt_natCast, BitVec.ofInt_natCast, BitVec.ofNat_toNat, BitVec.ofNat_toNat, BitVec.setWidth_eq, BitVec.setWidth_eq]
theorem xor8 (v w : BitVec 8) : bits .xor .u8 (v.toNat : Int) (w.toNat : Int) = ((v ^^^ w).toNat : Int) := bits8 (· ^^^ ·) v w _ _ rfl rfl
theorem or8 (v w : BitVec 8) : bits .or .u8 (v.toNat : Int) (w.toNat : Int) = ((v ||| w).toNat : Int) := bits8 (· ||| ·) v w _ _ rfl rfl
theorem and8 (v w : BitVec 8) : bits .and .u8 (v.toNat : Int) (w.toNat : Int) = ((v &&& w).toNat : Int) := bits8 (· &&& ·) v w _ _ rfl rfl
theorem byteV {x : Int} (h : 0 ≤ x ∧ x < 256) : ∃ v : BitVec 8, x = (v.toNat : Int) := by
 obtain ⟨n, rfl⟩ := Int.eq_ofNat_of_zero_le h.1
 refine ⟨BitVec.ofNat 8 n, ?_⟩
 rw [BitVec.toNat_ofNat, Nat.mod_eq_of_lt (by omega)]
theorem vec_or_zero (v w : BitVec 8) : v ||| w = 0#8 ↔ v = 0#8 ∧ w = 0#8 := by
 constructor
 ·intro h
  have e1 : v = v &&& (v ||| w) := by
   ext i hi
   simp only [BitVec.getElem_and, BitVec.getElem_or]
   cases v[i] <;> simp
  have e2 : w = w &&& (v ||| w) := by
   ext i hi
   simp only [BitVec.getElem_and, BitVec.getElem_or]
   cases w[i] <;> simp
  rw [h, BitVec.and_zero] at e1 e2
  exact ⟨e1, e2⟩
 ·rintro ⟨rfl, rfl⟩
  rfl
theorem vec_xor_zero (v w : BitVec 8) : v ^^^ w = 0#8 ↔ v = w := by
 constructor
 ·intro h
  have : v ^^^ w ^^^ w = w := by rw [h, BitVec.zero_xor]
  rwa [BitVec.xor_assoc, BitVec.xor_self, BitVec.xor_zero] at this
 ·rintro rfl
  exact BitVec.xor_self
theorem natv_zero (v : BitVec 8) : (v.toNat : Int) = 0 ↔ v = 0#8 := by
 constructor
 ·intro h
  exact BitVec.eq_of_toNat_eq (by simpa using h)
 ·rintro rfl
  rfl
theorem bits_byte (op : BinOp) (x y : Int) : 0 ≤ bits op .u8 x y ∧ bits op .u8 x y < 256 := wf_u8.1 (by unfold bits; exact wf_wrap' _ _)
def sameR : Int → List Int → List Int → Int
 | d, x :: xs, y :: ys => sameR (bits .or .u8 d (bits .xor .u8 x y)) xs ys
 | d, _, _ => d
theorem sameR_zero : ∀ (l m : List Int) (d : Int), l.length = m.length → (∀ x ∈ l, 0 ≤ x ∧ x < 256) → (∀ x ∈ m, 0 ≤ x ∧ x < 256) → 0 ≤ d ∧ d < 256 → (sameR d l m = 0 ↔ d = 0 ∧ l = m)
 | [], [], d, _, _, _, _ => by simp [sameR]
 | [], y :: m, d, h, _, _, _ => by simp at h
 | x :: l, [], d, h, _, _, _ => by simp at h
 | x :: l, y :: m, d, h, hl, hm, hd => by
  have ih := sameR_zero l m (bits .or .u8 d (bits .xor .u8 x y)) (by simpa using h) (fun z hz => hl z (by simp [hz])) (fun z hz => hm z (by simp [hz])) (bits_byte _ _ _)
  obtain ⟨v, hv⟩ := byteV (hl x (by simp))
  obtain ⟨w, hw⟩ := byteV (hm y (by simp))
  obtain ⟨u, hu⟩ := byteV hd
  have key : bits .or .u8 d (bits .xor .u8 x y) = 0 ↔ d = 0 ∧ x = y := by
   rw [hv, hw, hu, xor8, or8, natv_zero, vec_or_zero, vec_xor_zero, natv_zero]
   constructor
   ·rintro ⟨h1, h2⟩; exact ⟨h1, by rw [h2]⟩
   ·rintro ⟨h1, h2⟩; exact ⟨h1, BitVec.eq_of_toNat_eq (by omega)⟩
  rw [show sameR d (x :: l) (y :: m) = sameR (bits .or .u8 d (bits .xor .u8 x y)) l m from rfl, ih, key, List.cons.injEq, and_assoc]
noncomputable abbrev kCan : Cons := [(251, fCanon)]
theorem kCan_ok : ConsOk kCan := consOk_of (fun p hp => by
 simp only [kCan, List.mem_cons, List.not_mem_nil, or_false] at hp
 subst hp
 exact canon_ok) (by decide)
theorem equal_t (l m : List Int) : Goes (callRun tc ((env kCan).fn 20) Tryz.f213 1000 [.arr false .u8 32 (tab 32 l), .arr false .u8 32 (tab 32 m)] []) [.t] [(sameR 0 (cC (tab 32 l)) (cC (tab 32 m)) == 0) = true] ⟨.bool true true, []⟩ := by
 unfold Goes
 kernel_rfl
theorem equal_f (l m : List Int) : Goes (callRun tc ((env kCan).fn 20) Tryz.f213 1000 [.arr false .u8 32 (tab 32 l), .arr false .u8 32 (tab 32 m)] []) [.f] [(sameR 0 (cC (tab 32 l)) (cC (tab 32 m)) == 0) = false] ⟨.bool true false, []⟩ := by
 unfold Goes
 kernel_rfl
theorem num_q' (n : Int) : num (bytesOf 32 (n % p25)) = n % p25 := by
 rw [num_bytesOf, show (256 : Int) ^ 32 = 115792089237316195423570985008687907853269984665640564039457584007913129639936 by decide]
 exact Int.emod_eq_of_lt (mod25 n).1 (mod25 n).2
theorem equal_con {l m : List Int} (hl : l.length = 32) (hm : m.length = 32) : Con Tryz.prog gl 213 [.arr false .u8 32 l, .arr false .u8 32 m] [] ⟨.bool false (decide (num l % p25 = num m % p25)), []⟩ := by
 have z := sameR_zero (cC l) (cC m) 0 (by unfold cC; rw [bytesOf_length, bytesOf_length]) (bytesOf_range _ _) (bytesOf_range _ _) (by decide)
 by_cases h : num l % p25 = num m % p25
 ·have con := con_goes kCan_ok Tryz.func213 1000 (equal_t l m) ⟨by rw [tab_eq' hl, tab_eq' hm, z.2 ⟨rfl, by unfold cC; rw [h]⟩]; rfl, trivial⟩
  rw [tab_eq' hl, tab_eq' hm] at con
  rw [decide_eq_true h]
  exact con_to con
 ·have con := con_goes kCan_ok Tryz.func213 1000 (equal_f l m) ⟨by
   rw [tab_eq' hl, tab_eq' hm]
   refine beq_eq_false_iff_ne.2 (fun e => h ?_)
   have := congrArg num (z.1 e).2
   unfold cC at this
   rwa [num_q', num_q'] at this, trivial⟩
  rw [tab_eq' hl, tab_eq' hm] at con
  rw [decide_eq_false h]
  exact con_to con
def maskR (x : Int) : Int := IntKind.u8.wrap (0 - bits .and .u8 x 1)
def pickR (k : Int) : List Int → List Int → List Int
 | a :: l, b :: m => bits .xor .u8 a (bits .and .u8 k (bits .xor .u8 a b)) :: pickR k l m
 | _, _ => []
def cP (x : Int) (l m : List Int) : List Int := bytesOf 32 (if x % 2 = 0 then num l else num m)
noncomputable def fPick : Spec := fun args mem => match args, mem with
 | [.int _ .u8 x, .arr _ .u8 32 l, .arr _ .u8 32 m], [] => .leaf ⟨.arr false .u8 32 (cP x l m), []⟩
 | _, _ => .fail
theorem pick_run (x : Int) (l m : List Int) : Goes (callRun tc ((env []).fn 20) Tryz.f197 1000 [.int false .u8 x, .arr false .u8 32 (tab 32 l), .arr false .u8 32 (tab 32 m)] []) [] [] ⟨.arr false .u8 32 (pickR (maskR x) (tab 32 l) (tab 32 m)), []⟩ := by
 unfold Goes
 kernel_rfl
theorem maskR_eq (x : Int) (h : 0 ≤ x ∧ x < 256) : maskR x = if x % 2 = 0 then 0 else 255 := by
 have e : bits .and .u8 x 1 = x % 2 := by
  have := bits_mask .u8 8 (by decide) (fun n a b => by rw [u8w]; exact Int.emod_eq_of_lt a (by simpa using b)) 1 (by decide) x h.1 (by simpa using h.2)
  simpa using this
 unfold maskR
 rw [e, u8w]
 split <;> omega
theorem pickR_0 : ∀ (l m : List Int), l.length = m.length → (∀ x ∈ l, 0 ≤ x ∧ x < 256) → (∀ x ∈ m, 0 ≤ x ∧ x < 256) → pickR 0 l m = l
 | [], [], _, _, _ => rfl
 | [], y :: m, h, _, _ => by simp at h
 | x :: l, [], h, _, _ => by simp at h
 | x :: l, y :: m, h, hl, hm => by
  obtain ⟨v, hv⟩ := byteV (hl x (by simp))
  obtain ⟨w, hw⟩ := byteV (hm y (by simp))
  have e : bits .xor .u8 x (bits .and .u8 0 (bits .xor .u8 x y)) = x := by
   rw [hv, hw, xor8, show (0 : Int) = ((0#8).toNat : Int) from rfl, and8, BitVec.zero_and, xor8, BitVec.xor_zero]
  rw [pickR, e, pickR_0 l m (by simpa using h) (fun z hz => hl z (by simp [hz])) (fun z hz => hm z (by simp [hz]))]
theorem pickR_1 : ∀ (l m : List Int), l.length = m.length → (∀ x ∈ l, 0 ≤ x ∧ x < 256) → (∀ x ∈ m, 0 ≤ x ∧ x < 256) → pickR 255 l m = m
 | [], [], _, _, _ => rfl
 | [], y :: m, h, _, _ => by simp at h
 | x :: l, [], h, _, _ => by simp at h
 | x :: l, y :: m, h, hl, hm => by
  obtain ⟨v, hv⟩ := byteV (hl x (by simp))
  obtain ⟨w, hw⟩ := byteV (hm y (by simp))
  have e : bits .xor .u8 x (bits .and .u8 255 (bits .xor .u8 x y)) = y := by
   rw [hv, hw, xor8, show (255 : Int) = ((BitVec.allOnes 8).toNat : Int) from rfl, and8, BitVec.allOnes_and, xor8, ← BitVec.xor_assoc, BitVec.xor_self, BitVec.zero_xor]
  rw [pickR, e, pickR_1 l m (by simpa using h) (fun z hz => hl z (by simp [hz])) (fun z hz => hm z (by simp [hz]))]
theorem cP_0 {x : Int} {l m : List Int} (hx : x % 2 = 0) (hl : l.length = 32) (bl : ∀ x ∈ l, 0 ≤ x ∧ x < 256) : cP x l m = l := by
 unfold cP
 rw [if_pos hx, ← hl, bytesOf_num l bl]
theorem cP_1 {x : Int} {l m : List Int} (hx : ¬ x % 2 = 0) (hl : m.length = 32) (bl : ∀ x ∈ m, 0 ≤ x ∧ x < 256) : cP x l m = m := by
 unfold cP
 rw [if_neg hx, ← hl, bytesOf_num m bl]
theorem pick_con {x : Int} {l m : List Int} (hx : 0 ≤ x ∧ x < 256) (hl : l.length = 32) (hm : m.length = 32) (bl : ∀ x ∈ l, 0 ≤ x ∧ x < 256) (bm : ∀ x ∈ m, 0 ≤ x ∧ x < 256) : Con Tryz.prog gl 197 [.int false .u8 x, .arr false .u8 32 l, .arr false .u8 32 m] [] ⟨.arr false .u8 32 (cP x l m), []⟩ := by
 have con := con_goes cons0 Tryz.func197 1000 (pick_run x l m) trivial
 rw [tab_eq' hl, tab_eq' hm, maskR_eq x hx] at con
 have e : pickR (if x % 2 = 0 then 0 else 255) l m = cP x l m := by
  by_cases h2 : x % 2 = 0
  ·rw [if_pos h2, pickR_0 l m (by omega) bl bm, cP_0 h2 hl bl]
  ·rw [if_neg h2, pickR_1 l m (by omega) bl bm, cP_1 h2 hm bm]
 rw [e] at con
 exact con
theorem pick_ok : FnOk Tryz.prog gl 197 fPick := by
 intro args mem r h
 unfold fPick at h
 split at h
 case h_2 => exact h.elim
 rename_i o x o1 l o2 m
 have h := Tr.is_leaf.1 h
 subst h
 exact con_wf fun hw _ => con_to (pick_con (wf_u8.1 hw.1) hw.2.1.1 hw.2.2.1.1 (fun x hx => wf_u8.1 (hw.2.1.2 x hx)) (fun x hx => wf_u8.1 (hw.2.2.1.2 x hx)))
theorem byte_248 : ∀ i : Fin 256, bits .and .u8 (i.val : Int) 248 = (i.val : Int) - (i.val : Int) % 8 := by decide +kernel
theorem byte_top : ∀ i : Fin 256, bits .or .u8 (bits .and .u8 (i.val : Int) 127) 64 = (i.val : Int) % 64 + 64 := by decide +kernel
theorem byte_127 : ∀ i : Fin 256, bits .and .u8 (i.val : Int) 127 = (i.val : Int) % 128 := by decide +kernel
theorem byteF {x : Int} (h : 0 ≤ x ∧ x < 256) : ∃ i : Fin 256, x = (i.val : Int) :=
 ⟨⟨x.toNat, by omega⟩, by simp only; omega⟩
theorem num_dnum : ∀ l : List Int, num l = dnum 8 l
 | [] => rfl
 | x :: l => by rw [num, dnum, num_dnum l, show (2 : Int) ^ 8 = 256 by decide]
theorem dnum_take_succ (w : Nat) : ∀ (l : List Int) (n : Nat), n < l.length → dnum w (l.take (n + 1)) = dnum w (l.take n) + 2 ^ (w * n) * l.getD n 0
 | [], n, h => by simp at h
 | x :: l, 0, _ => by simp [dnum]
 | x :: l, n + 1, h => by
  have ih := dnum_take_succ w l n (by simpa using h)
  simp only [List.take_succ_cons, dnum, List.getD_cons_succ] at ih ⊢
  rw [ih, Nat.mul_add, Nat.mul_one, Int.pow_add, Int.mul_comm (2 ^ (w * n)) (2 ^ w), Int.mul_add, Int.mul_assoc]
  omega
theorem dnum_set (w : Nat) : ∀ (l : List Int) (n : Nat) (v : Int), n < l.length → dnum w (l.set n v) = dnum w l + 2 ^ (w * n) * (v - l.getD n 0)
 | [], n, _, h => by simp at h
 | x :: l, 0, v, _ => by simp [dnum]; omega
 | x :: l, n + 1, v, h => by
  have ih := dnum_set w l n v (by simpa using h)
  simp only [List.set_cons_succ, dnum, List.getD_cons_succ] at ih ⊢
  rw [ih, Nat.mul_add, Nat.mul_one, Int.pow_add, Int.mul_comm (2 ^ (w * n)) (2 ^ w), Int.mul_add, Int.mul_assoc]
  omega
theorem getD_mem {l : List Int} {n : Nat} (h : n < l.length) : l.getD n 0 ∈ l := by
 rw [List.getD, List.getElem?_eq_getElem h]
 exact List.getElem_mem h
theorem num_set (l : List Int) (n : Nat) (v : Int) (h : n < l.length) : num (l.set n v) = num l + 256 ^ n * (v - l.getD n 0) := by
 rw [num_dnum, num_dnum, dnum_set 8 l n v h, ← pow256]
theorem mem_getD {l : List Int} (hb : ∀ x ∈ l, 0 ≤ x ∧ x < 256) (n : Nat) (h : n < l.length) : 0 ≤ l.getD n 0 ∧ l.getD n 0 < 256 := hb _ (getD_mem h)
theorem set_bytes {l : List Int} (hb : ∀ x ∈ l, 0 ≤ x ∧ x < 256) (n : Nat) (v : Int) (hv : 0 ≤ v ∧ v < 256) : ∀ x ∈ l.set n v, 0 ≤ x ∧ x < 256 := fun x hx => by
 rcases List.mem_or_eq_of_mem_set hx with hx | rfl
 ·exact hb x hx
 ·exact hv
theorem num_ends {l : List Int} (hl : l.length = 32) (hb : ∀ x ∈ l, 0 ≤ x ∧ x < 256) :
  num l % 256 = l.getD 0 0 ∧ ∃ r, 0 ≤ r ∧ r < 452312848583266388373324160190187140051835877600158453279131187530910662656 ∧ num l = r + 452312848583266388373324160190187140051835877600158453279131187530910662656 * l.getD 31 0 := by
 refine ⟨?_, num (l.take 31), ?_⟩
 ·match l, hl with
  | x :: l, _ =>
   have := hb x (by simp)
   show (x + 256 * num l) % 256 = x
   omega
 ·have hr := num_range (l.take 31) (fun x hx => hb x (List.mem_of_mem_take hx))
  rw [List.length_take, show min 31 l.length = 31 by omega, show (256 : Int) ^ 31 = 452312848583266388373324160190187140051835877600158453279131187530910662656 by decide] at hr
  refine ⟨hr.1, hr.2, ?_⟩
  have := dnum_take_succ 8 l 31 (by omega)
  rw [← num_dnum, ← num_dnum, List.take_of_length_le (by omega), pow256, show (256 : Int) ^ 31 = 452312848583266388373324160190187140051835877600158453279131187530910662656 by decide] at this
  exact this
def trimB (l : List Int) : List Int := (l.set 0 (l.getD 0 0 - l.getD 0 0 % 8)).set 31 (l.getD 31 0 % 64 + 64)
def tkN (n : Int) : Int := n % 28948022309329048855892746252171976963317496166410141009864396001978282409984 - n % 8 + 28948022309329048855892746252171976963317496166410141009864396001978282409984
theorem trimB_length (l : List Int) : (trimB l).length = l.length := by simp [trimB]
theorem trimB_bytes {l : List Int} (hl : l.length = 32) (hb : ∀ x ∈ l, 0 ≤ x ∧ x < 256) : ∀ x ∈ trimB l, 0 ≤ x ∧ x < 256 := by
 have h0 := mem_getD hb 0 (by omega)
 have h31 := mem_getD hb 31 (by omega)
 exact set_bytes (set_bytes hb 0 _ (by omega)) 31 _ (by omega)
theorem num_trimB {l : List Int} (hl : l.length = 32) (hb : ∀ x ∈ l, 0 ≤ x ∧ x < 256) : num (trimB l) = tkN (num l) := by
 have h0 := mem_getD hb 0 (by omega)
 have h31 := mem_getD hb 31 (by omega)
 obtain ⟨e0, r, r0, r1, e⟩ := num_ends hl hb
 unfold trimB tkN
 have hg : (l.set 0 (l.getD 0 0 - l.getD 0 0 % 8)).getD 31 0 = l.getD 31 0 := by
  rw [List.getD, List.getElem?_set_ne (by decide), List.getD]
 rw [num_set _ 31 _ (by rw [List.length_set]; omega), num_set _ 0 _ (by omega), hg, Int.pow_zero, show (256 : Int) ^ 31 = 452312848583266388373324160190187140051835877600158453279131187530910662656 by decide]
 generalize l.getD 0 0 = a at *
 generalize l.getD 31 0 = b at *
 generalize num l = n at *
 omega
noncomputable abbrev fTrim : Spec := FA1 .u8 .u8 32 32 trimB
def trimR (l : List Int) : List Int := (l.set 0 (bits .and .u8 (l.getD 0 0) 248)).set 31 (bits .or .u8 (bits .and .u8 (l.getD 31 0) 127) 64)
theorem trim_run (l : List Int) : Goes (callRun tc ((env []).fn 20) Tryz.f134 1000 [.arr false .u8 32 (tab 32 l)] []) [] [] ⟨.arr false .u8 32 (trimR (tab 32 l)), []⟩ := by
 unfold Goes
 kernel_rfl
theorem trim_ok : FnOk Tryz.prog gl 134 fTrim := by
 refine fnOk_A1 fun l hl hw => ?_
 have con := con_goes cons0 Tryz.func134 1000 (trim_run l) trivial
 rw [tab_eq' hl] at con
 have hb : ∀ x ∈ l, 0 ≤ x ∧ x < 256 := fun x hx => wf_u8.1 (hw x hx)
 obtain ⟨i, hi⟩ := byteF (mem_getD hb 0 (by omega))
 obtain ⟨j, hj⟩ := byteF (mem_getD hb 31 (by omega))
 have e : trimR l = trimB l := by
  unfold trimR trimB
  rw [hi, hj, byte_248, byte_top]
 rw [e] at con
 exact con
def maskU (l : List Int) : List Int := l.set 31 (bits .and .u8 (l.getD 31 0) 127)
theorem maskU_length (l : List Int) : (maskU l).length = l.length := by simp [maskU]
theorem maskU_bytes {l : List Int} (hb : ∀ x ∈ l, 0 ≤ x ∧ x < 256) : ∀ x ∈ maskU l, 0 ≤ x ∧ x < 256 := set_bytes hb 31 _ (bits_byte _ _ _)
theorem num_maskU {l : List Int} (hl : l.length = 32) (hb : ∀ x ∈ l, 0 ≤ x ∧ x < 256) : num (maskU l) = num l % 57896044618658097711785492504343953926634992332820282019728792003956564819968 := by
 have h31 := mem_getD hb 31 (by omega)
 obtain ⟨e0, r, r0, r1, e⟩ := num_ends hl hb
 obtain ⟨j, hj⟩ := byteF h31
 unfold maskU
 rw [num_set _ 31 _ (by omega), show (256 : Int) ^ 31 = 452312848583266388373324160190187140051835877600158453279131187530910662656 by decide]
 have e127 : bits .and .u8 (l.getD 31 0) 127 = l.getD 31 0 % 128 := by rw [hj]; exact byte_127 j
 rw [e127]
 generalize l.getD 31 0 = b at *
 generalize num l = n at *
 omega
noncomputable abbrev kPick : Cons := [(197, fPick)]
theorem kPick_ok : ConsOk kPick := consOk_of (fun p hp => by
 simp only [kPick, List.mem_cons, List.not_mem_nil, or_false] at hp
 subst hp
 exact pick_ok) (by decide)
noncomputable def fSwap : Spec := fun args mem => match args, mem with
 | [.int _ .u8 x, .arr _ .u8 32 l, .arr _ .u8 32 m], [] => .leaf ⟨.tup [.arr false .u8 32 (cP x l m), .arr false .u8 32 (cP x m l)], []⟩
 | _, _ => .fail
theorem swap_run (x : Int) (l m : List Int) : Goes (callRun tc ((env kPick).fn 20) Tryz.f135 1000 [.int false .u8 x, .arr false .u8 32 l, .arr false .u8 32 m] []) [] [] ⟨.tup [.arr false .u8 32 (cP x l m), .arr false .u8 32 (cP x m l)], []⟩ := by
 unfold Goes
 kernel_rfl
theorem swap_ok : FnOk Tryz.prog gl 135 fSwap := by
 intro args mem r h
 unfold fSwap at h
 split at h
 case h_2 => exact h.elim
 rename_i o x o1 l o2 m
 have h := Tr.is_leaf.1 h
 subst h
 exact con_to (con_goes kPick_ok Tryz.func135 1000 (swap_run x l m) trivial)
end
section
def invGo (x : Int) : Nat → Int
 | 0 => 1
 | n + 1 => if n = 250 ∨ n = 252 then invGo x n * invGo x n % p25 else invGo x n * invGo x n % p25 * x % p25
noncomputable def bodyI : Code := bodyC Tryz.f140
noncomputable def loopI : Code := loopC (blkC (seqR (seqL (post 3 bodyI))))
noncomputable def kyB (l : Bool) (xs : List Int) : Blk := .cells true 27 [.row true l .u8 32 xs]
noncomputable def wdB (l : Bool) (xs : List Int) : Blk := .cells true 281 [.row true l .u64 4 xs]
noncomputable def sI (fl : Bool) (ts : List (Nat × A)) (l x o : List Int) : St := stM gl ([(1, .ptr 13 0 0 true 0), (2, .ptr 14 0 0 true 0), (3, .ptr 15 0 0 true 0), (4, .ptr 16 0 0 true 0)] ++ ts) [kyB false l, kyB true (List.replicate 32 0), wdB false x, wdB fl o]
def pickL (b : Bool) (s w : List Int) : List Int :=
 match s, w with
 | [s0, s1, s2, s3], [w0, w1, w2, w3] => [pickW b s0 w0, pickW b s1 w1, pickW b s2 w2, pickW b s3 w3]
 | s, _ => s
theorem inv_code : post 3 bodyI = .seq (seqL (post 3 bodyI)) (seqR (post 3 bodyI)) := by kernel_rfl
theorem inv_code2 : post 1 (seqL (post 3 bodyI)) = .block 0 (.loop loopI) := by kernel_rfl
theorem inv_pre (l : List Int) : (execK (cxE kWord 50) 13 100 (pre 3 bodyI) [1, 2, 3, 4] (List.range 17) (s0 tc [.arr false .u8 32 (tab 32 l)] [])).walk [] [] = some ([], (.normal, sI true [] (tab 32 l) (wordsOf 4 (num (tab 32 l))) [1, 0, 0, 0])) := by kernel_rfl
theorem inv_ini (l x o : List Int) : (execK (cxE kWord 50) 13 100 (pre 1 (seqL (post 3 bodyI))) [1, 2, 3, 4, 5] (List.range 17) (sI true [] l x o)).walk [] [] = some ([], (.normal, sI true [(5, .int true .i64 254)] l x o)) := by kernel_rfl
theorem inv_rnd (i x0 x1 x2 x3 o0 o1 o2 o3 : Int) (l : List Int) : (execK (cxE kWord 50) 13 200 loopI [1, 2, 3, 4, 5] (List.range 17) (sI false [(5, .int false .i64 i)] l [x0, x1, x2, x3] [o0, o1, o2, o3])).walk [.t, .f, .f] [] =
  some ([decide (i ≥ 0) = true, (i == 2) = false, (i == 4) = false, IntKind.i64.wrap (i - 1) = i - 1], (.normal, sI false [(5, .int false .i64 (i - 1))] l [x0, x1, x2, x3] (pickL true (wordsOf 4 (prod25 (wnum [o0, o1, o2, o3]) (wnum [o0, o1, o2, o3]))) (wordsOf 4 (prod25 (wnum (wordsOf 4 (prod25 (wnum [o0, o1, o2, o3]) (wnum [o0, o1, o2, o3])))) (wnum [x0, x1, x2, x3])))))) := by kernel_rfl
theorem inv_rnd2 (i x0 x1 x2 x3 o0 o1 o2 o3 : Int) (l : List Int) : (execK (cxE kWord 50) 13 200 loopI [1, 2, 3, 4, 5] (List.range 17) (sI false [(5, .int false .i64 i)] l [x0, x1, x2, x3] [o0, o1, o2, o3])).walk [.t, .t] [] =
  some ([decide (i ≥ 0) = true, (i == 2) = true, IntKind.i64.wrap (i - 1) = i - 1], (.normal, sI false [(5, .int false .i64 (i - 1))] l [x0, x1, x2, x3] (pickL false (wordsOf 4 (prod25 (wnum [o0, o1, o2, o3]) (wnum [o0, o1, o2, o3]))) (wordsOf 4 (prod25 (wnum (wordsOf 4 (prod25 (wnum [o0, o1, o2, o3]) (wnum [o0, o1, o2, o3])))) (wnum [x0, x1, x2, x3])))))) := by kernel_rfl
theorem inv_rnd4 (i x0 x1 x2 x3 o0 o1 o2 o3 : Int) (l : List Int) : (execK (cxE kWord 50) 13 200 loopI [1, 2, 3, 4, 5] (List.range 17) (sI false [(5, .int false .i64 i)] l [x0, x1, x2, x3] [o0, o1, o2, o3])).walk [.t, .f, .t] [] =
  some ([decide (i ≥ 0) = true, (i == 2) = false, (i == 4) = true, IntKind.i64.wrap (i - 1) = i - 1], (.normal, sI false [(5, .int false .i64 (i - 1))] l [x0, x1, x2, x3] (pickL false (wordsOf 4 (prod25 (wnum [o0, o1, o2, o3]) (wnum [o0, o1, o2, o3]))) (wordsOf 4 (prod25 (wnum (wordsOf 4 (prod25 (wnum [o0, o1, o2, o3]) (wnum [o0, o1, o2, o3])))) (wnum [x0, x1, x2, x3])))))) := by kernel_rfl
theorem inv_stop (i : Int) (l x o : List Int) : (execK (cxE kWord 50) 13 200 loopI [1, 2, 3, 4, 5] (List.range 17) (sI false [(5, .int false .i64 i)] l x o)).walk [.f] [] = some ([decide (i ≥ 0) = false], (.exit 0, sI false [(5, .int false .i64 i)] l x o)) := by kernel_rfl
theorem inv_end (i o0 o1 o2 o3 : Int) (l x : List Int) : (exec (cxE kWord 50) 100 (seqR (post 3 bodyI)) (sI false [(5, .int false .i64 i)] l x [o0, o1, o2, o3]) fun ex s' => match ex with
   | .exit _ => .fail
   | _ => shutS tc Tryz.f140 0 s').walk [] [] = some ([], ⟨.arr false .u8 32 (bytesOf 32 (wnum (wordsOf 4 (wnum [o0, o1, o2, o3] % p25)))), []⟩) := by kernel_rfl
theorem pickL_eq (b : Bool) (n m : Int) : pickL b (wordsOf 4 n) (wordsOf 4 m) = if b then wordsOf 4 m else wordsOf 4 n := by
 obtain ⟨s0, s1, s2, s3, e1, a0, a1, a2, a3, -⟩ := words4 n
 obtain ⟨w0, w1, w2, w3, e2, b0, b1, b2, b3, -⟩ := words4 m
 rw [e1, e2]
 simp only [pickL]
 rw [pickW_eq _ _ _ a0.1 a0.2 b0.1 b0.2, pickW_eq _ _ _ a1.1 a1.2 b1.1 b1.2, pickW_eq _ _ _ a2.1 a2.2 b2.1 b2.2, pickW_eq _ _ _ a3.1 a3.2 b3.1 b3.2]
 cases b <;> rfl
def invV (X : Int) : Nat → Int
 | 0 => 1
 | n + 1 => if n = 250 ∨ n = 252 then prod25 (invV X n) (invV X n) else prod25 (prod25 (invV X n) (invV X n)) X
abbrev b256 : Int := 115792089237316195423570985008687907853269984665640564039457584007913129639936
theorem invV_range {X : Int} (hX : 0 ≤ X ∧ X < b256) : ∀ n, 0 ≤ invV X n ∧ invV X n < b256
 | 0 => ⟨(by decide : (0 : Int) ≤ 1), (by decide : (1 : Int) < b256)⟩
 | n + 1 => by
  have h := invV_range hX n
  have h1 := prod25_range _ _ h h
  unfold invV
  split
  ·exact h1
  ·exact prod25_range _ _ h1 hX
theorem invV_mod (X : Int) : ∀ n, invV X n % p25 = invGo X n
 | 0 => (show (1 : Int) % p25 = 1 by decide)
 | n + 1 => by
  have h := invV_mod X n
  unfold invV invGo
  split
  ·rw [prod25_mod, Int.mul_emod, h]
  ·rw [prod25_mod, ← emm, prod25_mod, Int.mul_emod (invV X n), h]
theorem invGo_mod (x : Int) : ∀ n, invGo x n % p25 = invGo x n
 | 0 => (show (1 : Int) % p25 = 1 by decide)
 | n + 1 => by
  unfold invGo
  split
  ·exact Int.emod_emod _ _
  ·exact Int.emod_emod _ _
theorem inv_step {B : Base} {l : List Int} {X : Int} (hX : 0 ≤ X ∧ X < b256) (hB : B.lim = 13) (n : Nat) (hn : n < 255) :
  Tri (cxE kWord 50) B (sI false [(5, .int false .i64 (254 - (n : Int)))] l (wordsOf 4 X) (wordsOf 4 (invV X n))) loopI (fun ex s' => ex = .normal ∧ s' = sI false [(5, .int false .i64 (254 - ((n + 1 : Nat) : Int)))] l (wordsOf 4 X) (wordsOf 4 (invV X (n + 1)))) := by
 have hV := invV_range hX n
 obtain ⟨x0, x1, x2, x3, ex, -, -, -, -, nx⟩ := words4 X
 obtain ⟨o0, o1, o2, o3, eo, -, -, -, -, no⟩ := words4 (invV X n)
 rw [Int.emod_eq_of_lt hX.1 hX.2] at nx
 rw [Int.emod_eq_of_lt hV.1 hV.2] at no
 have rS := prod25_range _ _ hV hV
 have nS := wnum_small rS
 have hi : (254 : Int) - n ≥ 0 := by omega
 have e1 : (254 : Int) - n - 1 = 254 - ((n + 1 : Nat) : Int) := by omega
 have w1 : IntKind.i64.wrap ((254 : Int) - n - 1) = 254 - n - 1 := I64.wrap ⟨by omega, by omega⟩
 by_cases h2 : n = 252
 ·have run := inv_rnd2 (254 - (n : Int)) x0 x1 x2 x3 o0 o1 o2 o3 l
  rw [no, nS, nx, pickL_eq, if_neg Bool.false_ne_true, e1, ← ex, ← eo] at run
  refine tri_wk (cxE_ok kWord_ok 50) hB (by kernel_rfl) run ⟨decide_eq_true hi, by subst h2; rfl, by rw [← e1]; exact w1, trivial⟩ ⟨rfl, ?_⟩
  rw [show invV X (n + 1) = prod25 (invV X n) (invV X n) from if_pos (Or.inr h2)]
 ·have b2 : ((254 : Int) - n == 2) = false := by
   rw [beq_eq_false_iff_ne]; omega
  by_cases h4 : n = 250
  ·have run := inv_rnd4 (254 - (n : Int)) x0 x1 x2 x3 o0 o1 o2 o3 l
   rw [no, nS, nx, pickL_eq, if_neg Bool.false_ne_true, e1, ← ex, ← eo] at run
   refine tri_wk (cxE_ok kWord_ok 50) hB (by kernel_rfl) run ⟨decide_eq_true hi, b2, by subst h4; rfl, by rw [← e1]; exact w1, trivial⟩ ⟨rfl, ?_⟩
   rw [show invV X (n + 1) = prod25 (invV X n) (invV X n) from if_pos (Or.inl h4)]
  ·have b4 : ((254 : Int) - n == 4) = false := by
    rw [beq_eq_false_iff_ne]; omega
   have run := inv_rnd (254 - (n : Int)) x0 x1 x2 x3 o0 o1 o2 o3 l
   rw [no, nS, nx, pickL_eq, if_pos rfl, e1, ← ex, ← eo] at run
   refine tri_wk (cxE_ok kWord_ok 50) hB (by kernel_rfl) run ⟨decide_eq_true hi, b2, b4, by rw [← e1]; exact w1, trivial⟩ ⟨rfl, ?_⟩
   rw [show invV X (n + 1) = prod25 (prod25 (invV X n) (invV X n)) X from if_neg (by omega)]
def cIv (l : List Int) : List Int := bytesOf 32 (invGo (num l) 255)
noncomputable abbrev fInvert : Spec := FA1 .u8 .u8 32 32 cIv
theorem invert_ok : FnOk Tryz.prog gl 140 fInvert := by
 refine fnOk_A1 fun l hl hw => ?_
 have hX := num32_range hl hw
 refine con_tri kWord_ok Tryz.func140 (by kernel_rfl) (show Tryz.f140.body = some bodyI by kernel_rfl) (by kernel_rfl) (fun B hB => ?_)
 have hC := cxE_ok kWord_ok 50
 have run := inv_pre l
 rw [tab_eq' hl] at run
 have hs : s0 tc [.arr false .u8 32 (tab 32 l)] [] = s0 tc [.arr false .u8 32 l] [] := by rw [tab_eq' hl]
 refine tri_pk hC hB (by kernel_rfl) 3 run conj_nil ?_
 rw [inv_code]
 refine tri_seqN (P := fun s => s = sI false [(5, .int false .i64 (254 - ((255 : Nat) : Int)))] l (wordsOf 4 (num l)) (wordsOf 4 (invV (num l) 255))) ?_ (fun s' h => ?_)
 ·refine tri_pk hC hB (by kernel_rfl) 1 (inv_ini l _ _) conj_nil ?_
  rw [inv_code2]
  refine tri_pre (s' := sI false [(5, .int false .i64 (254 - ((0 : Nat) : Int)))] l (wordsOf 4 (num l)) (wordsOf 4 (invV (num l) 0))) (less_stM rfl rfl) (tri_range (fun n => sI false [(5, .int false .i64 (254 - (n : Int)))] l (wordsOf 4 (num l)) (wordsOf 4 (invV (num l) n))) 255 (fun n hn => inv_step hX hB n hn) ?_)
  exact tri_wk hC hB (by kernel_rfl) (inv_stop _ l _ _) ⟨decide_eq_false (by omega), trivial⟩ ⟨rfl, rfl⟩
 ·subst h
  obtain ⟨o0, o1, o2, o3, eo, -, -, -, -, no⟩ := words4 (invV (num l) 255)
  have hV := invV_range hX 255
  rw [Int.emod_eq_of_lt hV.1 hV.2] at no
  have fin := inv_end (254 - ((255 : Nat) : Int)) o0 o1 o2 o3 l (wordsOf 4 (num l))
  rw [no, ← eo, wnum_small (mod25 _), invV_mod] at fin
  exact tri_end hC fin conj_nil
end
section
theorem num_q (n : Int) : num (bytesOf 32 (n % p25)) = n % p25 := by
 rw [num_bytesOf, show (256 : Int) ^ 32 = 115792089237316195423570985008687907853269984665640564039457584007913129639936 by decide]
 exact Int.emod_eq_of_lt (mod25 n).1 (mod25 n).2
theorem num_cA (l m : List Int) : num (cA l m) = (num l + num m) % p25 := num_q _
theorem num_cS (l m : List Int) : num (cS l m) = (num l - num m) % p25 := num_q _
theorem num_cM (l m : List Int) : num (cM l m) = (num l * num m) % p25 := num_q _
theorem num_cI (l : List Int) : num (cIv l) = invGo (num l) 255 := by
 unfold cIv
 rw [← invGo_mod]
 exact num_q _
structure L4 where
 x2 : Int
 z2 : Int
 x3 : Int
 z3 : Int
def stepL (u : Int) (s : L4) : L4 :=
 ⟨(s.x2 + s.z2) % p25 * ((s.x2 + s.z2) % p25) % p25 * ((s.x2 - s.z2) % p25 * ((s.x2 - s.z2) % p25) % p25) % p25,
  ((s.x2 + s.z2) % p25 * ((s.x2 + s.z2) % p25) % p25 - (s.x2 - s.z2) % p25 * ((s.x2 - s.z2) % p25) % p25) % p25 *
   (((s.x2 + s.z2) % p25 * ((s.x2 + s.z2) % p25) % p25 + 121665 * (((s.x2 + s.z2) % p25 * ((s.x2 + s.z2) % p25) % p25 - (s.x2 - s.z2) % p25 * ((s.x2 - s.z2) % p25) % p25) % p25) % p25) % p25) % p25,
  ((s.x3 - s.z3) % p25 * ((s.x2 + s.z2) % p25) % p25 + (s.x3 + s.z3) % p25 * ((s.x2 - s.z2) % p25) % p25) % p25 * (((s.x3 - s.z3) % p25 * ((s.x2 + s.z2) % p25) % p25 + (s.x3 + s.z3) % p25 * ((s.x2 - s.z2) % p25) % p25) % p25) % p25,
  u * (((s.x3 - s.z3) % p25 * ((s.x2 + s.z2) % p25) % p25 - (s.x3 + s.z3) % p25 * ((s.x2 - s.z2) % p25) % p25) % p25 * (((s.x3 - s.z3) % p25 * ((s.x2 + s.z2) % p25) % p25 - (s.x3 + s.z3) % p25 * ((s.x2 - s.z2) % p25) % p25) % p25) % p25) % p25⟩
def swapL (b : Int) (s : L4) : L4 := if b % 2 = 0 then s else ⟨s.x3, s.z3, s.x2, s.z2⟩
def ladGo (k u : Int) : Nat → L4
 | 0 => ⟨1, 0, u, 1⟩
 | n + 1 => swapL (k / 2 ^ (254 - n) % 2) (stepL u (swapL (k / 2 ^ (254 - n) % 2) (ladGo k u n)))
def lad (k u : Int) : Int := (ladGo k u 255).x2 * invGo (ladGo k u 255).z2 255 % p25
structure LL where
 x2 : List Int
 z2 : List Int
 x3 : List Int
 z3 : List Int
def smallL : List Int := 65 :: 219 :: 1 :: List.replicate 29 0
def swapLL (x : Int) (s : LL) : LL := ⟨cP x s.x2 s.x3, cP x s.z2 s.z3, cP x s.x3 s.x2, cP x s.z3 s.z2⟩
def stepLL (U : List Int) (s : LL) : LL :=
 let a := cA s.x2 s.z2
 let b := cS s.x2 s.z2
 let da := cM (cS s.x3 s.z3) a
 let cb := cM (cA s.x3 s.z3) b
 let aa := cM a a
 let bb := cM b b
 let e := cS aa bb
 ⟨cM aa bb, cM e (cA aa (cM smallL e)), cM (cA da cb) (cA da cb), cM U (cM (cS da cb) (cS da cb))⟩
def numLL (s : LL) : L4 := ⟨num s.x2, num s.z2, num s.x3, num s.z3⟩
structure OkLL (s : LL) : Prop where
 x2 : s.x2.length = 32 ∧ ∀ x ∈ s.x2, 0 ≤ x ∧ x < 256
 z2 : s.z2.length = 32 ∧ ∀ x ∈ s.z2, 0 ≤ x ∧ x < 256
 x3 : s.x3.length = 32 ∧ ∀ x ∈ s.x3, 0 ≤ x ∧ x < 256
 z3 : s.z3.length = 32 ∧ ∀ x ∈ s.z3, 0 ≤ x ∧ x < 256
theorem ok_bytes (n : Int) : (bytesOf 32 n).length = 32 ∧ ∀ x ∈ bytesOf 32 n, 0 ≤ x ∧ x < 256 := ⟨bytesOf_length _ _, bytesOf_range _ _⟩
theorem ok_step (U : List Int) (s : LL) : OkLL (stepLL U s) := ⟨ok_bytes _, ok_bytes _, ok_bytes _, ok_bytes _⟩
theorem num_small : num smallL = 121665 := by decide
theorem num_step (U : List Int) (s : LL) : numLL (stepLL U s) = stepL (num U) (numLL s) := by
 simp only [numLL, stepLL, stepL, num_cM, num_cA, num_cS, num_small]
theorem num_b32 {l : List Int} (h : l.length = 32 ∧ ∀ x ∈ l, 0 ≤ x ∧ x < 256) : num (bytesOf 32 (num l)) = num l := by
 have := bytesOf_num l h.2
 rw [h.1] at this
 rw [this]
theorem num_cP {x : Int} {l m : List Int} (hl : l.length = 32 ∧ ∀ x ∈ l, 0 ≤ x ∧ x < 256) (hm : m.length = 32 ∧ ∀ x ∈ m, 0 ≤ x ∧ x < 256) : num (cP x l m) = if x % 2 = 0 then num l else num m := by
 unfold cP
 split
 ·exact num_b32 hl
 ·exact num_b32 hm
theorem num_swap {s : LL} (h : OkLL s) (x : Int) : numLL (swapLL x s) = swapL x (numLL s) := by
 simp only [numLL, swapLL, num_cP h.x2 h.x3, num_cP h.z2 h.z3, num_cP h.x3 h.x2, num_cP h.z3 h.z2]
 unfold swapL
 split <;> rfl
theorem swapL_swapL {a b : Int} (ha : a = 0 ∨ a = 1) (hb : b = 0 ∨ b = 1) (s : L4) : swapL a (swapL b s) = swapL (bits .xor .u8 a b) s := by
 have x00 : bits .xor .u8 0 0 = 0 := by decide
 have x01 : bits .xor .u8 0 1 = 1 := by decide
 have x10 : bits .xor .u8 1 0 = 1 := by decide
 have x11 : bits .xor .u8 1 1 = 0 := by decide
 have e0 : ∀ s : L4, swapL 0 s = s := fun _ => if_pos (by decide)
 have e1 : ∀ s : L4, swapL 1 s = ⟨s.x3, s.z3, s.x2, s.z2⟩ := fun _ => if_neg (by decide)
 rcases ha with rfl | rfl <;> rcases hb with rfl | rfl
 ·rw [x00, e0, e0]
 ·rw [x01, e0]
 ·rw [x10, e0]
 ·rw [x11, e0, e1, e1]
theorem bit_01 (n : Int) : n % 2 = 0 ∨ n % 2 = 1 := by omega
noncomputable def bodyL : Code := bodyC Tryz.f67
noncomputable def loopL : Code := loopC (blkC (seqR (seqL (post 6 bodyL))))
noncomputable abbrev kTim : Cons := [(134, fTrim), (135, fSwap), (136, fAdd), (137, fSub), (138, fMul), (139, fSquare), (140, fInvert)]
theorem kTim_ok : ConsOk kTim := consOk_of (fun p hp => by
 simp only [kTim, List.mem_cons, List.not_mem_nil, or_false] at hp
 rcases hp with rfl | rfl | rfl | rfl | rfl | rfl | rfl
 ·exact trim_ok
 ·exact swap_ok
 ·exact add_ok
 ·exact sub_ok
 ·exact mul_ok
 ·exact square_ok
 ·exact invert_ok) (by decide)
def oneL : List Int := 1 :: List.replicate 31 0
def zeroL : List Int := List.replicate 32 0
noncomputable def pT (i : Nat) : A := .ptr i 0 0 true 0
noncomputable def sL (fl : Bool) (last : Int) (ts : List (Nat × A)) (K U : List Int) (s : LL) : St :=
 stM gl ([(2, pT 13), (3, pT 14), (4, pT 15), (5, pT 16), (6, pT 17), (7, pT 18), (8, pT 19), (9, .int fl .u8 last)] ++ ts) [kyB false K, kyB false U, kyB true zeroL, kyB fl s.x2, kyB fl s.z2, kyB false s.x3, kyB fl s.z3]
def slL : List Nat := [2, 3, 4, 5, 6, 7, 8, 9]
theorem tim_code : post 6 bodyL = .seq (seqL (post 6 bodyL)) (seqR (post 6 bodyL)) := by kernel_rfl
theorem tim_code2 : post 1 (seqL (post 6 bodyL)) = .block 0 (.loop loopL) := by kernel_rfl
theorem tim_pre (k u : List Int) : (execK (cxE kTim 124) 13 200 (pre 6 bodyL) slL (List.range 20) (s0 tc [.arr false .u8 32 (tab 32 k), .arr false .u8 32 (tab 32 u)] [])).walk [] [] =
  some ([], (.normal, sL true 0 [] (trimB (tab 32 k)) (maskU (tab 32 u)) ⟨oneL, zeroL, maskU (tab 32 u), oneL⟩)) := by kernel_rfl
theorem tim_ini (K U : List Int) (s : LL) (last : Int) : (execK (cxE kTim 124) 13 200 (pre 1 (seqL (post 6 bodyL))) (slL ++ [30]) (List.range 20) (sL true last [] K U s)).walk [] [] = some ([], (.normal, sL true last [(30, .int true .i64 0)] K U s)) := by kernel_rfl
def bitR (K : List Int) (t : Nat) : Int := bits .and .u8 ((K.getD (t / 8) 0).fdiv (2 ^ (t % 8))) 1
theorem bitR_eq {K : List Int} (hK : K.length = 32) (hb : ∀ x ∈ K, 0 ≤ x ∧ x < 256) (t : Nat) (ht : t < 256) : bitR K t = num K / 2 ^ t % 2 := by
 have hl : K = digsOf 8 32 (num K) := by
  rw [← bytesOf_digs, ← hK, bytesOf_num K hb]
 have hget : K.getD (t / 8) 0 = dig 8 (num K) (t / 8) := by
  rw [List.getD]
  conv => lhs; rw [hl]
  rw [digsOf_get 8 32 _ _ (by omega)]
  rfl
 have hr := dig_range 8 (num K) (t / 8)
 rw [show (2 : Int) ^ 8 = 256 by decide] at hr
 have hf : (dig 8 (num K) (t / 8)).fdiv (2 ^ (t % 8)) = dig 8 (num K) (t / 8) / 2 ^ (t % 8) := Int.fdiv_eq_ediv_of_nonneg _ (Int.le_of_lt (pp _))
 have hq0 : 0 ≤ dig 8 (num K) (t / 8) / 2 ^ (t % 8) := Int.ediv_nonneg hr.1 (Int.le_of_lt (pp _))
 have hq1 : dig 8 (num K) (t / 8) / 2 ^ (t % 8) ≤ dig 8 (num K) (t / 8) := Int.ediv_le_self _ hr.1
 have e1 : bits .and .u8 (dig 8 (num K) (t / 8) / 2 ^ (t % 8)) 1 = dig 8 (num K) (t / 8) / 2 ^ (t % 8) % 2 := by
  have := bits_mask .u8 8 (by decide) (fun n a b => by rw [u8w]; exact Int.emod_eq_of_lt a (by simpa using b)) 1 (by decide) _ hq0 (by simp; omega)
  simpa using this
 unfold bitR
 rw [hget, hf, e1, dig_bit 8 (by decide) (num K) t]
def bitTi (K : List Int) (i : Int) : Int := bits .and .u8 (Int.fdiv (K.getD (0 + Int.toNat (IntKind.i64.wrap (Int.tdiv (254 - i) 8)) * 1) 0) (2 ^ min (Int.toNat (Int.tmod (254 - i) 8)) 8)) 1
theorem bitTi_eq {K : List Int} {n : Nat} (h : n < 255) : bitTi K (n : Int) = bitR K (254 - n) := by
 unfold bitTi bitR
 have e1 : IntKind.i64.wrap (Int.tdiv (254 - (n : Int)) 8) = (((254 - n) / 8 : Nat) : Int) := by
  rw [Int.tdiv_eq_ediv_of_nonneg (by omega)]
  rw [I64.wrap ⟨by omega, by omega⟩]
  omega
 have e2 : Int.tmod (254 - (n : Int)) 8 = (((254 - n) % 8 : Nat) : Int) := by
  rw [Int.tmod_eq_emod_of_nonneg (by omega)]
  omega
 rw [e1, e2, Int.toNat_natCast, Int.toNat_natCast, Nat.zero_add, Nat.mul_one, show min ((254 - n) % 8) 8 = (254 - n) % 8 by omega]
def obTi (i : Int) : List Prop := [decide (i < 255) = true, IntKind.i64.wrap (254 - i) = 254 - i, (8 : Int) ≠ 0, 0 ≤ IntKind.i64.wrap (Int.tdiv (254 - i) 8) ∧ IntKind.i64.wrap (Int.tdiv (254 - i) 8) < 32,
 0 + Int.toNat (IntKind.i64.wrap (Int.tdiv (254 - i) 8)) * 1 < 32, (8 : Int) ≠ 0, 0 ≤ Int.tmod (254 - i) 8, IntKind.i64.wrap (i + 1) = i + 1]
theorem obTi_ok {n : Nat} (h : n < 255) : Conj (obTi (n : Int)) := by
 have e1 : IntKind.i64.wrap (Int.tdiv (254 - (n : Int)) 8) = (254 - (n : Int)) / 8 := by
  rw [Int.tdiv_eq_ediv_of_nonneg (by omega)]
  exact I64.wrap ⟨by omega, by omega⟩
 unfold obTi
 rw [e1]
 exact ⟨decide_eq_true (by omega), I64.wrap ⟨by omega, by omega⟩, by decide, ⟨by omega, by omega⟩, by omega, by decide, by rw [Int.tmod_eq_emod_of_nonneg (by omega)]; omega, I64.wrap ⟨by omega, by omega⟩, trivial⟩
theorem tim_rnd (i last : Int) (K U x2 z2 x3 z3 : List Int) : (execK (cxE kTim 124) 13 400 loopL (slL ++ [30]) (List.range 20) (sL false last [(30, .int false .i64 i)] K U ⟨x2, z2, x3, z3⟩)).walk [.t] [] =
  some (obTi i, (.normal, sL false (bitTi K i) [(30, .int false .i64 (i + 1))] K U (stepLL U (swapLL (bits .xor .u8 (bitTi K i) last) ⟨x2, z2, x3, z3⟩)))) := by kernel_rfl
theorem tim_stop (i last : Int) (K U : List Int) (s : LL) : (execK (cxE kTim 124) 13 400 loopL (slL ++ [30]) (List.range 20) (sL false last [(30, .int false .i64 i)] K U s)).walk [.f] [] =
  some ([decide (i < 255) = false], (.exit 0, sL false last [(30, .int false .i64 i)] K U s)) := by kernel_rfl
theorem tim_end (i last : Int) (K U x2 z2 x3 z3 : List Int) : (exec (cxE kTim 124) 200 (seqR (post 6 bodyL)) (sL false last [(30, .int false .i64 i)] K U ⟨x2, z2, x3, z3⟩) fun ex s' => match ex with
   | .exit _ => .fail
   | _ => shutS tc Tryz.f67 0 s').walk [] [] = some ([], ⟨.arr false .u8 32 (cM (cP last x2 x3) (cIv (cP last z2 z3))), []⟩) := by kernel_rfl
def lsB (K : List Int) : Nat → Int
 | 0 => 0
 | n + 1 => bitR K (254 - n)
def sqT (K U : List Int) (s0 : LL) : Nat → LL
 | 0 => s0
 | n + 1 => stepLL U (swapLL (bits .xor .u8 (bitR K (254 - n)) (lsB K n)) (sqT K U s0 n))
theorem sqT_ok {K U : List Int} {s0 : LL} (h : OkLL s0) : ∀ n, OkLL (sqT K U s0 n)
 | 0 => h
 | _ + 1 => ok_step _ _
theorem lsB_01 {K : List Int} (hK : K.length = 32) (bK : ∀ x ∈ K, 0 ≤ x ∧ x < 256) : ∀ n, lsB K n = 0 ∨ lsB K n = 1
 | 0 => Or.inl rfl
 | n + 1 => by
  show bitR K (254 - n) = 0 ∨ bitR K (254 - n) = 1
  rw [bitR_eq hK bK _ (by omega)]
  exact bit_01 _
theorem sqT_lad {K U : List Int} {s0 : LL} (hK : K.length = 32) (bK : ∀ x ∈ K, 0 ≤ x ∧ x < 256) (h0 : OkLL s0) (e0 : numLL s0 = ladGo (num K) (num U) 0) : ∀ n, swapL (lsB K n) (numLL (sqT K U s0 n)) = ladGo (num K) (num U) n
 | 0 => by
  show swapL 0 (numLL s0) = _
  rw [show ∀ s : L4, swapL 0 s = s from fun _ => if_pos (by decide)]
  exact e0
 | n + 1 => by
  have ih := sqT_lad hK bK h0 e0 n
  have hbit := bitR_eq hK bK (254 - n) (by omega)
  have hb01 := bit_01 (num K / 2 ^ (254 - n))
  show swapL (bitR K (254 - n)) (numLL (stepLL U (swapLL (bits .xor .u8 (bitR K (254 - n)) (lsB K n)) (sqT K U s0 n)))) = _
  rw [num_step, num_swap (sqT_ok h0 n), ← swapL_swapL (by rw [hbit]; exact hb01) (lsB_01 hK bK n), ih, hbit]
  rfl
theorem ok_zeroL : zeroL.length = 32 ∧ ∀ x ∈ zeroL, 0 ≤ x ∧ x < 256 := ⟨rfl, fun x hx => by
 have := List.eq_of_mem_replicate hx
 omega⟩
theorem ok_oneL : oneL.length = 32 ∧ ∀ x ∈ oneL, 0 ≤ x ∧ x < 256 := ⟨rfl, fun x hx => by
 rcases List.mem_cons.1 hx with rfl | hx
 ·omega
 ·have := List.eq_of_mem_replicate hx
  omega⟩
theorem num_zeroL : num zeroL = 0 := by decide
theorem num_oneL : num oneL = 1 := by decide
theorem cM_cI (a b : List Int) : cM a (cIv b) = bytesOf 32 (num a * invGo (num b) 255 % p25) := by
 unfold cM
 rw [num_cI]
theorem times_val {k u : List Int} (hk : k.length = 32) (bk : ∀ x ∈ k, 0 ≤ x ∧ x < 256) (hu : u.length = 32) (bu : ∀ x ∈ u, 0 ≤ x ∧ x < 256) (s : LL) (hok : OkLL s) (b : Int) (hl : swapL b (numLL s) = ladGo (num (trimB k)) (num (maskU u)) 255) :
  cM (cP b s.x2 s.x3) (cIv (cP b s.z2 s.z3)) = bytesOf 32 (lad (tkN (num k)) (num u % 57896044618658097711785492504343953926634992332820282019728792003956564819968)) := by
 unfold lad
 rw [← num_trimB hk bk, ← num_maskU hu bu, ← hl, cM_cI, num_cP hok.x2 hok.x3, num_cP hok.z2 hok.z3]
 unfold swapL
 split <;> rfl
noncomputable abbrev fTimes : Spec := FA2 .u8 .u8 .u8 32 32 32 fun k u => bytesOf 32 (lad (tkN (num k)) (num u % 57896044618658097711785492504343953926634992332820282019728792003956564819968))
theorem times_ok : FnOk Tryz.prog gl 67 fTimes := by
 refine fnOk_A2 fun k u hk hu hw hw' => ?_
 have bk : ∀ x ∈ k, 0 ≤ x ∧ x < 256 := fun x hx => wf_u8.1 (hw x hx)
 have bu : ∀ x ∈ u, 0 ≤ x ∧ x < 256 := fun x hx => wf_u8.1 (hw' x hx)
 have hK : (trimB k).length = 32 := by rw [trimB_length]; exact hk
 have okU : (maskU u).length = 32 ∧ ∀ x ∈ maskU u, 0 ≤ x ∧ x < 256 := ⟨by rw [maskU_length]; exact hu, maskU_bytes bu⟩
 have ok0 : OkLL ⟨oneL, zeroL, maskU u, oneL⟩ := ⟨ok_oneL, ok_zeroL, okU, ok_oneL⟩
 have bK := trimB_bytes hk bk
 have e0 : numLL ⟨oneL, zeroL, maskU u, oneL⟩ = ladGo (num (trimB k)) (num (maskU u)) 0 := by
  show (⟨num oneL, num zeroL, num (maskU u), num oneL⟩ : L4) = ⟨1, 0, num (maskU u), 1⟩
  rw [num_oneL, num_zeroL]
 refine con_tri kTim_ok Tryz.func67 (by kernel_rfl) (show Tryz.f67.body = some bodyL by kernel_rfl) (by kernel_rfl) (fun B hB => ?_)
 have hC := cxE_ok kTim_ok 124
 have run := tim_pre k u
 rw [tab_eq' hk, tab_eq' hu] at run
 refine tri_pk hC hB (by kernel_rfl) 6 run conj_nil ?_
 rw [tim_code]
 refine tri_seqN (P := fun s => s = sL false (lsB (trimB k) 255) [(30, .int false .i64 ((255 : Nat) : Int))] (trimB k) (maskU u) (sqT (trimB k) (maskU u) ⟨oneL, zeroL, maskU u, oneL⟩ 255)) ?_ (fun s' h => ?_)
 ·refine tri_pk hC hB (by kernel_rfl) 1 (tim_ini _ _ _ _) conj_nil ?_
  rw [tim_code2]
  refine tri_pre (s' := sL false (lsB (trimB k) 0) [(30, .int false .i64 ((0 : Nat) : Int))] (trimB k) (maskU u) (sqT (trimB k) (maskU u) ⟨oneL, zeroL, maskU u, oneL⟩ 0)) (less_stM rfl rfl)
   (tri_range (fun n => sL false (lsB (trimB k) n) [(30, .int false .i64 (n : Int))] (trimB k) (maskU u) (sqT (trimB k) (maskU u) ⟨oneL, zeroL, maskU u, oneL⟩ n)) 255 (fun n hn => ?_) ?_)
  ·have rnd := tim_rnd (n : Int) (lsB (trimB k) n) (trimB k) (maskU u) (sqT (trimB k) (maskU u) ⟨oneL, zeroL, maskU u, oneL⟩ n).x2 (sqT (trimB k) (maskU u) ⟨oneL, zeroL, maskU u, oneL⟩ n).z2 (sqT (trimB k) (maskU u) ⟨oneL, zeroL, maskU u, oneL⟩ n).x3 (sqT (trimB k) (maskU u) ⟨oneL, zeroL, maskU u, oneL⟩ n).z3
   rw [bitTi_eq hn] at rnd
   exact tri_wk hC hB (by kernel_rfl) rnd (obTi_ok hn) ⟨rfl, rfl⟩
  ·exact tri_wk hC hB (by kernel_rfl) (tim_stop ((255 : Nat) : Int) _ _ _ _) ⟨decide_eq_false (by omega), trivial⟩ ⟨rfl, rfl⟩
 ·subst h
  have fin := tim_end ((255 : Nat) : Int) (lsB (trimB k) 255) (trimB k) (maskU u) (sqT (trimB k) (maskU u) ⟨oneL, zeroL, maskU u, oneL⟩ 255).x2 (sqT (trimB k) (maskU u) ⟨oneL, zeroL, maskU u, oneL⟩ 255).z2 (sqT (trimB k) (maskU u) ⟨oneL, zeroL, maskU u, oneL⟩ 255).x3 (sqT (trimB k) (maskU u) ⟨oneL, zeroL, maskU u, oneL⟩ 255).z3
  rw [times_val hk bk hu bu _ (sqT_ok ok0 255) _ (sqT_lad hK bK ok0 e0 255)] at fin
  exact tri_end hC fin conj_nil
end
section
theorem num_numN : ∀ {l : List Int}, (∀ x ∈ l, 0 ≤ x ∧ x < 256) → num l = (numN l : Int)
 | [], _ => rfl
 | x :: l, h => by
  have hx := h x (by simp)
  have ih := num_numN (l := l) fun y hy => h y (by simp [hy])
  show x + 256 * num l = ((x.toNat + 256 * numN l : Nat) : Int)
  rw [ih]
  omega
theorem bytsN_eq : ∀ (m n : Nat), bytsN m n = bytesOf m (n : Int)
 | 0, _ => rfl
 | m + 1, n => by
  have ih := bytsN_eq m (n / 256)
  unfold bytesOf at ih ⊢
  show ((n % 256 : Nat) : Int) :: bytsN m (n / 256) = ((n : Int) / 256 ^ 0 % 256) :: bytesFrom (0 + 1) n m
  rw [ih, show (0 + 1 : Nat) = 1 + 0 from rfl, bytesFrom_div]
  congr 1
  simp
theorem p25_pN : p25 = (pN : Int) := rfl
theorem castA (a b : Nat) : (((a + b) % pN : Nat) : Int) = ((a : Int) + b) % p25 := by rw [p25_pN, Int.natCast_emod, Int.natCast_add]
theorem castM (a b : Nat) : ((a * b % pN : Nat) : Int) = (a : Int) * b % p25 := by rw [p25_pN, Int.natCast_emod, Int.natCast_mul]
theorem castS {a b : Nat} (h : b < pN) : (((a + pN - b) % pN : Nat) : Int) = ((a : Int) - b) % p25 := by
 rw [p25_pN, Int.natCast_emod, show ((a + pN - b : Nat) : Int) = ((a : Int) - b) + (pN : Int) * 1 by omega, Int.add_mul_emod_self_left]
theorem aem (A B : Int) : (A + B % p25) % p25 = (A + B) % p25 := by rw [Int.add_emod, Int.emod_emod, ← Int.add_emod]
def castL (s : LN) : L4 := ⟨s.x2, s.z2, s.x3, s.z3⟩
theorem pN_pos : 0 < pN := by decide
theorem cast_step {u : Nat} {s : LN} (h2 : s.z2 < pN) (h3 : s.z3 < pN) : castL (stepN u s) = stepL u (castL s) := by
 have lt : ∀ n : Nat, n % pN < pN := fun n => Nat.mod_lt _ pN_pos
 unfold stepN stepL castL
 simp only [L4.mk.injEq]
 refine ⟨?_, ?_, ?_, ?_⟩
 ·rw [castM, castM, castA, castM, castS h2]
 ·rw [castM, castA, Int.natCast_mul, castS (lt _), castM, castA, castM, castS h2]
  rw [aem]
  rfl
 ·rw [castM, castA, castM, castM, castS h3, castA, castA, castS h2]
 ·rw [castM, castM, castS (lt _), castM, castM, castS h3, castA, castA, castS h2]
theorem step_lt (u : Nat) (s : LN) : (stepN u s).z2 < pN ∧ (stepN u s).z3 < pN := ⟨Nat.mod_lt _ pN_pos, Nat.mod_lt _ pN_pos⟩
theorem swapN_lt {b : Nat} {s : LN} (h : s.z2 < pN ∧ s.z3 < pN) : (swapN b s).z2 < pN ∧ (swapN b s).z3 < pN := by
 unfold swapN
 split
 ·exact h
 ·exact ⟨h.2, h.1⟩
theorem cast_swap {b : Nat} (hb : b < 2) (s : LN) : castL (swapN b s) = swapL (b : Int) (castL s) := by
 match b, hb with
 | 0, _ => rfl
 | 1, _ => rfl
theorem cast_go (k u : Nat) : ∀ n, castL (goN k u n) = ladGo k u n ∧ (goN k u n).z2 < pN ∧ (goN k u n).z3 < pN
 | 0 => ⟨rfl, (by decide : 0 < pN), (by decide : 1 < pN)⟩
 | n + 1 => by
  obtain ⟨h1, h2⟩ := cast_go k u n
  have hb : k / 2 ^ (254 - n) % 2 < 2 := Nat.mod_lt _ (by decide)
  have hw := swapN_lt (b := k / 2 ^ (254 - n) % 2) h2
  have e : ((k / 2 ^ (254 - n) % 2 : Nat) : Int) = (k : Int) / 2 ^ (254 - n) % 2 := by simp
  refine ⟨?_, swapN_lt (step_lt u _)⟩
  show castL (swapN (k / 2 ^ (254 - n) % 2) (stepN u (swapN (k / 2 ^ (254 - n) % 2) (goN k u n)))) = swapL ((k : Int) / 2 ^ (254 - n) % 2) (stepL u (swapL ((k : Int) / 2 ^ (254 - n) % 2) (ladGo k u n)))
  rw [cast_swap hb, cast_step hw.1 hw.2, cast_swap hb, h1, e]
theorem powN_eq : ∀ (m z e a : Nat), e < 2 ^ m → powN z m e a % pN = a * z ^ e % pN
 | 0, z, e, a, h => by
  have : e = 0 := by simpa using h
  subst this
  simp [powN]
 | m + 1, z, e, a, h => by
  have hq : e / 2 < 2 ^ m := by rw [Nat.pow_succ] at h; omega
  have hz : ∀ x y : Nat, x * (z * z % pN) ^ y % pN = x * (z * z) ^ y % pN := fun x y => by
   rw [Nat.mul_mod, Nat.pow_mod, Nat.mod_mod, ← Nat.pow_mod, ← Nat.mul_mod]
  have he : e = 2 * (e / 2) + e % 2 := by omega
  have hp : ∀ q : Nat, (z * z) ^ q = z ^ (2 * q) := fun q => by rw [Nat.pow_mul, Nat.pow_two]
  show powN (z * z % pN) m (e / 2) (match e % 2 with | 0 => a | _ + 1 => a * z % pN) % pN = _
  rw [powN_eq m _ _ _ hq, hz, hp]
  have h01 : e % 2 = 0 ∨ e % 2 = 1 := by omega
  rcases h01 with h0 | h1
  ·rw [h0] at he ⊢
   show a * z ^ (2 * (e / 2)) % pN = a * z ^ e % pN
   rw [show 2 * (e / 2) = e by omega]
  ·rw [h1] at he ⊢
   show a * z % pN * z ^ (2 * (e / 2)) % pN = a * z ^ e % pN
   rw [Nat.mul_mod, Nat.mod_mod, ← Nat.mul_mod, Nat.mul_assoc, ← Nat.pow_succ', show (2 * (e / 2)).succ = e by omega]
def eIv : Nat → Nat
 | 0 => 0
 | n + 1 => if n = 250 ∨ n = 252 then 2 * eIv n else 2 * eIv n + 1
theorem eIv_255 : eIv 255 = pN - 2 := by decide +kernel
theorem invGo_pow (x : Int) : ∀ n, invGo x n = x ^ eIv n % p25
 | 0 => (show (1 : Int) = x ^ 0 % p25 by rw [Int.pow_zero]; decide)
 | n + 1 => by
  have ih := invGo_pow x n
  show (if n = 250 ∨ n = 252 then _ else _) = x ^ (if n = 250 ∨ n = 252 then _ else _) % p25
  have sq : invGo x n * invGo x n % p25 = x ^ (2 * eIv n) % p25 := by
   rw [ih, ← Int.mul_emod, ← Int.pow_add]
   congr 2
   omega
  split
  ·exact sq
  ·rw [sq, emm, ← Int.pow_succ]
theorem inv_cast (z : Nat) : ((invN z % pN : Nat) : Int) = invGo (z : Int) 255 := by
 unfold invN
 rw [powN_eq 255 z (pN - 2) 1 (by decide), Nat.one_mul, invGo_pow, eIv_255, p25_pN, Int.natCast_emod, Int.natCast_pow]
theorem trim_cast (k : Nat) : ((trimN k : Nat) : Int) = tkN (k : Int) := by
 unfold trimN tkN
 omega
theorem times_aux (s : LN) : bytsN 32 (s.x2 * invN s.z2 % pN) = bytesOf 32 ((castL s).x2 * invGo (castL s).z2 255 % p25) := by
 have e : ((s.x2 * invN s.z2 % pN : Nat) : Int) = (s.x2 : Int) * invGo (s.z2 : Int) 255 % p25 := by
  rw [Nat.mul_mod, ← Nat.mod_mod (invN s.z2) pN, ← Nat.mul_mod, castM, inv_cast]
 rw [bytsN_eq, e]
 rfl
theorem times_eq {ks us : List Int} (hk : ∀ x ∈ ks, 0 ≤ x ∧ x < 256) (hu : ∀ x ∈ us, 0 ≤ x ∧ x < 256) :
  bytesOf 32 (lad (tkN (num ks)) (num us % 57896044618658097711785492504343953926634992332820282019728792003956564819968)) = timesL ks us := by
 have hg := cast_go (trimN (numN ks)) (numN us % 57896044618658097711785492504343953926634992332820282019728792003956564819968) 255
 have e1 : ((numN us % 57896044618658097711785492504343953926634992332820282019728792003956564819968 : Nat) : Int) = num us % 57896044618658097711785492504343953926634992332820282019728792003956564819968 := by
  rw [num_numN hu]
  omega
 rw [trim_cast, ← num_numN hk, e1] at hg
 have e2 : lad (tkN (num ks)) (num us % 57896044618658097711785492504343953926634992332820282019728792003956564819968) = (ladGo (tkN (num ks)) (num us % 57896044618658097711785492504343953926634992332820282019728792003956564819968) 255).x2 * invGo (ladGo (tkN (num ks)) (num us % 57896044618658097711785492504343953926634992332820282019728792003956564819968) 255).z2 255 % p25 := by
  unfold lad
  rfl
 rw [e2, ← hg.1]
 exact (times_aux _).symm
theorem f67_ok : FnOk Tryz.prog gl 67 F67 := by
 intro args mem r h
 unfold F67 at h
 split at h
 case h_2 => exact h.elim
 rename_i l1 ks l2 us
 rw [timesK_eq] at h
 have h := Tr.is_leaf.1 h
 subst h
 refine con_wf fun hw _ => ?_
 have hk : ∀ x ∈ ks, 0 ≤ x ∧ x < 256 := fun x hx => wf_u8.1 (hw.1.2 x hx)
 have hu : ∀ x ∈ us, 0 ≤ x ∧ x < 256 := fun x hx => wf_u8.1 (hw.2.1.2 x hx)
 have con := times_ok [.arr false .u8 32 ks, .arr false .u8 32 us] [] ⟨.arr false .u8 32 (bytesOf 32 (lad (tkN (num ks)) (num us % 57896044618658097711785492504343953926634992332820282019728792003956564819968))), []⟩ rfl
 rw [times_eq hk hu] at con
 exact con_to con
theorem f213_ok : FnOk Tryz.prog gl 213 F213 := by
 intro args mem r h
 unfold F213 at h
 split at h
 case h_2 => exact h.elim
 rename_i l1 ks l2 us
 rw [numK_eq, numK_eq] at h
 have h := Tr.is_leaf.1 h
 subst h
 refine con_wf fun hw _ => ?_
 have hk : ∀ x ∈ ks, 0 ≤ x ∧ x < 256 := fun x hx => wf_u8.1 (hw.1.2 x hx)
 have hu : ∀ x ∈ us, 0 ≤ x ∧ x < 256 := fun x hx => wf_u8.1 (hw.2.1.2 x hx)
 have con := equal_con hw.1.1 hw.2.1.1
 have e : decide (num ks % p25 = num us % p25) = Nat.beq (numN ks % pN) (numN us % pN) := by
  rw [num_numN hk, num_numN hu, p25_pN]
  by_cases h : numN ks % pN = numN us % pN
  ·rw [h, Nat.beq_refl]
   exact decide_eq_true (by omega)
  ·have : Nat.beq (numN ks % pN) (numN us % pN) = false := by
    cases hb : Nat.beq (numN ks % pN) (numN us % pN) with
    | false => rfl
    | true => exact absurd (Nat.eq_of_beq_eq_true hb) h
   rw [this]
   exact decide_eq_false (by omega)
 rw [e] at con
 exact con_to con
theorem f67_still : Still F67 := by
 intro args mem r h
 unfold F67 at h
 split at h
 case h_2 => exact h.elim
 rw [timesK_eq] at h
 have h := Tr.is_leaf.1 h
 subst h
 exact ⟨[], rfl⟩
theorem f213_still : Still F213 := by
 intro args mem r h
 unfold F213 at h
 split at h
 case h_2 => exact h.elim
 rw [numK_eq, numK_eq] at h
 have h := Tr.is_leaf.1 h
 subst h
 exact ⟨[], rfl⟩
end
section
theorem fnOk_V1 {f : FuncId} {k k' : IntKind} {n n' : Nat} {g : List Int → List Int} (h : ∀ l : List Int, l.length = n → (∀ x ∈ l, wf k x) → ∃ v, Con Tryz.prog gl f [.arr false k n l] [] ⟨.arr false k' n' v, []⟩ ∧ v = g l) : FnOk Tryz.prog gl f (FA1 k k' n n' g) :=
 fnOk_A1 fun l hl hw => by
  obtain ⟨v, h1, rfl⟩ := h l hl hw
  exact h1
theorem fnOk_V2 {f : FuncId} {k k1 k' : IntKind} {n n1 n' : Nat} {g : List Int → List Int → List Int}
  (h : ∀ l l' : List Int, l.length = n → l'.length = n1 → (∀ x ∈ l, wf k x) → (∀ x ∈ l', wf k1 x) → ∃ v, Con Tryz.prog gl f [.arr false k n l, .arr false k1 n1 l'] [] ⟨.arr false k' n' v, []⟩ ∧ v = g l l') : FnOk Tryz.prog gl f (FA2 k k1 k' n n1 n' g) :=
 fnOk_A2 fun l m hl hm hw hw' => by
  obtain ⟨v, h1, rfl⟩ := h l m hl hm hw hw'
  exact h1
theorem list3 {l : List Int} (h : l.length = 3) : ∃ a b c, l = [a, b, c] := by
 match l, h with
 | [a, b, c], _ => exact ⟨a, b, c, rfl⟩
theorem list17 {l : List Int} (h : l.length = 17) : ∃ a0 a1 a2 a3 a4 a5 a6 a7 a8 a9 a10 a11 a12 a13 a14 a15 a16, l = [a0, a1, a2, a3, a4, a5, a6, a7, a8, a9, a10, a11, a12, a13, a14, a15, a16] := by
 match l, h with
 | [a0, a1, a2, a3, a4, a5, a6, a7, a8, a9, a10, a11, a12, a13, a14, a15, a16], _ => exact ⟨a0, a1, a2, a3, a4, a5, a6, a7, a8, a9, a10, a11, a12, a13, a14, a15, a16, rfl⟩
def o0 : List Prop := [(0 : Int) ≤ 0]
theorem o0_ok : Conj o0 := ⟨by decide, trivial⟩
noncomputable abbrev cLoad : Spec := FA1 .u8 .u64 17 3 fun l => wordsOf 3 (num l)
theorem cload_run (a0 a1 a2 a3 a4 a5 a6 a7 a8 a9 a10 a11 a12 a13 a14 a15 a16 : Int) : Goes (callRun tc ((env []).fn 20) Tryz.f285 1000 [.arr false .u8 17 [a0, a1, a2, a3, a4, a5, a6, a7, a8, a9, a10, a11, a12, a13, a14, a15, a16]] []) [] (sh8 ++ (sh8 ++ o0)) ⟨.arr false .u64 3 ([orW 0 0 [a0, a1, a2, a3, a4, a5, a6, a7], orW 0 0 [a8, a9, a10, a11, a12, a13, a14, a15], orW 0 0 [a16]]), []⟩ := by
 unfold Goes
 kernel_rfl
theorem cload_ok : FnOk Tryz.prog gl 285 cLoad := by
 refine fnOk_V1 fun l hl hw => ?_
 obtain ⟨a0, a1, a2, a3, a4, a5, a6, a7, a8, a9, a10, a11, a12, a13, a14, a15, a16, rfl⟩ := list17 hl
 refine ⟨_, con_goes cons0 Tryz.func285 1000 (cload_run ..) (Conj.app sh8_ok (Conj.app sh8_ok o0_ok)), ?_⟩
 have hb : ∀ x ∈ [a0, a1, a2, a3, a4, a5, a6, a7, a8, a9, a10, a11, a12, a13, a14, a15, a16], 0 ≤ x ∧ x < 256 := fun x hx => wf_u8.1 (hw x hx)
 have e : ([a0, a1, a2, a3, a4, a5, a6, a7, a8, a9, a10, a11, a12, a13, a14, a15, a16] : List Int) = [a0, a1, a2, a3, a4, a5, a6, a7] ++ ([a8, a9, a10, a11, a12, a13, a14, a15] ++ [a16]) := rfl
 have b1 : ∀ x ∈ [a0, a1, a2, a3, a4, a5, a6, a7], 0 ≤ x ∧ x < 256 := fun x hx => hb x (by rw [e]; exact List.mem_append_left _ hx)
 have b2 : ∀ x ∈ [a8, a9, a10, a11, a12, a13, a14, a15], 0 ≤ x ∧ x < 256 := fun x hx => hb x (by rw [e]; exact List.mem_append_right _ (List.mem_append_left _ hx))
 have b3 : ∀ x ∈ [a16], 0 ≤ x ∧ x < 256 := fun x hx => hb x (by rw [e]; exact List.mem_append_right _ (List.mem_append_right _ hx))
 rw [e, num_append, num_append, orW_num _ 0 0 (by simp) b1 (by decide) (by decide), orW_num _ 0 0 (by simp) b2 (by decide) (by decide), orW_num _ 0 0 (by simp) b3 (by decide) (by decide)]
 have r1 := num_range _ b1
 have r2 := num_range _ b2
 have r3 := num_range _ b3
 simp only [List.length_cons, List.length_nil] at r1 r2 r3 ⊢
 generalize num [a0, a1, a2, a3, a4, a5, a6, a7] = p at *
 generalize num [a8, a9, a10, a11, a12, a13, a14, a15] = q at *
 generalize num [a16] = r at *
 have h8 : (256 : Int) ^ (0 + 1 + 1 + 1 + 1 + 1 + 1 + 1 + 1) = 18446744073709551616 := by decide
 have h1 : (256 : Int) ^ (0 + 1) = 256 := by decide
 rw [h8] at r1 r2 ⊢
 rw [h1] at r3
 simp only [wordsOf, wordsFrom]
 have p0 : (18446744073709551616 : Int) ^ 0 = 1 := by decide
 have p1 : (18446744073709551616 : Int) ^ (0 + 1) = 18446744073709551616 := by decide
 have p2 : (18446744073709551616 : Int) ^ (0 + 1 + 1) = 340282366920938463463374607431768211456 := by decide
 have p3 : (2 : Int) ^ (8 * 0) = 1 := by decide
 rw [p0, p1, p2, p3]
 congr 1
 ·omega
 ·congr 1
  ·omega
  ·congr 1
   omega
noncomputable abbrev cStore : Spec := FA1 .u64 .u8 3 17 fun l => bytesOf 17 (wnum l)
theorem cstore_run (a b c : Int) : Goes (callRun tc ((env []).fn 20) Tryz.f286 1000 [.arr false .u64 3 [a, b, c]] []) [] (sh8 ++ (sh8 ++ o0)) ⟨.arr false .u8 17 (stFrom a 0 8 ++ (stFrom b 0 8 ++ stFrom c 0 1)), []⟩ := by
 unfold Goes
 kernel_rfl
theorem cstore_ok : FnOk Tryz.prog gl 286 cStore := by
 refine fnOk_V1 fun l hl hw => ?_
 obtain ⟨a, b, c, rfl⟩ := list3 hl
 refine ⟨_, con_goes cons0 Tryz.func286 1000 (cstore_run ..) (Conj.app sh8_ok (Conj.app sh8_ok o0_ok)), ?_⟩
 have ha := wf_u64.1 (hw a (by simp))
 have hb := wf_u64.1 (hw b (by simp))
 simp only [stFrom_bytes, wnum]
 rw [show (17 : Nat) = 8 + (8 + 1) by rfl, bytesOf_word _ _ _ ha.1 ha.2, bytesOf_word _ _ _ hb.1 hb.2]
 simp [bytesOf]
def fold1 (n : Int) : Int := n % 1361129467683753853853498429727072845824 + 5 * (n / 1361129467683753853853498429727072845824)
noncomputable abbrev cFold : Spec := FA1 .u64 .u64 3 3 fun l => wordsOf 3 (fold1 (fold1 (wnum l)))
def foldQ (w : List Int) : List Int :=
 match w with
 | [w0, w1, w2] =>
  let ab := w2.fdiv (2 ^ 2)
  let v2 := bits .and .u64 w2 3
  let lo := ab * 5 % b64
  let hi := ab * 5 / b64
  let c1 := carry w0 lo false
  let c2 := carry w1 hi c1
  [addc w0 lo false, addc w1 hi c1, IntKind.u64.wrap (v2 + bi c2)]
 | _ => []
def obF (w : List Int) : List Prop := [(0 : Int) ≤ 2, o01 0, o01 (bi (carry (w.getD 0 0) ((w.getD 2 0).fdiv (2 ^ 2) * 5 % b64) false))]
theorem obF_ok (w : List Int) : Conj (obF w) := ⟨by decide, o01_0, o01_bi _, trivial⟩
theorem cfold_run (a b c : Int) : Goes (callRun tc ((env kMore).fn 20) Tryz.f284 1000 [.arr false .u64 3 [a, b, c]] []) [] (obF [a, b, c] ++ obF (foldQ [a, b, c])) ⟨.arr false .u64 3 (foldQ (foldQ [a, b, c])), []⟩ := by
 unfold Goes
 kernel_rfl
theorem fdiv4Q (n : Int) : n.fdiv (2 ^ 2) = n / 4 := by
 rw [show (2 : Int) ^ 2 = 4 by decide, Int.fdiv_eq_ediv_of_nonneg _ (by decide)]
theorem foldQ_eq (a b c : Int) (ha : 0 ≤ a ∧ a < 18446744073709551616) (hb : 0 ≤ b ∧ b < 18446744073709551616) (hc : 0 ≤ c ∧ c < 18446744073709551616) :
  ∃ a' b' c', foldQ [a, b, c] = [a', b', c'] ∧ (0 ≤ a' ∧ a' < 18446744073709551616) ∧ (0 ≤ b' ∧ b' < 18446744073709551616) ∧ (0 ≤ c' ∧ c' ≤ 4) ∧ wnum [a', b', c'] = fold1 (wnum [a, b, c]) := by
 refine ⟨_, _, _, rfl, ?_⟩
 have m := and_mask 2 (by decide) c hc.1 hc.2
 rw [show (2 : Int) ^ 2 - 1 = 3 by decide, show (2 : Int) ^ 2 = 4 by decide] at m
 simp only [fdiv4Q, m]
 have e1 := addc_split a (c / 4 * 5 % b64) false ha.1 ha.2 (by unfold b64; omega) (by unfold b64; omega)
 have e2 := addc_split b (c / 4 * 5 / b64) (carry a (c / 4 * 5 % b64) false) hb.1 hb.2 (by unfold b64; omega) (by unfold b64; omega)
 rw [show bi false = 0 from rfl] at e1
 have k1 := bi_range (carry a (c / 4 * 5 % b64) false)
 have k2 := bi_range (carry b (c / 4 * 5 / b64) (carry a (c / 4 * 5 % b64) false))
 generalize addc a (c / 4 * 5 % b64) false = a' at *
 generalize addc b (c / 4 * 5 / b64) (carry a (c / 4 * 5 % b64) false) = b' at *
 generalize bi (carry b (c / 4 * 5 / b64) (carry a (c / 4 * 5 % b64) false)) = k2' at *
 generalize bi (carry a (c / 4 * 5 % b64) false) = k1' at *
 rw [u64w _ (by omega) (by omega)]
 refine ⟨e1.2, e2.2, by omega, ?_⟩
 simp only [wnum, fold1]
 unfold b64 at *
 have d1 : (a + 18446744073709551616 * (b + 18446744073709551616 * (c + 18446744073709551616 * 0))) / 1361129467683753853853498429727072845824 = c / 4 := by omega
 have d2 : (a + 18446744073709551616 * (b + 18446744073709551616 * (c + 18446744073709551616 * 0))) % 1361129467683753853853498429727072845824 = a + 18446744073709551616 * (b + 18446744073709551616 * (c % 4)) := by omega
 rw [d1, d2]
 omega
theorem cfold_ok : FnOk Tryz.prog gl 284 cFold := by
 refine fnOk_V1 fun l hl hw => ?_
 obtain ⟨a, b, c, rfl⟩ := list3 hl
 refine ⟨_, con_goes kMore_ok Tryz.func284 1000 (cfold_run ..) (Conj.app (obF_ok _) (obF_ok _)), ?_⟩
 have ha := wf_u64.1 (hw a (by simp))
 have hb := wf_u64.1 (hw b (by simp))
 have hc := wf_u64.1 (hw c (by simp))
 obtain ⟨a', b', c', e1, ha', hb', hc', e2⟩ := foldQ_eq a b c ha hb hc
 obtain ⟨a2, b2, c2, e3, ha2, hb2, hc2, e4⟩ := foldQ_eq a' b' c' ha' hb' ⟨hc'.1, by omega⟩
 rw [e1, e3, ← e2, ← e4]
 have := wordsOf_wnum [a2, b2, c2] (fun x hx => by
  simp only [List.mem_cons, List.not_mem_nil, or_false] at hx
  rcases hx with rfl | rfl | rfl
  ·exact ha2
  ·exact hb2
  ·exact ⟨hc2.1, by omega⟩)
 exact this.symm
def q130 : Int := 1361129467683753853853498429727072845819
noncomputable abbrev cCanonW : Spec := FA1 .u64 .u64 3 3 fun l => wordsOf 3 (wnum l % q130)
noncomputable abbrev kFold : Cons := [(284, cFold), (244, FSub)]
theorem kFold_ok : ConsOk kFold := consOk_of (fun p hp => by
 simp only [kFold, List.mem_cons, List.not_mem_nil, or_false] at hp
 rcases hp with rfl | rfl
 ·exact cfold_ok
 ·exact fsub_ok) (by decide)
def canonQ (w : List Int) : List Int :=
 match w with
 | [w0, w1, w2] =>
  let b1 := borrow w0 18446744073709551611 false
  let b2 := borrow w1 18446744073709551615 b1
  let b3 := borrow w2 3 b2
  [pickW b3 (subc w0 18446744073709551611 false) w0, pickW b3 (subc w1 18446744073709551615 b1) w1, pickW b3 (subc w2 3 b2) w2]
 | _ => []
def obB3 (w y : List Int) : List Prop := [o01 0, o01 (bi (borrow (w.getD 0 0) (y.getD 0 0) false)), o01 (bi (borrow (w.getD 1 0) (y.getD 1 0) (borrow (w.getD 0 0) (y.getD 0 0) false)))]
theorem obB3_ok (w y : List Int) : Conj (obB3 w y) := ⟨o01_0, o01_bi _, o01_bi _, trivial⟩
def obC3 (w y : List Int) : List Prop := [o01 0, o01 (bi (carry (w.getD 0 0) (y.getD 0 0) false)), o01 (bi (carry (w.getD 1 0) (y.getD 1 0) (carry (w.getD 0 0) (y.getD 0 0) false)))]
theorem obC3_ok (w y : List Int) : Conj (obC3 w y) := ⟨o01_0, o01_bi _, o01_bi _, trivial⟩
theorem ccanon_run (a b c : Int) : Goes (callRun tc ((env kFold).fn 20) Tryz.f287 1000 [.arr false .u64 3 [a, b, c]] []) [] (obB3 (wordsOf 3 (fold1 (fold1 (wnum [a, b, c])))) [18446744073709551611, 18446744073709551615]) ⟨.arr false .u64 3 ((canonQ (wordsOf 3 (fold1 (fold1 (wnum [a, b, c])))))), []⟩ := by
 unfold Goes
 kernel_rfl
theorem canonQ_eq (a b c : Int) (ha : 0 ≤ a ∧ a < 18446744073709551616) (hb : 0 ≤ b ∧ b < 18446744073709551616) (hc : 0 ≤ c ∧ c < 18446744073709551616) :
  ∃ a' b' c', canonQ [a, b, c] = [a', b', c'] ∧ (0 ≤ a' ∧ a' < 18446744073709551616) ∧ (0 ≤ b' ∧ b' < 18446744073709551616) ∧ (0 ≤ c' ∧ c' < 18446744073709551616) ∧
   wnum [a', b', c'] = if wnum [a, b, c] < q130 then wnum [a, b, c] else wnum [a, b, c] - q130 := by
 refine ⟨_, _, _, rfl, ?_⟩
 have e1 := subc_split a 18446744073709551611 false ha.1 ha.2 (by decide) (by decide)
 have e2 := subc_split b 18446744073709551615 (borrow a 18446744073709551611 false) hb.1 hb.2 (by decide) (by decide)
 have e3 := subc_split c 3 (borrow b 18446744073709551615 (borrow a 18446744073709551611 false)) hc.1 hc.2 (by decide) (by decide)
 rw [show bi false = 0 from rfl] at e1
 rw [pickW_eq _ _ _ e1.2.1 e1.2.2 ha.1 ha.2, pickW_eq _ _ _ e2.2.1 e2.2.2 hb.1 hb.2, pickW_eq _ _ _ e3.2.1 e3.2.2 hc.1 hc.2]
 have k1 := bi_range (borrow a 18446744073709551611 false)
 have k2 := bi_range (borrow b 18446744073709551615 (borrow a 18446744073709551611 false))
 generalize borrow a 18446744073709551611 false = b1 at *
 generalize borrow b 18446744073709551615 b1 = b2 at *
 generalize subc a 18446744073709551611 false = a' at *
 generalize subc b 18446744073709551615 b1 = b' at *
 generalize subc c 3 b2 = c' at *
 generalize bi b1 = k1' at *
 generalize bi b2 = k2' at *
 cases hb3 : borrow c 3 b2 with
 | true =>
  rw [hb3, show bi true = 1 from rfl] at e3
  simp only [if_true]
  refine ⟨ha, hb, hc, ?_⟩
  rw [if_pos (by simp only [wnum, q130]; omega)]
 | false =>
  rw [hb3, show bi false = 0 from rfl] at e3
  simp only [Bool.false_eq_true, if_false]
  refine ⟨e1.2, e2.2, e3.2, ?_⟩
  rw [if_neg (by simp only [wnum, q130]; omega)]
  simp only [wnum, q130]
  omega
theorem fold2_range (n : Int) (h0 : 0 ≤ n) (h1 : n < 6277101735386680763835789423207666416102355444464034512896) : 0 ≤ fold1 (fold1 n) ∧ fold1 (fold1 n) < 1361129467683753853853498429727072845824 ∧ fold1 (fold1 n) % q130 = n % q130 := by
 have key : ∀ m : Int, 0 ≤ m → 0 ≤ fold1 m ∧ fold1 m % q130 = m % q130 := by
  intro m hm
  refine ⟨by unfold fold1; omega, ?_⟩
  have e : m = fold1 m + q130 * (m / 1361129467683753853853498429727072845824) := by unfold fold1 q130; omega
  conv => rhs; rw [e]
  rw [Int.add_mul_emod_self_left]
 obtain ⟨a1, a2⟩ := key n h0
 obtain ⟨b1, b2⟩ := key (fold1 n) a1
 refine ⟨b1, ?_, b2.trans a2⟩
 unfold fold1
 omega
theorem wnum_wordsOf3 (n : Int) (h0 : 0 ≤ n) (h1 : n < 6277101735386680763835789423207666416102355444464034512896) : wnum (wordsOf 3 n) = n := by
 rw [wnum_wordsOf, show (18446744073709551616 : Int) ^ 3 = 6277101735386680763835789423207666416102355444464034512896 by decide]
 exact Int.emod_eq_of_lt h0 h1
theorem wordsOf_rangeQ (n : Int) : ∀ (m k : Nat), ∀ x ∈ wordsFrom k n m, 0 ≤ x ∧ x < 18446744073709551616
 | 0, _, x, h => by cases h
 | m + 1, k, x, h => by
  simp only [wordsFrom, List.mem_cons] at h
  rcases h with rfl | h
  ·omega
  ·exact wordsOf_rangeQ n m (k + 1) x h
theorem ccanonW_ok : FnOk Tryz.prog gl 287 cCanonW := by
 refine fnOk_V1 fun l hl hw => ?_
 obtain ⟨a, b, c, rfl⟩ := list3 hl
 refine ⟨_, con_goes kFold_ok Tryz.func287 1000 (ccanon_run ..) (obB3_ok _ _), ?_⟩
 have hr := wnum_range [a, b, c] (fun x hx => wf_u64.1 (hw x hx))
 obtain ⟨f0, f1, f2⟩ := fold2_range (wnum [a, b, c]) hr.1 (by have := hr.2; simp only [List.length_cons, List.length_nil] at this; rwa [show (18446744073709551616 : Int) ^ (0 + 1 + 1 + 1) = 6277101735386680763835789423207666416102355444464034512896 by decide] at this)
 rw [← f2]
 generalize fold1 (fold1 (wnum [a, b, c])) = n at *
 have hwr := wordsOf_rangeQ n 3 0
 have hwn := wnum_wordsOf3 n f0 (by omega)
 obtain ⟨x, y, z, hxyz⟩ := list3 (l := wordsOf 3 n) rfl
 unfold wordsOf at hxyz hwn
 rw [hxyz] at hwr hwn
 unfold wordsOf
 rw [hxyz]
 obtain ⟨a', b', c', e1, ha', hb', hc', e2⟩ := canonQ_eq x y z (hwr x (by simp)) (hwr y (by simp)) (hwr z (by simp))
 rw [e1]
 have := wordsOf_wnum [a', b', c'] (fun x hx => by
  simp only [List.mem_cons, List.not_mem_nil, or_false] at hx
  rcases hx with rfl | rfl | rfl
  ·exact ha'
  ·exact hb'
  ·exact hc')
 rw [← this, e2, hwn]
 unfold wordsOf
 congr 1
 split
 ·rename_i h
  exact (Int.emod_eq_of_lt f0 h).symm
 ·rename_i h
  have e : n = (n - q130) + q130 * 1 := by omega
  conv => rhs; rw [e]
  rw [Int.add_mul_emod_self_left]
  exact (Int.emod_eq_of_lt (by omega) (by unfold q130 at *; omega)).symm
noncomputable abbrev cCanon : Spec := FA1 .u8 .u8 17 17 fun l => bytesOf 17 (num l % q130)
noncomputable abbrev kCw : Cons := [(285, cLoad), (286, cStore), (287, cCanonW), (284, cFold), (245, FMul64), (242, FAdd)]
theorem kCw_ok : ConsOk kCw := consOk_of (fun p hp => by
 simp only [kCw, List.mem_cons, List.not_mem_nil, or_false] at hp
 rcases hp with rfl | rfl | rfl | rfl | rfl | rfl
 ·exact cload_ok
 ·exact cstore_ok
 ·exact ccanonW_ok
 ·exact cfold_ok
 ·exact fmul64_ok
 ·exact fadd_ok) (by decide)
theorem num17_range {l : List Int} (hl : l.length = 17) (hw : ∀ x ∈ l, wf .u8 x) : 0 ≤ num l ∧ num l < 87112285931760246646623899502532662132736 := by
 have := num_range l (fun x hx => wf_u8.1 (hw x hx))
 rw [hl, show (256 : Int) ^ 17 = 87112285931760246646623899502532662132736 by decide] at this
 exact this
theorem mod130 (n : Int) : 0 ≤ n % q130 ∧ n % q130 < q130 := ⟨Int.emod_nonneg _ (by decide), Int.emod_lt_of_pos _ (by decide)⟩
theorem cCanon_run (l : List Int) : Goes (callRun tc ((env kCw).fn 20) Tryz.f288 1000 [.arr false .u8 17 (tab 17 l)] []) [] ([]) ⟨.arr false .u8 17 (bytesOf 17 (wnum (wordsOf 3 (wnum (wordsOf 3 (num (tab 17 l))) % q130)))), []⟩ := by
 unfold Goes
 kernel_rfl
theorem cCanon_ok : FnOk Tryz.prog gl 288 cCanon := by
 refine fnOk_V1 fun l hl hw => ?_
 have con := con_goes kCw_ok Tryz.func288 1000 (cCanon_run l) trivial
 rw [tab_eq' hl] at con
 refine ⟨_, con, ?_⟩
 have hr := num17_range hl hw
 have hm := mod130 (num l)
 rw [wnum_wordsOf3 _ hr.1 (by omega), wnum_wordsOf3 _ hm.1 (by unfold q130 at *; omega)]
noncomputable abbrev cAdd : Spec := FA2 .u8 .u8 .u8 17 17 17 fun l m => bytesOf 17 ((num l + num m) % q130)
def addQ (x y : List Int) : List Int :=
 match x, y with
 | [x0, x1, x2], [y0, y1, y2] =>
  let k1 := carry x0 y0 false
  let k2 := carry x1 y1 k1
  [addc x0 y0 false, addc x1 y1 k1, addc x2 y2 k2]
 | _, _ => []
theorem addQ_eq (x0 x1 x2 y0 y1 y2 : Int) (h0 : 0 ≤ x0 ∧ x0 < 18446744073709551616) (h1 : 0 ≤ x1 ∧ x1 < 18446744073709551616) (h2 : 0 ≤ x2 ∧ x2 < 18446744073709551616)
  (g0 : 0 ≤ y0 ∧ y0 < 18446744073709551616) (g1 : 0 ≤ y1 ∧ y1 < 18446744073709551616) (g2 : 0 ≤ y2 ∧ y2 < 18446744073709551616) (hs : wnum [x0, x1, x2] + wnum [y0, y1, y2] < 6277101735386680763835789423207666416102355444464034512896) :
  wnum (addQ [x0, x1, x2] [y0, y1, y2]) = wnum [x0, x1, x2] + wnum [y0, y1, y2] := by
 have e1 := addc_split x0 y0 false h0.1 h0.2 g0.1 g0.2
 have e2 := addc_split x1 y1 (carry x0 y0 false) h1.1 h1.2 g1.1 g1.2
 have e3 := addc_split x2 y2 (carry x1 y1 (carry x0 y0 false)) h2.1 h2.2 g2.1 g2.2
 have k3 := bi_range (carry x2 y2 (carry x1 y1 (carry x0 y0 false)))
 rw [show bi false = 0 from rfl] at e1
 simp only [addQ, wnum] at *
 omega
theorem cAdd_run (l m : List Int) : Goes (callRun tc ((env kCw).fn 20) Tryz.f269 1000 [.arr false .u8 17 (tab 17 l), .arr false .u8 17 (tab 17 m)] []) [] (obC3 (wordsOf 3 (num (tab 17 l))) (wordsOf 3 (num (tab 17 m)))) ⟨.arr false .u8 17 (bytesOf 17 (wnum (wordsOf 3 (wnum (addQ (wordsOf 3 (num (tab 17 l))) (wordsOf 3 (num (tab 17 m)))) % q130)))), []⟩ := by
 unfold Goes
 kernel_rfl
theorem cAdd_ok : FnOk Tryz.prog gl 269 cAdd := by
 refine fnOk_V2 fun l m hl hm hw hw' => ?_
 have con := con_goes kCw_ok Tryz.func269 1000 (cAdd_run l m) (obC3_ok _ _)
 rw [tab_eq' hl, tab_eq' hm] at con
 refine ⟨_, con, ?_⟩
 have hr := num17_range hl hw
 have hr' := num17_range hm hw'
 have hm := mod130 (num l + num m)
 have h1 := wnum_wordsOf3 (num l) hr.1 (by omega)
 have h2 := wnum_wordsOf3 (num m) hr'.1 (by omega)
 have r1 := wordsOf_rangeQ (num l) 3 0
 have r2 := wordsOf_rangeQ (num m) 3 0
 obtain ⟨x0, x1, x2, hx⟩ := list3 (l := wordsOf 3 (num l)) rfl
 obtain ⟨y0, y1, y2, hy⟩ := list3 (l := wordsOf 3 (num m)) rfl
 rw [hx, hy]
 rw [hx] at h1
 rw [hy] at h2
 unfold wordsOf at hx hy
 rw [hx] at r1
 rw [hy] at r2
 rw [addQ_eq x0 x1 x2 y0 y1 y2 (r1 _ (by simp)) (r1 _ (by simp)) (r1 _ (by simp)) (r2 _ (by simp)) (r2 _ (by simp)) (r2 _ (by simp)) (by rw [h1, h2]; omega), h1, h2,
  wnum_wordsOf3 _ hm.1 (by unfold q130 at *; omega)]
structure Row3Q where
 l0 : Int
 l1 : Int
 l2 : Int
 h : Int
def row3Q (x y0 y1 y2 t0 t1 t2 : Int) : Row3Q :=
 ⟨macLo x y0 t0 0, macLo x y1 t1 (macHi x y0 t0 0), macLo x y2 t2 (macHi x y1 t1 (macHi x y0 t0 0)), macHi x y2 t2 (macHi x y1 t1 (macHi x y0 t0 0))⟩
theorem row3Q_eq (x y0 y1 y2 t0 t1 t2 : Int) (hx : W x) (h0 : W y0) (h1 : W y1) (h2 : W y2) (g0 : W t0) (g1 : W t1) (g2 : W t2) :
  x * y0 + 18446744073709551616 * (x * y1 + 18446744073709551616 * (x * y2)) + (t0 + 18446744073709551616 * (t1 + 18446744073709551616 * t2)) =
   (row3Q x y0 y1 y2 t0 t1 t2).l0 + 18446744073709551616 * ((row3Q x y0 y1 y2 t0 t1 t2).l1 + 18446744073709551616 * ((row3Q x y0 y1 y2 t0 t1 t2).l2 + 18446744073709551616 * (row3Q x y0 y1 y2 t0 t1 t2).h)) ∧
  W (row3Q x y0 y1 y2 t0 t1 t2).l0 ∧ W (row3Q x y0 y1 y2 t0 t1 t2).l1 ∧ W (row3Q x y0 y1 y2 t0 t1 t2).l2 ∧ W (row3Q x y0 y1 y2 t0 t1 t2).h := by
 simp only [row3Q]
 obtain ⟨e0, a0, b0⟩ := mac_split x y0 t0 0 hx.1 hx.2 h0.1 h0.2 g0.1 g0.2 (by decide) (by decide)
 obtain ⟨e1, a1, b1⟩ := mac_split x y1 t1 (macHi x y0 t0 0) hx.1 hx.2 h1.1 h1.2 g1.1 g1.2 b0.1 b0.2
 obtain ⟨e2, a2, b2⟩ := mac_split x y2 t2 (macHi x y1 t1 (macHi x y0 t0 0)) hx.1 hx.2 h2.1 h2.2 g2.1 g2.2 b1.1 b1.2
 refine ⟨?_, a0, a1, a2, b2⟩
 generalize macHi x y2 t2 (macHi x y1 t1 (macHi x y0 t0 0)) = H2 at *
 generalize macLo x y2 t2 (macHi x y1 t1 (macHi x y0 t0 0)) = L2 at *
 generalize macHi x y1 t1 (macHi x y0 t0 0) = H1 at *
 generalize macLo x y1 t1 (macHi x y0 t0 0) = L1 at *
 generalize macHi x y0 t0 0 = H0 at *
 generalize macLo x y0 t0 0 = L0 at *
 generalize x * y0 = p0 at *
 generalize x * y1 = p1 at *
 generalize x * y2 = p2 at *
 omega
def prod3Q (x y : List Int) : List Int :=
 match x, y with
 | [x0, x1, x2], [y0, y1, y2] =>
  let p := row3Q x0 y0 y1 y2 0 0 0
  let r := row3Q x1 y0 y1 y2 p.l1 p.l2 p.h
  let s := row3Q x2 y0 y1 y2 r.l1 r.l2 r.h
  [p.l0, r.l0, s.l0, s.l1, s.l2, s.h]
 | _, _ => []
theorem prod3Q_eq (x0 x1 x2 y0 y1 y2 : Int) (hx0 : W x0) (hx1 : W x1) (hx2 : W x2) (hy0 : W y0) (hy1 : W y1) (hy2 : W y2) :
  wnum (prod3Q [x0, x1, x2] [y0, y1, y2]) = wnum [x0, x1, x2] * wnum [y0, y1, y2] ∧ ∀ t ∈ prod3Q [x0, x1, x2] [y0, y1, y2], W t := by
 simp only [prod3Q]
 have z : W 0 := ⟨by decide, by decide⟩
 obtain ⟨e0, a0, a1, a2, a3⟩ := row3Q_eq x0 y0 y1 y2 0 0 0 hx0 hy0 hy1 hy2 z z z
 generalize row3Q x0 y0 y1 y2 0 0 0 = p at *
 obtain ⟨e1, b0, b1, b2, b3⟩ := row3Q_eq x1 y0 y1 y2 p.l1 p.l2 p.h hx1 hy0 hy1 hy2 a1 a2 a3
 generalize row3Q x1 y0 y1 y2 p.l1 p.l2 p.h = r at *
 obtain ⟨e2, c0, c1, c2, c3⟩ := row3Q_eq x2 y0 y1 y2 r.l1 r.l2 r.h hx2 hy0 hy1 hy2 b1 b2 b3
 generalize row3Q x2 y0 y1 y2 r.l1 r.l2 r.h = s at *
 refine ⟨?_, fun t ht => ?_⟩
 ·simp only [wnum]
  have e : (x0 + 18446744073709551616 * (x1 + 18446744073709551616 * (x2 + 18446744073709551616 * 0))) * (y0 + 18446744073709551616 * (y1 + 18446744073709551616 * (y2 + 18446744073709551616 * 0))) =
    (x0 * y0 + 18446744073709551616 * (x0 * y1 + 18446744073709551616 * (x0 * y2))) + 18446744073709551616 * (x1 * y0 + 18446744073709551616 * (x1 * y1 + 18446744073709551616 * (x1 * y2))) +
     340282366920938463463374607431768211456 * (x2 * y0 + 18446744073709551616 * (x2 * y1 + 18446744073709551616 * (x2 * y2))) := by grind
  rw [e]
  generalize x0 * y0 = q00 at *
  generalize x0 * y1 = q01 at *
  generalize x0 * y2 = q02 at *
  generalize x1 * y0 = q10 at *
  generalize x1 * y1 = q11 at *
  generalize x1 * y2 = q12 at *
  generalize x2 * y0 = q20 at *
  generalize x2 * y1 = q21 at *
  generalize x2 * y2 = q22 at *
  omega
 ·simp only [List.mem_cons, List.not_mem_nil, or_false] at ht
  rcases ht with rfl | rfl | rfl | rfl | rfl | rfl
  ·exact a0
  ·exact b0
  ·exact c0
  ·exact c1
  ·exact c2
  ·exact c3
def upQ (t : List Int) : List Int :=
 match t with
 | [_, _, t2, t3, t4, _] => [bits .or .u64 (t2.fdiv (2 ^ 2)) (IntKind.u64.wrap (t3 * 2 ^ 62)), bits .or .u64 (t3.fdiv (2 ^ 2)) (IntKind.u64.wrap (t4 * 2 ^ 62)), t4.fdiv (2 ^ 2)]
 | _ => []
def lowQ (t : List Int) : List Int :=
 match t with
 | [t0, t1, t2, _, _, _] => [t0, t1, bits .and .u64 t2 3]
 | _ => []
def mulQ (x y : List Int) : List Int :=
 let t := prod3Q x y
 let u := upQ t
 addQ (addQ (addQ (addQ (addQ (lowQ t) u) u) u) u) u
def obMu (x y : List Int) : List Prop :=
 let u := upQ (prod3Q x y)
 let w := lowQ (prod3Q x y)
 List.replicate 18 (o01 0) ++ ([(0 : Int) ≤ 2, (0 : Int) ≤ 62, (0 : Int) ≤ 2, (0 : Int) ≤ 62, (0 : Int) ≤ 2] ++ (obC3 w u ++ (obC3 (addQ w u) u ++ (obC3 (addQ (addQ w u) u) u ++ (obC3 (addQ (addQ (addQ w u) u) u) u ++ obC3 (addQ (addQ (addQ (addQ w u) u) u) u) u)))))
theorem obMu_ok (x y : List Int) : Conj (obMu x y) := by
 unfold obMu
 exact Conj.app (conj_rep o01_0 18) (Conj.app ⟨by decide, by decide, by decide, by decide, by decide, trivial⟩ (Conj.app (obC3_ok _ _) (Conj.app (obC3_ok _ _) (Conj.app (obC3_ok _ _) (Conj.app (obC3_ok _ _) (obC3_ok _ _))))))
theorem cMul_run (l m : List Int) : Goes (callRun tc ((env kCw).fn 20) Tryz.f268 1000 [.arr false .u8 17 (tab 17 l), .arr false .u8 17 (tab 17 m)] []) [] (obMu (wordsOf 3 (fold1 (fold1 (wnum (wordsOf 3 (num (tab 17 l))))))) (wordsOf 3 (fold1 (fold1 (wnum (wordsOf 3 (num (tab 17 m)))))))) ⟨.arr false .u8 17 (bytesOf 17 (wnum (wordsOf 3 (wnum (mulQ (wordsOf 3 (fold1 (fold1 (wnum (wordsOf 3 (num (tab 17 l))))))) (wordsOf 3 (fold1 (fold1 (wnum (wordsOf 3 (num (tab 17 m)))))))) % q130)))), []⟩ := by
 unfold Goes
 kernel_rfl
theorem or_up (a b : Int) (ha : W a) : bits .or .u64 (a.fdiv (2 ^ 2)) (IntKind.u64.wrap (b * 2 ^ 62)) = a / 4 + b % 4 * 4611686018427387904 := by
 rw [fdiv4Q, u64wm, show (2 : Int) ^ 62 = 4611686018427387904 by decide]
 have e : b * 4611686018427387904 % 18446744073709551616 = b % 4 * 4611686018427387904 := by omega
 rw [e, or_low_high 62 _ _ (by omega) (by rw [show (2 : Int) ^ 62 = 4611686018427387904 by decide]; omega) (by omega) (by omega) (by omega) (by rw [show (2 : Int) ^ 62 = 4611686018427387904 by decide]; omega)]
theorem addQ_list (x0 x1 x2 y0 y1 y2 : Int) (h0 : W x0) (h1 : W x1) (h2 : W x2) (g0 : W y0) (g1 : W y1) (g2 : W y2) (hs : wnum [x0, x1, x2] + wnum [y0, y1, y2] < 6277101735386680763835789423207666416102355444464034512896) :
  ∃ z0 z1 z2, addQ [x0, x1, x2] [y0, y1, y2] = [z0, z1, z2] ∧ W z0 ∧ W z1 ∧ W z2 ∧ wnum [z0, z1, z2] = wnum [x0, x1, x2] + wnum [y0, y1, y2] := by
 have e := addQ_eq x0 x1 x2 y0 y1 y2 h0 h1 h2 g0 g1 g2 hs
 exact ⟨_, _, _, rfl, (addc_split x0 y0 false h0.1 h0.2 g0.1 g0.2).2, (addc_split x1 y1 _ h1.1 h1.2 g1.1 g1.2).2, (addc_split x2 y2 _ h2.1 h2.2 g2.1 g2.2).2, e⟩
theorem mulQ_eq (x0 x1 x2 y0 y1 y2 : Int) (hx0 : W x0) (hx1 : W x1) (hx2 : W x2) (hy0 : W y0) (hy1 : W y1) (hy2 : W y2) (hx : wnum [x0, x1, x2] < 1361129467683753853853498429727072845824) (hy : wnum [y0, y1, y2] < 1361129467683753853853498429727072845824) :
  wnum (mulQ [x0, x1, x2] [y0, y1, y2]) % q130 = wnum [x0, x1, x2] * wnum [y0, y1, y2] % q130 := by
 obtain ⟨e, hW⟩ := prod3Q_eq x0 x1 x2 y0 y1 y2 hx0 hx1 hx2 hy0 hy1 hy2
 have rx := wnum_range [x0, x1, x2] (by simp only [List.mem_cons, List.not_mem_nil, or_false]; rintro t (rfl | rfl | rfl) <;> assumption)
 have ry := wnum_range [y0, y1, y2] (by simp only [List.mem_cons, List.not_mem_nil, or_false]; rintro t (rfl | rfl | rfl) <;> assumption)
 have hT : wnum [x0, x1, x2] * wnum [y0, y1, y2] ≤ 1361129467683753853853498429727072845823 * 1361129467683753853853498429727072845823 := Int.mul_le_mul (by omega) (by omega) ry.1 (by decide)
 unfold mulQ
 obtain ⟨t0, t1, t2, t3, t4, t5, ht⟩ : ∃ t0 t1 t2 t3 t4 t5, prod3Q [x0, x1, x2] [y0, y1, y2] = [t0, t1, t2, t3, t4, t5] := ⟨_, _, _, _, _, _, rfl⟩
 rw [ht] at e hW
 rw [← e] at hT ⊢
 simp only [ht]
 have w0 := hW t0 (by simp)
 have w1 := hW t1 (by simp)
 have w2 := hW t2 (by simp)
 have w3 := hW t3 (by simp)
 have w4 := hW t4 (by simp)
 have w5 := hW t5 (by simp)
 have m := and_mask 2 (by decide) t2 w2.1 w2.2
 rw [show (2 : Int) ^ 2 - 1 = 3 by decide, show (2 : Int) ^ 2 = 4 by decide] at m
 simp only [upQ, lowQ, or_up t2 t3 w2, or_up t3 t4 w3, m]
 simp only [fdiv4Q]
 simp only [wnum] at hT
 have h5 : t5 = 0 := by omega
 subst h5
 have hu : 0 ≤ wnum [t2 / 4 + t3 % 4 * 4611686018427387904, t3 / 4 + t4 % 4 * 4611686018427387904, t4 / 4] ∧ wnum [t2 / 4 + t3 % 4 * 4611686018427387904, t3 / 4 + t4 % 4 * 4611686018427387904, t4 / 4] < 1361129467683753853853498429727072845824 ∧
   wnum [t0, t1, t2, t3, t4, 0] = wnum [t0, t1, t2 % 4] + 1361129467683753853853498429727072845824 * wnum [t2 / 4 + t3 % 4 * 4611686018427387904, t3 / 4 + t4 % 4 * 4611686018427387904, t4 / 4] := by
  simp only [wnum]
  omega
 have hl : 0 ≤ wnum [t0, t1, t2 % 4] ∧ wnum [t0, t1, t2 % 4] < 1361129467683753853853498429727072845824 := by
  simp only [wnum]
  omega
 have u0 : W (t2 / 4 + t3 % 4 * 4611686018427387904) := by constructor <;> omega
 have u1 : W (t3 / 4 + t4 % 4 * 4611686018427387904) := by constructor <;> omega
 have u2 : W (t4 / 4) := by constructor <;> omega
 have l2 : W (t2 % 4) := by constructor <;> omega
 obtain ⟨hu0, hu1, hu2⟩ := hu
 generalize t2 / 4 + t3 % 4 * 4611686018427387904 = a at *
 generalize t3 / 4 + t4 % 4 * 4611686018427387904 = b at *
 generalize t4 / 4 = c at *
 generalize t2 % 4 = d at *
 obtain ⟨z0, z1, z2, e1, p0, p1, p2, n1⟩ := addQ_list t0 t1 d a b c w0 w1 l2 u0 u1 u2 (by omega)
 rw [e1]
 obtain ⟨z0, z1, z2, e1, p0, p1, p2, n2⟩ := addQ_list z0 z1 z2 a b c p0 p1 p2 u0 u1 u2 (by omega)
 rw [e1]
 obtain ⟨z0, z1, z2, e1, p0, p1, p2, n3⟩ := addQ_list z0 z1 z2 a b c p0 p1 p2 u0 u1 u2 (by omega)
 rw [e1]
 obtain ⟨z0, z1, z2, e1, p0, p1, p2, n4⟩ := addQ_list z0 z1 z2 a b c p0 p1 p2 u0 u1 u2 (by omega)
 rw [e1]
 obtain ⟨z0, z1, z2, e1, p0, p1, p2, n5⟩ := addQ_list z0 z1 z2 a b c p0 p1 p2 u0 u1 u2 (by omega)
 rw [e1, n5, n4, n3, n2, n1, hu2]
 have e9 : wnum [t0, t1, d] + 1361129467683753853853498429727072845824 * wnum [a, b, c] = (wnum [t0, t1, d] + wnum [a, b, c] + wnum [a, b, c] + wnum [a, b, c] + wnum [a, b, c] + wnum [a, b, c]) + q130 * wnum [a, b, c] := by
  unfold q130; omega
 rw [e9, Int.add_mul_emod_self_left]
noncomputable abbrev cMul : Spec := FA2 .u8 .u8 .u8 17 17 17 fun l m => bytesOf 17 ((num l * num m) % q130)
theorem cMul_ok : FnOk Tryz.prog gl 268 cMul := by
 refine fnOk_V2 fun l m hl hm hw hw' => ?_
 have con := con_goes kCw_ok Tryz.func268 1000 (cMul_run l m) (obMu_ok _ _)
 rw [tab_eq' hl, tab_eq' hm] at con
 refine ⟨_, con, ?_⟩
 have hr := num17_range hl hw
 have hr' := num17_range hm hw'
 have hm1 := mod130 (num l * num m)
 rw [wnum_wordsOf3 (num l) hr.1 (by omega), wnum_wordsOf3 (num m) hr'.1 (by omega)]
 obtain ⟨f0, f1, f2⟩ := fold2_range (num l) hr.1 (by omega)
 obtain ⟨g0, g1, g2⟩ := fold2_range (num m) hr'.1 (by omega)
 generalize fold1 (fold1 (num l)) = X at *
 generalize fold1 (fold1 (num m)) = Y at *
 have h1 := wnum_wordsOf3 X f0 (by omega)
 have h2 := wnum_wordsOf3 Y g0 (by omega)
 have r1 := wordsOf_rangeQ X 3 0
 have r2 := wordsOf_rangeQ Y 3 0
 obtain ⟨x0, x1, x2, hx⟩ := list3 (l := wordsOf 3 X) rfl
 obtain ⟨y0, y1, y2, hy⟩ := list3 (l := wordsOf 3 Y) rfl
 rw [hx, hy]
 rw [hx] at h1
 rw [hy] at h2
 unfold wordsOf at hx hy
 rw [hx] at r1
 rw [hy] at r2
 rw [mulQ_eq x0 x1 x2 y0 y1 y2 (r1 _ (by simp)) (r1 _ (by simp)) (r1 _ (by simp)) (r2 _ (by simp)) (r2 _ (by simp)) (r2 _ (by simp)) (by omega) (by omega), h1, h2,
  Int.mul_emod X Y, f2, g2, ← Int.mul_emod, wnum_wordsOf3 _ hm1.1 (by unfold q130 at *; omega)]
def lowGo : Int → List Int → List Int → List Int
 | rest, x :: xs, s :: ss =>
  let r := IntKind.u64.wrap (rest + IntKind.u64.wrap (IntKind.u64.wrap x + IntKind.u64.wrap s))
  IntKind.u8.wrap r :: lowGo (r.fdiv (2 ^ 8)) xs ss
 | _, _, _ => []
theorem bytesOf_succ (m : Nat) (n : Int) : bytesOf (m + 1) n = (n % 256) :: bytesOf m (n / 256) := by
 have h : bytesOf (m + 1) n = (n / 256 ^ 0 % 256) :: bytesFrom (0 + 1) n m := rfl
 rw [h, Int.pow_zero, Int.ediv_one, Nat.add_comm 0 1, bytesFrom_div n 1 m 0, show (256 : Int) ^ 1 = 256 by decide]
 rfl
theorem lowGo_eq : ∀ (xs ss : List Int) (rest : Int), xs.length = ss.length → (∀ x ∈ xs, 0 ≤ x ∧ x < 256) → (∀ x ∈ ss, 0 ≤ x ∧ x < 256) → 0 ≤ rest → rest < 256 → lowGo rest xs ss = bytesOf xs.length (rest + num xs + num ss)
 | [], [], rest, _, _, _, _, _ => rfl
 | [], s :: ss, rest, h, _, _, _, _ => by simp at h
 | x :: xs, [], rest, h, _, _, _, _ => by simp at h
 | x :: xs, s :: ss, rest, h, hx, hs, h0, h1 => by
  obtain ⟨x0, x1⟩ := hx x (by simp)
  obtain ⟨s0, s1⟩ := hs s (by simp)
  simp only [lowGo, List.length_cons, num]
  rw [u64w x (by omega) (by omega), u64w s (by omega) (by omega), u64w (x + s) (by omega) (by omega), u64w (rest + (x + s)) (by omega) (by omega), u8w,
   show (2 : Int) ^ 8 = 256 by decide, Int.fdiv_eq_ediv_of_nonneg _ (by decide),
   lowGo_eq xs ss _ (by simpa using h) (fun y hy => hx y (by simp [hy])) (fun y hy => hs y (by simp [hy])) (by omega) (by omega), bytesOf_succ]
  congr 1
  ·omega
  ·congr 1
   omega
noncomputable abbrev cLow : Spec := FA2 .u8 .u8 .u8 17 16 16 fun l m => bytesOf 16 (num l % q130 + num m)
noncomputable abbrev kCn : Cons := [(288, cCanon)]
theorem kCn_ok : ConsOk kCn := consOk_of (fun p hp => by
 simp only [kCn, List.mem_cons, List.not_mem_nil, or_false] at hp
 subst hp
 exact cCanon_ok) (by decide)
theorem cLow_run (l m : List Int) : Goes (callRun tc ((env kCn).fn 20) Tryz.f270 1000 [.arr false .u8 17 (tab 17 l), .arr false .u8 16 (tab 16 m)] []) [] (List.replicate 16 ((0 : Int) ≤ 8)) ⟨.arr false .u8 16 (lowGo 0 (bytesOf 16 (num (tab 17 l) % q130)) (tab 16 m)), []⟩ := by
 unfold Goes
 kernel_rfl
theorem cLow_ok : FnOk Tryz.prog gl 270 cLow := by
 refine fnOk_V2 fun l m hl hm hw hw' => ?_
 have con := con_goes kCn_ok Tryz.func270 1000 (cLow_run l m) (conj_rep (by decide) 16)
 rw [tab_eq' hl, tab_eq' hm] at con
 refine ⟨_, con, ?_⟩
 rw [lowGo_eq _ _ _ (by rw [bytesOf_length, hm]) (bytesOf_range _ _) (fun x hx => wf_u8.1 (hw' x hx)) (by decide) (by decide), bytesOf_length, num_bytesOf]
 have e : ∀ n k : Int, bytesOf 16 (n % 256 ^ 16) = bytesOf 16 n := fun n _ => bytesFrom_mod n 16 16 0 (by omega)
 rw [Int.zero_add]
 have h1 := e (num l % q130 % 256 ^ 16 + num m) 0
 have h2 := e (num l % q130 + num m) 0
 rw [← h1, ← h2, Int.emod_add_emod]
def trimQ (l : List Int) : List Int :=
 match l with
 | [a0, a1, a2, a3, a4, a5, a6, a7, a8, a9, a10, a11, a12, a13, a14, a15] =>
  [a0, a1, a2, bits .and .u8 a3 15, bits .and .u8 a4 252, a5, a6, bits .and .u8 a7 15, bits .and .u8 a8 252, a9, a10, bits .and .u8 a11 15, bits .and .u8 a12 252, a13, a14, bits .and .u8 a15 15]
 | l => l
noncomputable abbrev cTrim : Spec := FA1 .u8 .u8 16 16 trimQ
theorem cTrim_run (l : List Int) : Goes (callRun tc ((env []).fn 20) Tryz.f266 1000 [.arr false .u8 16 (tab 16 l)] []) [] ([]) ⟨.arr false .u8 16 (trimQ (tab 16 l)), []⟩ := by
 unfold Goes
 kernel_rfl
theorem cTrim_ok : FnOk Tryz.prog gl 266 cTrim := by
 refine fnOk_V1 fun l hl hw => ?_
 have con := con_goes cons0 Tryz.func266 1000 (cTrim_run l) trivial
 rw [tab_eq' hl] at con
 exact ⟨_, con, rfl⟩
end
section
def blkQ (x : List Int) : List Int := x ++ 1 :: List.replicate (16 - x.length) 0
noncomputable def cBlock : Spec := fun args mem => match args, mem with
 | [.slc _ i 0 off len _], [.cells o t [.row ln lc .u8 n xs]] => gd (Nat.beq i 13) (.ob (len ≤ 16 ∧ off + len ≤ n) (.leaf ⟨.tup [.arr false .u8 17 (blkQ ((xs.drop off).take len)), .int true .i64 0], [.cells o t [.row ln lc .u8 n xs]]⟩))
 | _, _ => .fail
def blkRaw (off len n : Nat) (xs : List Int) : List Int :=
 (List.take 0 (List.replicate 17 (0 : Int)) ++ List.take (min (lenSq (Sq.ints false false IntKind.u8 (subL false off len n xs))) 17) (subL false off len n xs) ++ List.drop (0 + min (lenSq (Sq.ints false false IntKind.u8 (subL false off len n xs))) 17) (List.replicate 17 (0 : Int))).set
  (0 + Int.toNat ((min (lenSq (Sq.ints false false IntKind.u8 (subL false off len n xs))) 17 : Nat) : Int) * 1) 1
def obBk (off len n : Nat) (xs : List Int) : List Prop := [decide ((len : Int) > 16) = false, (0 : Int) ≤ ((min (lenSq (Sq.ints false false IntKind.u8 (subL false off len n xs))) 17 : Nat) : Int) ∧ ((min (lenSq (Sq.ints false false IntKind.u8 (subL false off len n xs))) 17 : Nat) : Int) < 17,
 0 + Int.toNat ((min (lenSq (Sq.ints false false IntKind.u8 (subL false off len n xs))) 17 : Nat) : Int) * 1 < 17]
theorem blk_run (o : Bool) (t : TypeId) (off len n : Nat) (cap : Option Nat) (xs : List Int) : Goes (callRun tc ((env []).fn 20) Tryz.f267 1000 [.slc false 13 0 off len cap] [.cells o t [.row false false .u8 n xs]]) [.f] (obBk off len n xs)
  ⟨.tup [.arr false .u8 17 (blkRaw off len n xs), .int true .i64 0], [.cells o t [.row false false .u8 n xs]]⟩ := by
 unfold Goes
 kernel_rfl
theorem blk_len {off len n : Nat} {xs : List Int} (hn : xs.length = n) (h : off + len ≤ n) : lenSq (Sq.ints false false IntKind.u8 (subL false off len n xs)) = len := by
 show (subL false off len n xs).length = len
 rw [subL_eq hn, List.length_take, List.length_drop]
 omega
theorem blkRaw_eq {off len n : Nat} {xs : List Int} (hn : xs.length = n) (h : off + len ≤ n) (h16 : len ≤ 16) : blkRaw off len n xs = blkQ ((xs.drop off).take len) := by
 have hl : ((xs.drop off).take len).length = len := by rw [List.length_take, List.length_drop]; omega
 have key : ∀ (w r : List Int), (w ++ 0 :: r).set w.length 1 = w ++ 1 :: r := fun w r => by
  induction w with
  | nil => rfl
  | cons x w ih => simp [ih]
 have e2 : List.replicate (17 - len) (0 : Int) = 0 :: List.replicate (16 - len) 0 := by rw [show 17 - len = (16 - len) + 1 by omega, List.replicate_succ]
 unfold blkRaw blkQ
 rw [blk_len hn h, subL_eq hn, Int.toNat_natCast, show min len 17 = len by omega, Nat.zero_add, Nat.mul_one, Nat.zero_add, List.take_zero, List.nil_append, List.drop_replicate, e2]
 generalize (xs.drop off).take len = w at *
 rw [List.take_of_length_le (by omega)]
 subst hl
 exact key w _
theorem cBlock_ok : FnOk Tryz.prog gl 267 cBlock := by
 intro args mem r h
 unfold cBlock at h
 split at h
 case h_2 => exact h.elim
 rename_i l i off len cap o t ln lc n xs
 obtain ⟨h1, h⟩ := Tr.is_gd.1 h
 obtain ⟨⟨h2, h3⟩, h⟩ := Tr.is_ob.1 h
 have h := Tr.is_leaf.1 h
 subst h
 rw [Nat.eq_of_beq_eq_true h1]
 refine con_wf fun _ hm => ?_
 have hn : xs.length = n := hm.1.1.1
 have e := blk_len hn h3
 have con := con_goes cons0 Tryz.func267 1000 (blk_run o t off len n cap xs) ⟨decide_eq_false (by omega), by rw [e]; omega, by rw [e]; omega, trivial⟩
 rw [blkRaw_eq hn h3 h2] at con
 exact con_to con
noncomputable abbrev kPs : Cons := [(266, cTrim), (267, cBlock), (268, cMul), (269, cAdd), (270, cLow)]
noncomputable def bodyP : Code := bodyC Tryz.f234
noncomputable def loopP : Code := loopC (blkC (seqL (post 4 bodyP)))
noncomputable def endP : Code := seqR (post 4 bodyP)
theorem psum_code : post 4 bodyP = .seq (.block 0 (.loop loopP)) endP := by kernel_rfl
noncomputable def tgB (l : Bool) (n : Nat) (t : TypeId) (xs : List Int) : Blk := .cells true t [.row true l .u8 n xs]
noncomputable def sP (fl : Bool) (o : Bool) (t : TypeId) (off len n : Nat) (xs K R By A : List Int) : St :=
 stM gl [(1, .slc false 13 0 off len none), (2, pT 14), (4, pT 15), (6, pT 17), (7, pT 18)] [.cells o t [.row false false .u8 n xs], kyB false K, tgB true 16 263 (List.replicate 16 0), tgB false 16 263 R, tgB false 17 345 By, tgB fl 17 345 A]
theorem psum_pre (o : Bool) (t : TypeId) (off len n : Nat) (xs ks : List Int) : (execK (cxE kPs 44) 14 200 (pre 4 bodyP) [1, 2, 4, 6, 7] (List.range 19) (s0 tc [.arr false .u8 32 (tab 32 ks), .slc false 13 0 off len none] [.cells o t [.row false false .u8 n xs]])).walk [] [] =
  some ([], (.normal, sP true o t off len n xs (tab 32 ks) (trimQ ((tab 32 ks).take 16)) (trimQ ((tab 32 ks).take 16) ++ [0]) (List.replicate 17 0))) := by kernel_rfl
def stepA (By A x : List Int) : List Int := bytesOf 17 ((num (bytesOf 17 ((num A + num (blkQ x)) % q130)) * num By) % q130)
def obFu (off len n : Nat) : List Prop := [decide ((len : Int) > 0) = true, decide ((len : Int) < 16) = false, (0 : Int) ≤ 0 ∧ (0 : Int) ≤ 16 ∧ (16 : Int) ≤ 16 ∧ (16 : Int) ≤ ((n - off : Nat) : Int), 16 ≤ 16 ∧ off + 16 ≤ n,
 (0 : Int) ≤ 16 ∧ (16 : Int) ≤ (len : Int) ∧ (len : Int) ≤ (len : Int) ∧ (len : Int) ≤ ((n - off : Nat) : Int)]
def obLa (off len n : Nat) : List Prop := [decide ((len : Int) > 0) = true, decide ((len : Int) < 16) = true, (0 : Int) ≤ 0 ∧ (0 : Int) ≤ (len : Int) ∧ (len : Int) ≤ (len : Int) ∧ (len : Int) ≤ ((n - off : Nat) : Int), len ≤ 16 ∧ off + len ≤ n,
 (0 : Int) ≤ (len : Int) ∧ (len : Int) ≤ (len : Int) ∧ (len : Int) ≤ (len : Int) ∧ (len : Int) ≤ ((n - off : Nat) : Int)]
theorem psum_full (o : Bool) (t : TypeId) (off len n : Nat) (xs K R By A : List Int) : (execK (cxE kPs 44) 14 200 loopP [1, 2, 4, 6, 7] (List.range 19) (sP false o t off len n xs K R By A)).walk [.t, .f] [] =
  some (obFu off len n, (.normal, sP false o t (off + 16) (len - 16) n xs K R By (stepA By A ((xs.drop off).take 16)))) := by
 cases o
 ·kernel_rfl
 ·kernel_rfl
theorem psum_last (o : Bool) (t : TypeId) (off len n : Nat) (xs K R By A : List Int) : (execK (cxE kPs 44) 14 200 loopP [1, 2, 4, 6, 7] (List.range 19) (sP false o t off len n xs K R By A)).walk [.t, .t] [] =
  some (obLa off len n, (.normal, sP false o t (off + len) (len - len) n xs K R By (stepA By A ((xs.drop off).take len)))) := by
 cases o
 ·kernel_rfl
 ·kernel_rfl
theorem psum_stop (o : Bool) (t : TypeId) (off len n : Nat) (xs K R By A : List Int) : (execK (cxE kPs 44) 14 200 loopP [1, 2, 4, 6, 7] (List.range 19) (sP false o t off len n xs K R By A)).walk [.f] [] =
  some ([decide ((len : Int) > 0) = false], (.exit 0, sP false o t off len n xs K R By A)) := by kernel_rfl
theorem psum_end (o : Bool) (t : TypeId) (off len n : Nat) (xs K R By A : List Int) : (exec (cxE kPs 44) 200 endP (sP false o t off len n xs (tab 32 K) R By A) fun ex s' => match ex with
   | .exit _ => .fail
   | _ => shutS tc Tryz.f234 1 s').walk [] [] = some ([], ⟨.arr false .u8 16 (bytesOf 16 (num A % q130 + num (((tab 32 K).drop 16).take 16))), [.cells o t [.row false false .u8 n xs]]⟩) := by kernel_rfl
theorem kPs_ok : ConsOk kPs := consOk_of (fun p hp => by
 simp only [kPs, List.mem_cons, List.not_mem_nil, or_false] at hp
 rcases hp with rfl | rfl | rfl | rfl | rfl
 ·exact cTrim_ok
 ·exact cBlock_ok
 ·exact cMul_ok
 ·exact cAdd_ok
 ·exact cLow_ok) (by decide)
def polyA (By xs : List Int) : Nat → List Int
 | 0 => List.replicate 17 0
 | i + 1 => stepA By (polyA By xs i) ((xs.drop (16 * i)).take 16)
theorem psum_con {o : Bool} {t : TypeId} {ks xs : List Int} (hk : ks.length = 32) : Con Tryz.prog gl 234 [.arr false .u8 32 ks, .slc false 13 0 0 xs.length none] [.cells o t [.row false false .u8 xs.length xs]]
  ⟨.arr false .u8 16 (bytesOf 16 (num (polyA (trimQ (ks.take 16) ++ [0]) xs ((xs.length + 15) / 16)) % q130 + num ((ks.drop 16).take 16))), [.cells o t [.row false false .u8 xs.length xs]]⟩ := by
 refine con_tri kPs_ok Tryz.func234 (by kernel_rfl) (show Tryz.f234.body = some bodyP by kernel_rfl) (by kernel_rfl) (fun B hB => ?_)
 have hC := cxE_ok kPs_ok 44
 have run := psum_pre o t 0 xs.length xs.length xs ks
 rw [tab_eq' hk] at run
 refine tri_pk hC hB (by kernel_rfl) 4 run conj_nil ?_
 rw [psum_code]
 refine tri_seqN (P := fun s => s = sP false o t (min (16 * ((xs.length + 15) / 16)) xs.length) (xs.length - min (16 * ((xs.length + 15) / 16)) xs.length) xs.length xs ks (trimQ (ks.take 16)) (trimQ (ks.take 16) ++ [0]) (polyA (trimQ (ks.take 16) ++ [0]) xs ((xs.length + 15) / 16))) ?_ (fun s' h => ?_)
 ·refine tri_pre (s' := sP false o t (min (16 * 0) xs.length) (xs.length - min (16 * 0) xs.length) xs.length xs ks (trimQ (ks.take 16)) (trimQ (ks.take 16) ++ [0]) (polyA (trimQ (ks.take 16) ++ [0]) xs 0)) ?_
   (tri_range (fun i => sP false o t (min (16 * i) xs.length) (xs.length - min (16 * i) xs.length) xs.length xs ks (trimQ (ks.take 16)) (trimQ (ks.take 16) ++ [0]) (polyA (trimQ (ks.take 16) ++ [0]) xs i)) ((xs.length + 15) / 16) (fun i hi => ?_) ?_)
  ·rw [show min (16 * 0) xs.length = 0 by omega, Nat.sub_zero]
   exact less_stM rfl rfl
  ·have hm : min (16 * i) xs.length = 16 * i := by omega
   rw [hm]
   by_cases hf : 16 * i + 16 ≤ xs.length
   ·have rnd := psum_full o t (16 * i) (xs.length - 16 * i) xs.length xs ks (trimQ (ks.take 16)) (trimQ (ks.take 16) ++ [0]) (polyA (trimQ (ks.take 16) ++ [0]) xs i)
    refine tri_wk hC hB (by kernel_rfl) rnd ⟨decide_eq_true (by omega), decide_eq_false (by omega), ⟨by omega, by omega, by omega, by omega⟩, ⟨by omega, by omega⟩, ⟨by omega, by omega, by omega, by omega⟩, trivial⟩ ⟨rfl, ?_⟩
    rw [show min (16 * (i + 1)) xs.length = 16 * i + 16 by omega, show xs.length - (16 * i + 16) = xs.length - 16 * i - 16 by omega]
    rfl
   ·have rnd := psum_last o t (16 * i) (xs.length - 16 * i) xs.length xs ks (trimQ (ks.take 16)) (trimQ (ks.take 16) ++ [0]) (polyA (trimQ (ks.take 16) ++ [0]) xs i)
    refine tri_wk hC hB (by kernel_rfl) rnd ⟨decide_eq_true (by omega), decide_eq_true (by omega), ⟨by omega, by omega, by omega, by omega⟩, ⟨by omega, by omega⟩, ⟨by omega, by omega, by omega, by omega⟩, trivial⟩ ⟨rfl, ?_⟩
    have e : (xs.drop (16 * i)).take (xs.length - 16 * i) = (xs.drop (16 * i)).take 16 := by
     rw [List.take_of_length_le (by rw [List.length_drop]; omega), List.take_of_length_le (by rw [List.length_drop]; omega)]
    rw [e, show min (16 * (i + 1)) xs.length = 16 * i + (xs.length - 16 * i) by omega, show xs.length - (16 * i + (xs.length - 16 * i)) = xs.length - 16 * i - (xs.length - 16 * i) by omega]
    rfl
  ·exact tri_wk hC hB (by kernel_rfl) (psum_stop o t _ _ _ xs ks _ _ _) ⟨decide_eq_false (by omega), trivial⟩ ⟨rfl, rfl⟩
 ·subst h
  have fin := psum_end o t (min (16 * ((xs.length + 15) / 16)) xs.length) (xs.length - min (16 * ((xs.length + 15) / 16)) xs.length) xs.length xs ks (trimQ (ks.take 16)) (trimQ (ks.take 16) ++ [0]) (polyA (trimQ (ks.take 16) ++ [0]) xs ((xs.length + 15) / 16))
  rw [tab_eq' hk] at fin
  exact tri_end hC fin conj_nil
end
section
theorem land_split (a b : Nat) : Nat.land a b = Nat.land (a % 256) (b % 256) + 256 * Nat.land (a / 256) (b / 256) := by
 have h1 : (a &&& b) % 2 ^ 8 = (a % 2 ^ 8) &&& (b % 2 ^ 8) := Nat.and_mod_two_pow
 have h2 : (a &&& b) >>> 8 = (a >>> 8) &&& (b >>> 8) := Nat.shiftRight_and_distrib
 rw [Nat.shiftRight_eq_div_pow, Nat.shiftRight_eq_div_pow, Nat.shiftRight_eq_div_pow] at h2
 have e : ∀ x y : Nat, Nat.land x y = x &&& y := fun _ _ => rfl
 rw [e, e, e]
 have h256 : (2 : Nat) ^ 8 = 256 := rfl
 rw [h256] at h1 h2
 rw [← h1, ← h2]
 omega
theorem land_num : ∀ (l m : List Int), l.length = m.length → (∀ x ∈ l, 0 ≤ x ∧ x < 256) → (∀ x ∈ m, 0 ≤ x ∧ x < 256) → Nat.land (numN l) (numN m) = numN (List.zipWith (fun x y => ((Nat.land x.toNat y.toNat : Nat) : Int)) l m)
 | [], [], _, _, _ => rfl
 | [], _ :: _, h, _, _ => by simp at h
 | _ :: _, [], h, _, _ => by simp at h
 | x :: l, y :: m, h, hl, hm => by
  have hx := hl x (by simp)
  have hy := hm y (by simp)
  have ih := land_num l m (by simpa using h) (fun z hz => hl z (by simp [hz])) (fun z hz => hm z (by simp [hz]))
  show Nat.land (x.toNat + 256 * numN l) (y.toNat + 256 * numN m) = (((Nat.land x.toNat y.toNat : Nat) : Int)).toNat + 256 * numN (List.zipWith _ l m)
  rw [land_split, show (x.toNat + 256 * numN l) % 256 = x.toNat by omega, show (y.toNat + 256 * numN m) % 256 = y.toNat by omega, show (x.toNat + 256 * numN l) / 256 = numN l by omega, show (y.toNat + 256 * numN m) / 256 = numN m by omega, ih, Int.toNat_natCast]
def maskP : List Int := [255, 255, 255, 15, 252, 255, 255, 15, 252, 255, 255, 15, 252, 255, 255, 15]
theorem by255 : ∀ i : Fin 256, ((Nat.land i.val 255 : Nat) : Int) = (i.val : Int) := by decide +kernel
theorem by15 : ∀ i : Fin 256, ((Nat.land i.val 15 : Nat) : Int) = bits .and .u8 (i.val : Int) 15 := by decide +kernel
theorem by252 : ∀ i : Fin 256, ((Nat.land i.val 252 : Nat) : Int) = bits .and .u8 (i.val : Int) 252 := by decide +kernel
theorem trim_num {l : List Int} (hl : l.length = 16) (hb : ∀ x ∈ l, 0 ≤ x ∧ x < 256) : numN (trimQ l) = clampN (numN l) := by
 have hm : (21267647620597763993911028882763415551 : Nat) = numN maskP := by decide
 unfold clampN
 rw [hm, land_num l maskP (by rw [hl]; rfl) hb (by decide)]
 congr 1
 obtain ⟨a0, a1, a2, a3, a4, a5, a6, a7, a8, a9, a10, a11, a12, a13, a14, a15, rfl⟩ := list16 hl
 have k : ∀ x, 0 ≤ x ∧ x < 256 → ((Nat.land x.toNat 255 : Nat) : Int) = x ∧ ((Nat.land x.toNat 15 : Nat) : Int) = bits .and .u8 x 15 ∧ ((Nat.land x.toNat 252 : Nat) : Int) = bits .and .u8 x 252 := fun x hx => by
  obtain ⟨i, rfl⟩ := byteF hx
  rw [Int.toNat_natCast]
  exact ⟨by255 i, by15 i, by252 i⟩
 have k' : ∀ x ∈ [a0, a1, a2, a3, a4, a5, a6, a7, a8, a9, a10, a11, a12, a13, a14, a15], _ := fun x hx => k x (hb x hx)
 simp only [List.mem_cons, List.not_mem_nil, or_false, forall_eq_or_imp, forall_eq] at k'
 obtain ⟨h0, h1, h2, h3, h4, h5, h6, h7, h8, h9, h10, h11, h12, h13, h14, h15⟩ := k'
 show [a0, a1, a2, bits .and .u8 a3 15, bits .and .u8 a4 252, a5, a6, bits .and .u8 a7 15, bits .and .u8 a8 252, a9, a10, bits .and .u8 a11 15, bits .and .u8 a12 252, a13, a14, bits .and .u8 a15 15] =
  [((Nat.land a0.toNat 255 : Nat) : Int), ((Nat.land a1.toNat 255 : Nat) : Int), ((Nat.land a2.toNat 255 : Nat) : Int), ((Nat.land a3.toNat 15 : Nat) : Int), ((Nat.land a4.toNat 252 : Nat) : Int), ((Nat.land a5.toNat 255 : Nat) : Int), ((Nat.land a6.toNat 255 : Nat) : Int), ((Nat.land a7.toNat 15 : Nat) : Int), ((Nat.land a8.toNat 252 : Nat) : Int), ((Nat.land a9.toNat 255 : Nat) : Int), ((Nat.land a10.toNat 255 : Nat) : Int), ((Nat.land a11.toNat 15 : Nat) : Int), ((Nat.land a12.toNat 252 : Nat) : Int), ((Nat.land a13.toNat 255 : Nat) : Int), ((Nat.land a14.toNat 255 : Nat) : Int), ((Nat.land a15.toNat 15 : Nat) : Int)]
 rw [h0.1, h1.1, h2.1, h3.2.1, h4.2.2, h5.1, h6.1, h7.2.1, h8.2.2, h9.1, h10.1, h11.2.1, h12.2.2, h13.1, h14.1, h15.2.1]
theorem q130_qP : q130 = (qP : Int) := rfl
def sumN (r : Nat) (xs : List Int) : Nat → Nat
 | 0 => 0
 | i + 1 => (sumN r xs i + (numN ((xs.drop (16 * i)).take 16) + 256 ^ ((xs.drop (16 * i)).take 16).length)) % qP * r % qP
theorem polyGo_sum (r : Nat) (xs : List Int) : ∀ (m i : Nat), 16 * i ≤ xs.length + 15 → xs.length < 16 * (i + m) + 16 → xs.length ≤ 16 * (i + m) → polyGo r m (xs.drop (16 * i)) (sumN r xs i) = sumN r xs ((xs.length + 15) / 16)
 | 0, i, h0, _, h1 => by
  show sumN r xs i = _
  rw [show (xs.length + 15) / 16 = i by omega]
 | m + 1, i, h0, h2, h1 => by
  rcases hd : xs.drop (16 * i) with _ | ⟨x, l⟩
  ·have hl : xs.length ≤ 16 * i := by
    have := congrArg List.length hd
    rw [List.length_drop, List.length_nil] at this
    omega
   show sumN r xs i = _
   rw [show (xs.length + 15) / 16 = i by omega]
  ·have hl : 16 * i < xs.length := by
    have := congrArg List.length hd
    rw [List.length_drop, List.length_cons] at this
    omega
   show polyGo r m ((x :: l).drop 16) ((sumN r xs i + (numN ((x :: l).take 16) + 256 ^ ((x :: l).take 16).length)) % qP * r % qP) = _
   rw [← hd, List.drop_drop, show 16 * i + 16 = 16 * (i + 1) by omega]
   exact polyGo_sum r xs m (i + 1) (by omega) (by omega) (by omega)
theorem num_q17 (n : Int) : num (bytesOf 17 (n % q130)) = n % q130 := by
 have h := mod130 n
 rw [num_bytesOf, show (256 : Int) ^ 17 = 87112285931760246646623899502532662132736 by decide]
 exact Int.emod_eq_of_lt h.1 (by unfold q130 at *; omega)
theorem num_rep0 : ∀ k : Nat, num (List.replicate k 0) = 0
 | 0 => rfl
 | k + 1 => by rw [List.replicate_succ, num, num_rep0 k]; rfl
theorem num_blk (x : List Int) : num (blkQ x) = num x + 256 ^ x.length := by
 unfold blkQ
 rw [num_append, num, num_rep0]
 omega
theorem polyA_sum {By xs : List Int} {r : Nat} (hr : num By = (r : Int)) (hb : ∀ x ∈ xs, 0 ≤ x ∧ x < 256) : ∀ i, num (polyA By xs i) = (sumN r xs i : Int)
 | 0 => by
  show num (List.replicate 17 0) = 0
  exact num_rep0 17
 | i + 1 => by
  have ih := polyA_sum hr hb i
  have hx : ∀ x ∈ (xs.drop (16 * i)).take 16, 0 ≤ x ∧ x < 256 := fun x h => hb x (List.mem_of_mem_drop (List.mem_of_mem_take h))
  show num (stepA By (polyA By xs i) ((xs.drop (16 * i)).take 16)) = (((sumN r xs i + (numN ((xs.drop (16 * i)).take 16) + 256 ^ ((xs.drop (16 * i)).take 16).length)) % qP * r % qP : Nat) : Int)
  unfold stepA
  rw [num_q17, num_q17, num_blk, ih, hr, num_numN hx, q130_qP, Int.natCast_emod, Int.natCast_mul, Int.natCast_emod, Int.natCast_add, Int.natCast_add, Int.natCast_pow]
  rfl
theorem sumN_lt (r : Nat) (xs : List Int) : ∀ i, sumN r xs i < qP
 | 0 => (by decide : 0 < qP)
 | _ + 1 => Nat.mod_lt _ (by decide)
theorem sum_eq {ks xs : List Int} (hk : ks.length = 32) (hb : ∀ x ∈ ks, 0 ≤ x ∧ x < 256) (hx : ∀ x ∈ xs, 0 ≤ x ∧ x < 256) :
  bytesOf 16 (num (polyA (trimQ (ks.take 16) ++ [0]) xs ((xs.length + 15) / 16)) % q130 + num ((ks.drop 16).take 16)) = sumPL ks xs := by
 have b1 : ∀ x ∈ ks.take 16, 0 ≤ x ∧ x < 256 := fun x h => hb x (List.mem_of_mem_take h)
 have b2 : ∀ x ∈ ks.drop 16, 0 ≤ x ∧ x < 256 := fun x h => hb x (List.mem_of_mem_drop h)
 have ht : ∀ x ∈ trimQ (ks.take 16), 0 ≤ x ∧ x < 256 := by
  obtain ⟨a0, a1, a2, a3, a4, a5, a6, a7, a8, a9, a10, a11, a12, a13, a14, a15, e⟩ := list16 (show (ks.take 16).length = 16 by rw [List.length_take]; omega)
  rw [e] at b1 ⊢
  intro x hx
  have hx : x ∈ [a0, a1, a2, bits .and .u8 a3 15, bits .and .u8 a4 252, a5, a6, bits .and .u8 a7 15, bits .and .u8 a8 252, a9, a10, bits .and .u8 a11 15, bits .and .u8 a12 252, a13, a14, bits .and .u8 a15 15] := hx
  simp only [List.mem_cons, List.not_mem_nil, or_false] at hx
  rcases hx with rfl | rfl | rfl | rfl | rfl | rfl | rfl | rfl | rfl | rfl | rfl | rfl | rfl | rfl | rfl | rfl
  all_goals first
   | exact bits_byte _ _ _
   | exact b1 _ (by simp)
 have hr : num (trimQ (ks.take 16) ++ [0]) = ((clampN (numN (ks.take 16)) : Nat) : Int) := by
  rw [num_append, num_numN ht, trim_num (by rw [List.length_take]; omega) b1]
  show _ + _ * (0 + 256 * 0) = _
  omega
 have hp := polyGo_sum (clampN (numN (ks.take 16))) xs (xs.length / 16 + 1) 0 (by omega) (by omega) (by omega)
 rw [Nat.mul_zero, List.drop_zero] at hp
 have hs := polyA_sum hr hx ((xs.length + 15) / 16)
 have hlt := sumN_lt (clampN (numN (ks.take 16))) xs ((xs.length + 15) / 16)
 have e16 : (ks.drop 16).take 16 = ks.drop 16 := List.take_of_length_le (by rw [List.length_drop]; omega)
 unfold sumPL
 rw [hs, e16, num_numN b2, q130_qP, Int.emod_eq_of_lt (by omega) (by omega), bytsN_eq, Int.natCast_add]
 have hp' : polyGo (clampN (numN (ks.take 16))) (xs.length / 16 + 1) xs 0 = sumN (clampN (numN (ks.take 16))) xs ((xs.length + 15) / 16) := hp
 rw [hp']
theorem psum_vec {o : Bool} {t : TypeId} {ks xs : List Int} (hk : ks.length = 32) (hb : ∀ x ∈ ks, 0 ≤ x ∧ x < 256) (hx : ∀ x ∈ xs, 0 ≤ x ∧ x < 256) : Con Tryz.prog gl 234 [.arr false .u8 32 ks, .vec 13] [.cells o t [.row false false .u8 xs.length xs]]
  ⟨.arr false .u8 16 (sumPL ks xs), [.cells o t [.row false false .u8 xs.length xs]]⟩ := by
 have con := psum_con (o := o) (t := t) (xs := xs) hk
 rw [sum_eq hk hb hx] at con
 exact con_part (.keep _ (.turn (o := o) (t := t) (p := .row false false .u8 xs.length xs) false (by rfl) .nil)) con
noncomputable def F234V : Spec := fun args mem => match args, mem with
 | [.arr l1 .u8 32 ks, .vec i], [.cells o t [.row ln lc .u8 n xs]] =>
  gd (Nat.beq i 13) (sumPK ks xs fun l => .leaf ⟨.arr (l1 && lc) .u8 16 l, [.cells o t [.row ln lc .u8 n xs]]⟩)
 | _, _ => .fail
theorem f234V_ok : FnOk Tryz.prog gl 234 F234V := by
 intro args mem r h
 unfold F234V at h
 split at h
 case h_2 => exact h.elim
 rename_i l1 ks i o t ln lc n xs
 obtain ⟨h1, h⟩ := Tr.is_gd.1 h
 rw [sumPK_eq] at h
 have h := Tr.is_leaf.1 h
 subst h
 rw [Nat.eq_of_beq_eq_true h1]
 refine con_wf fun hw hm => ?_
 have hn : xs.length = n := hm.1.1.1
 subst hn
 exact con_to (psum_vec hw.1.1 (fun x hx => wf_u8.1 (hw.1.2 x hx)) (fun x hx => wf_u8.1 (hm.1.1.2 x hx)))
theorem f234V_still : Still F234V := by
 intro args mem r h
 unfold F234V at h
 split at h
 case h_2 => exact h.elim
 have h := (Tr.is_gd.1 h).2
 rw [sumPK_eq] at h
 have h := Tr.is_leaf.1 h
 subst h
 exact ⟨[], rfl⟩
theorem f234L_ok : FnOk Tryz.prog gl 234 F234L := by
 intro args mem r h
 unfold F234L at h
 split at h
 case h_2 => exact h.elim
 rename_i l1 ks i o t ln lc n xs
 obtain ⟨h1, h⟩ := Tr.is_gd.1 h
 obtain ⟨h2, h⟩ := Tr.is_le.1 h
 have h := Tr.is_leaf.1 h
 subst h
 rw [Nat.eq_of_beq_eq_true h1]
 refine con_wf fun hw hm => ?_
 have hn : xs.length = n := hm.1.1.1
 subst hn
 exact con_to (psum_vec hw.1.1 (fun x hx => wf_u8.1 (hw.1.2 x hx)) (fun x hx => wf_u8.1 (hm.1.1.2 x hx)))
end
end Go.Proofs.YtiojkpgcmhlhnaaGreatDoor.Ty
