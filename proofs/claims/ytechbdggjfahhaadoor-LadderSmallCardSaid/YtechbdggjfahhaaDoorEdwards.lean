/-
  The points of an Edwards curve modulo 2^255 - 19 are a group; the ladder's steps on them. Plain numbers, no program in sight.
-/
import Derived.Test.YtechbdggjfahhaaDoorCurveField
import Derived.Test.YtechbdggjfahhaaDoorEdwId
namespace Go.Proofs.YtechbdggjfahhaaDoor.Sx
open Go
set_option maxRecDepth 100000

/-! ### What p divides -/

abbrev D (n : Int) : Prop := p25 ∣ n

theorem D_iff (n : Int) : D n ↔ n % p25 = 0 := ⟨Int.emod_eq_zero_of_dvd, Int.dvd_of_emod_eq_zero⟩
theorem D_mul {a b : Int} (h : D (a * b)) : D a ∨ D b := by
  rw [D_iff] at h
  rcases no_zero_div a b h with h | h
  · exact Or.inl ((D_iff a).2 h)
  · exact Or.inr ((D_iff b).2 h)
theorem D_0 : D 0 := Int.dvd_zero _
theorem lc1 {a g r : Int} (ha : D a) (h : g = r * a) : D g := h ▸ Int.dvd_mul_of_dvd_right ha
theorem lc2 {a b g r s : Int} (ha : D a) (hb : D b) (h : g = r * a + s * b) : D g :=
  h ▸ Int.dvd_add (Int.dvd_mul_of_dvd_right ha) (Int.dvd_mul_of_dvd_right hb)
theorem lc3 {a b c g r s t : Int} (ha : D a) (hb : D b) (hc : D c) (h : g = r * a + s * b + t * c) : D g :=
  h ▸ Int.dvd_add (Int.dvd_add (Int.dvd_mul_of_dvd_right ha) (Int.dvd_mul_of_dvd_right hb)) (Int.dvd_mul_of_dvd_right hc)
theorem D_sub_mod (n : Int) : D (n - n % p25) := by
  rw [D_iff, Int.sub_emod_emod, Int.sub_self]
  decide
theorem D_not2 {n : Int} (h : D (2 * n)) : D n := by
  rcases D_mul h with h | h
  · exact absurd h (by rw [D_iff]; decide)
  · exact h
theorem not_D1 : ¬ D 1 := by rw [D_iff]; decide
theorem not_D2 : ¬ D 2 := by rw [D_iff]; decide

/-- The inverse, as a divisor. -/
theorem D_inv {x : Int} (h : ¬ D x) : D (inv x * x - 1) := by
  have := inv_mul x (fun e => h ((D_iff x).2 e))
  rw [D_iff, Int.sub_emod, this]
  decide

/-- Numbers below p that p cannot tell apart are the same. -/
theorem eq_of_D {x y : Int} (hx : x % p25 = x) (hy : y % p25 = y) (h : D (x - y)) : x = y := by
  rw [D_iff] at h
  have := Int.emod_emod_of_dvd x (Int.dvd_refl p25)
  rw [← hx, ← hy]
  exact (Int.emod_eq_emod_iff_emod_sub_eq_zero).2 h

/-! ### The curve -/

def ca : Int := 486664
def cd : Int := 486660
def sqA : Int := 48802004052532134862652268456126542835229456083994414501085850622543968879637
def sqM : Int := 19681161376707505956807079304988542015446066515923890162744021073123829784752

theorem sqA_ok : D (sqA * sqA - ca) := by rw [D_iff]; decide +kernel
theorem sqM_ok : D (sqM * sqM + 1) := by rw [D_iff]; decide +kernel

def onC (x y : Int) : Int := ca * x * x + y * y - 1 - cd * x * x * y * y

/-- cd is no square. -/
theorem nonsq {r s : Int} (h : D (cd * s * s - r * r)) : D s := by
  apply Classical.byContradiction
  intro hs
  have hi := D_inv hs
  -- w = r / s, w * w = cd
  have hw : D ((r * inv s) * (r * inv s) - cd) := by
    refine lc2 (r := -(inv s * inv s)) (s := cd * (inv s * s + 1)) h hi ?_
    grind
  generalize r * inv s = w at hw
  have hw0 : w % p25 ≠ 0 := fun e => by
    have hD : D w := (D_iff w).2 e
    have : D cd := lc2 (r := w) (s := -1) hD hw (by grind)
    rw [D_iff] at this
    exact absurd this (by decide)
  have hf := fermat25 w hw0
  have he : (P25 - 1) = 2 * ((P25 - 1) / 2) := by decide
  have h2 : (w * w) % p25 = cd % p25 := by
    rw [D_iff] at hw
    exact (Int.emod_eq_emod_iff_emod_sub_eq_zero).2 hw
  rw [he, Int.pow_mul, show w ^ 2 = w * w by rw [Int.pow_succ, Int.pow_succ, Int.pow_zero, Int.one_mul], ← emod_pow, h2, emod_pow] at hf
  have hc : pm 486660 ((P25 - 1) / 2) P25 = P25 - 1 := by decide +kernel
  have hm := pm_eq 486660 ((P25 - 1) / 2) P25 (by decide +kernel)
  rw [hc] at hm
  have hcast : ((486660 ^ ((P25 - 1) / 2) % P25 : Nat) : Int) = cd ^ ((P25 - 1) / 2) % p25 := by
    rw [Int.natCast_emod, Int.natCast_pow]
    rfl
  rw [← hm, hf] at hcast
  exact absurd hcast (by decide)

/-- No sum's divisor is 0. -/
theorem complete {x1 y1 x2 y2 e : Int} (h1 : D (onC x1 y1)) (h2 : D (onC x2 y2)) (he : e * e = 1) (h : D (cd * x1 * x2 * y1 * y2 - e)) : False := by
  unfold onC at h1 h2
  have ha := sqA_ok
  -- (al x1 + e y1)^2 = cd x1^2 y1^2 (al x2 + y2)^2
  have k1 : D (cd * (x1 * y1 * (sqA * x2 + y2)) * (x1 * y1 * (sqA * x2 + y2)) - (sqA * x1 + e * y1) * (sqA * x1 + e * y1)) := by
    have key : cd * (x1 * y1 * (sqA * x2 + y2)) * (x1 * y1 * (sqA * x2 + y2)) - (sqA * x1 + e * y1) * (sqA * x1 + e * y1) =
        (cd * x1 * x1 * y1 * y1) * (ca * x2 * x2 + y2 * y2 - 1 - cd * x2 * x2 * y2 * y2) + (-1) * (ca * x1 * x1 + y1 * y1 - 1 - cd * x1 * x1 * y1 * y1) +
        (cd * x1 * x2 * y1 * y2 + e + 2 * sqA * x1 * y1) * (cd * x1 * x2 * y1 * y2 - e) + (cd * x1 * x1 * y1 * y1 * x2 * x2 - x1 * x1) * (sqA * sqA - ca) + (1 - y1 * y1) * (e * e - 1) := by
      grind
    rw [key, he]
    have t1 : D ((cd * x1 * x1 * y1 * y1) * (ca * x2 * x2 + y2 * y2 - 1 - cd * x2 * x2 * y2 * y2)) := lc1 h2 rfl
    have t2 : D ((-1) * (ca * x1 * x1 + y1 * y1 - 1 - cd * x1 * x1 * y1 * y1)) := lc1 h1 rfl
    have t3 : D ((cd * x1 * x2 * y1 * y2 + e + 2 * sqA * x1 * y1) * (cd * x1 * x2 * y1 * y2 - e)) := lc1 h rfl
    have t4 : D ((cd * x1 * x1 * y1 * y1 * x2 * x2 - x1 * x1) * (sqA * sqA - ca)) := lc1 ha rfl
    have t5 : D ((1 - y1 * y1) * (1 - 1)) := by rw [Int.sub_self, Int.mul_zero]; exact D_0
    exact Int.dvd_add (Int.dvd_add (Int.dvd_add (Int.dvd_add t1 t2) t3) t4) t5
  have k2 : D (cd * (x1 * y1 * (sqA * x2 - y2)) * (x1 * y1 * (sqA * x2 - y2)) - (sqA * x1 - e * y1) * (sqA * x1 - e * y1)) := by
    have key : cd * (x1 * y1 * (sqA * x2 - y2)) * (x1 * y1 * (sqA * x2 - y2)) - (sqA * x1 - e * y1) * (sqA * x1 - e * y1) =
        (cd * x1 * x1 * y1 * y1) * (ca * x2 * x2 + y2 * y2 - 1 - cd * x2 * x2 * y2 * y2) + (-1) * (ca * x1 * x1 + y1 * y1 - 1 - cd * x1 * x1 * y1 * y1) +
        (cd * x1 * x2 * y1 * y2 + e - 2 * sqA * x1 * y1) * (cd * x1 * x2 * y1 * y2 - e) + (cd * x1 * x1 * y1 * y1 * x2 * x2 - x1 * x1) * (sqA * sqA - ca) + (1 - y1 * y1) * (e * e - 1) := by
      grind
    rw [key, he]
    have t1 : D ((cd * x1 * x1 * y1 * y1) * (ca * x2 * x2 + y2 * y2 - 1 - cd * x2 * x2 * y2 * y2)) := lc1 h2 rfl
    have t2 : D ((-1) * (ca * x1 * x1 + y1 * y1 - 1 - cd * x1 * x1 * y1 * y1)) := lc1 h1 rfl
    have t3 : D ((cd * x1 * x2 * y1 * y2 + e - 2 * sqA * x1 * y1) * (cd * x1 * x2 * y1 * y2 - e)) := lc1 h rfl
    have t4 : D ((cd * x1 * x1 * y1 * y1 * x2 * x2 - x1 * x1) * (sqA * sqA - ca)) := lc1 ha rfl
    have t5 : D ((1 - y1 * y1) * (1 - 1)) := by rw [Int.sub_self, Int.mul_zero]; exact D_0
    exact Int.dvd_add (Int.dvd_add (Int.dvd_add (Int.dvd_add t1 t2) t3) t4) t5
  have z1 := nonsq k1
  have z2 := nonsq k2
  -- the product of all four is e / cd: not 0
  have nz : ∀ g : Int, D g → (∃ r, cd * x1 * x2 * y1 * y2 = r * g) → False := by
    rintro g hg ⟨r, hr⟩
    rw [hr] at h
    have : D e := lc2 (r := r) (s := -1) hg h (by grind)
    have : D (e * e) := lc1 (r := e) this rfl
    rw [he] at this
    exact not_D1 this
  rcases D_mul z1 with z | z
  · exact nz _ z ⟨cd * x2 * y2, by grind⟩
  · rcases D_mul z2 with z' | z'
    · exact nz _ z' ⟨cd * x2 * y2, by grind⟩
    · have : D (2 * y2) := lc2 (r := 1) (s := -1) z z' (by grind)
      exact nz _ (D_not2 this) ⟨cd * x1 * x2 * y1, by grind⟩

theorem div_p {x1 y1 x2 y2 : Int} (h1 : D (onC x1 y1)) (h2 : D (onC x2 y2)) : ¬ D (1 + cd * x1 * x2 * y1 * y2) := fun h =>
  complete h1 h2 (e := -1) (by decide) (lc1 (r := 1) h (by grind))
theorem div_m {x1 y1 x2 y2 : Int} (h1 : D (onC x1 y1)) (h2 : D (onC x2 y2)) : ¬ D (1 - cd * x1 * x2 * y1 * y2) := fun h =>
  complete h1 h2 (e := 1) (by decide) (lc1 (r := -1) h (by grind))

/-! ### Points -/

structure Ed where
  x : Int
  y : Int
  hx : x % p25 = x
  hy : y % p25 = y
  on : D (onC x y)

theorem Ed.ext' {P Q : Ed} (hx : P.x = Q.x) (hy : P.y = Q.y) : P = Q := by
  obtain ⟨x, y, a, b, c⟩ := P
  obtain ⟨x', y', a', b', c'⟩ := Q
  simp only at hx hy
  subst hx hy
  rfl

def sx (x1 y1 x2 y2 : Int) : Int := (x1 * y2 + y1 * x2) * inv (1 + cd * x1 * x2 * y1 * y2) % p25
def sy (x1 y1 x2 y2 : Int) : Int := (y1 * y2 - ca * x1 * x2) * inv (1 - cd * x1 * x2 * y1 * y2) % p25

theorem frac {n d : Int} (h : ¬ D d) : D (n * inv d % p25 * d - n) := by
  have h1 := D_sub_mod (n * inv d)
  exact lc2 (r := -d) (s := n) h1 (D_inv h) (by grind)

theorem sx_eq {x1 y1 x2 y2 : Int} (h1 : D (onC x1 y1)) (h2 : D (onC x2 y2)) : D (sx x1 y1 x2 y2 * (1 + cd * x1 * x2 * y1 * y2) - (x1 * y2 + y1 * x2)) := frac (div_p h1 h2)
theorem sy_eq {x1 y1 x2 y2 : Int} (h1 : D (onC x1 y1)) (h2 : D (onC x2 y2)) : D (sy x1 y1 x2 y2 * (1 - cd * x1 * x2 * y1 * y2) - (y1 * y2 - ca * x1 * x2)) := frac (div_m h1 h2)

/-- Behind two fractions the curve's equation. -/
theorem on_frac {x y n m l q : Int} (hx : D (x * q - n)) (hy : D (y * m - l)) (hq : ¬ D q) (hm : ¬ D m) (h : D (ca * (n * m) * (n * m) + (l * q) * (l * q) - (q * m) * (q * m) - cd * (n * l) * (n * l))) : D (onC x y) := by
  have e1 : D (x * q * m - n * m) := lc1 (r := m) hx (by grind)
  have e2 : D (y * m * q - l * q) := lc1 (r := q) hy (by grind)
  have e3 : D ((x * q) * (y * m) - n * l) := lc2 (r := y * m) (s := n) hx hy (by grind)
  have t1 : D (ca * (n * m) * (n * m) - ca * (x * q * m) * (x * q * m)) := lc1 (r := -(ca * (n * m + x * q * m))) e1 (by grind)
  have t2 : D ((l * q) * (l * q) - (y * m * q) * (y * m * q)) := lc1 (r := -(l * q + y * m * q)) e2 (by grind)
  have t3 : D (cd * (n * l) * (n * l) - cd * ((x * q) * (y * m)) * ((x * q) * (y * m))) := lc1 (r := -(cd * (n * l + (x * q) * (y * m)))) e3 (by grind)
  have k : D (onC x y * ((q * m) * (q * m))) := by
    have : onC x y * ((q * m) * (q * m)) = (ca * (n * m) * (n * m) + (l * q) * (l * q) - (q * m) * (q * m) - cd * (n * l) * (n * l)) - (ca * (n * m) * (n * m) - ca * (x * q * m) * (x * q * m)) - ((l * q) * (l * q) - (y * m * q) * (y * m * q)) +
        (cd * (n * l) * (n * l) - cd * ((x * q) * (y * m)) * ((x * q) * (y * m))) := by
      unfold onC
      grind
    rw [this]
    exact Int.dvd_add (Int.dvd_sub (Int.dvd_sub h t1) t2) t3
  rcases D_mul k with k | k
  · exact k
  · rcases D_mul k with k | k <;> rcases D_mul k with k | k
    · exact absurd k hq
    · exact absurd k hm
    · exact absurd k hq
    · exact absurd k hm

theorem s_on {x1 y1 x2 y2 : Int} (h1 : D (onC x1 y1)) (h2 : D (onC x2 y2)) : D (onC (sx x1 y1 x2 y2) (sy x1 y1 x2 y2)) := by
  refine on_frac (sx_eq h1 h2) (sy_eq h1 h2) (div_p h1 h2) (div_m h1 h2) ?_
  rw [closed_id ca cd x1 y1 x2 y2]
  exact Int.dvd_add (Int.dvd_mul_of_dvd_right h1) (Int.dvd_mul_of_dvd_right h2)

def Ed.add (P Q : Ed) : Ed := ⟨sx P.x P.y Q.x Q.y, sy P.x P.y Q.x Q.y, Int.emod_emod _ _, Int.emod_emod _ _, s_on P.on Q.on⟩
def Ed.zero : Ed := ⟨0, 1, by decide, by decide, by decide⟩
def Ed.neg (P : Ed) : Ed := ⟨(-P.x) % p25, P.y, Int.emod_emod _ _, P.hy, by
  have h := P.on
  have m := D_sub_mod (-P.x)
  unfold onC at *
  refine lc2 (r := 1) (s := (ca - cd * P.y * P.y) * (P.x - (-P.x) % p25)) h m ?_
  grind⟩

theorem Ed.add_comm (P Q : Ed) : P.add Q = Q.add P := by
  refine Ed.ext' ?_ ?_
  · show sx _ _ _ _ = sx _ _ _ _
    unfold sx
    have e1 : P.x * Q.y + P.y * Q.x = Q.x * P.y + Q.y * P.x := by grind
    have e2 : 1 + cd * P.x * Q.x * P.y * Q.y = 1 + cd * Q.x * P.x * Q.y * P.y := by grind
    rw [e1, e2]
  · show sy _ _ _ _ = sy _ _ _ _
    unfold sy
    have e1 : P.y * Q.y - ca * P.x * Q.x = Q.y * P.y - ca * Q.x * P.x := by grind
    have e2 : 1 - cd * P.x * Q.x * P.y * Q.y = 1 - cd * Q.x * P.x * Q.y * P.y := by grind
    rw [e1, e2]

theorem inv_one : inv 1 = 1 := by
  have := inv_uniq 1 1 (by decide)
  rw [← this]
  decide

theorem Ed.add_zero (P : Ed) : P.add Ed.zero = P := by
  refine Ed.ext' ?_ ?_
  · show sx P.x P.y 0 1 = P.x
    unfold sx
    have e2 : 1 + cd * P.x * 0 * P.y * 1 = 1 := by grind
    have e1 : P.x * 1 + P.y * 0 = P.x := by grind
    rw [e1, e2, inv_one, Int.mul_one, P.hx]
  · show sy P.x P.y 0 1 = P.y
    unfold sy
    have e2 : 1 - cd * P.x * 0 * P.y * 1 = 1 := by grind
    have e1 : P.y * 1 - ca * P.x * 0 = P.y := by grind
    rw [e1, e2, inv_one, Int.mul_one, P.hy]

theorem Ed.zero_add (P : Ed) : Ed.zero.add P = P := by rw [Ed.add_comm, Ed.add_zero]

/-- Two fractions that are the same. -/
theorem same_frac {x x' n n' d d' : Int} (hx : x % p25 = x) (hx' : x' % p25 = x') (h : D (x * d - n)) (h' : D (x' * d' - n')) (hd : ¬ D d) (hd' : ¬ D d') (hn : D (n * d' - n' * d)) : x = x' := by
  have k : D ((x - x') * (d * d')) := lc3 (r := d') (s := -d) (t := 1) h h' hn (by grind)
  rcases D_mul k with k | k
  · exact eq_of_D hx hx' k
  · rcases D_mul k with k | k
    · exact absurd k hd
    · exact absurd k hd'

theorem clear_x {u v p m n l z w X : Int} (hx : D (u * p - n)) (hy : D (v * m - l)) (h : D (X * (1 + cd * u * z * v * w) - (u * w + v * z))) : D (X * (p * m + cd * n * l * z * w) - (n * m * w + l * p * z)) :=
  lc3 (r := p * m) (s := -X * cd * z * w * v * m + m * w) (t := -X * cd * z * w * n + p * z) h hx hy (by grind)
theorem den_x {u v p m n l z w : Int} (hx : D (u * p - n)) (hy : D (v * m - l)) (hp : ¬ D p) (hm : ¬ D m) (h : ¬ D (1 + cd * u * z * v * w)) : ¬ D (p * m + cd * n * l * z * w) := fun k => by
  have : D (p * m * (1 + cd * u * z * v * w)) := lc3 (r := 1) (s := cd * z * w * v * m) (t := cd * z * w * n) k hx hy (by grind)
  rcases D_mul this with k | k
  · rcases D_mul k with k | k
    · exact hp k
    · exact hm k
  · exact h k
theorem clear_y {u v p m n l z w X : Int} (hx : D (u * p - n)) (hy : D (v * m - l)) (h : D (X * (1 - cd * u * z * v * w) - (v * w - ca * u * z))) : D (X * (p * m - cd * n * l * z * w) - (l * p * w - ca * (n * m * z))) :=
  lc3 (r := p * m) (s := X * cd * z * w * v * m - ca * m * z) (t := X * cd * z * w * n + p * w) h hx hy (by grind)
theorem den_y {u v p m n l z w : Int} (hx : D (u * p - n)) (hy : D (v * m - l)) (hp : ¬ D p) (hm : ¬ D m) (h : ¬ D (1 - cd * u * z * v * w)) : ¬ D (p * m - cd * n * l * z * w) := fun k => by
  have : D (p * m * (1 - cd * u * z * v * w)) := lc3 (r := 1) (s := -cd * z * w * v * m) (t := -cd * z * w * n) k hx hy (by grind)
  rcases D_mul this with k | k
  · rcases D_mul k with k | k
    · exact hp k
    · exact hm k
  · exact h k
theorem clear_x2 {u v p m n l z w X : Int} (hx : D (u * p - n)) (hy : D (v * m - l)) (h : D (X * (1 + cd * z * u * w * v) - (z * v + w * u))) : D (X * (p * m + cd * z * w * n * l) - (z * (l * p) + w * (n * m))) :=
  lc3 (r := p * m) (s := -X * cd * z * w * v * m + w * m) (t := -X * cd * z * w * n + p * z) h hx hy (by grind)
theorem den_x2 {u v p m n l z w : Int} (hx : D (u * p - n)) (hy : D (v * m - l)) (hp : ¬ D p) (hm : ¬ D m) (h : ¬ D (1 + cd * z * u * w * v)) : ¬ D (p * m + cd * z * w * n * l) := fun k => by
  have : D (p * m * (1 + cd * z * u * w * v)) := lc3 (r := 1) (s := cd * z * w * v * m) (t := cd * z * w * n) k hx hy (by grind)
  rcases D_mul this with k | k
  · rcases D_mul k with k | k
    · exact hp k
    · exact hm k
  · exact h k
theorem clear_y2 {u v p m n l z w X : Int} (hx : D (u * p - n)) (hy : D (v * m - l)) (h : D (X * (1 - cd * z * u * w * v) - (w * v - ca * z * u))) : D (X * (p * m - cd * z * w * n * l) - (w * (l * p) - ca * (z * (n * m)))) :=
  lc3 (r := p * m) (s := X * cd * z * w * v * m - ca * z * m) (t := X * cd * z * w * n + p * w) h hx hy (by grind)
theorem den_y2 {u v p m n l z w : Int} (hx : D (u * p - n)) (hy : D (v * m - l)) (hp : ¬ D p) (hm : ¬ D m) (h : ¬ D (1 - cd * z * u * w * v)) : ¬ D (p * m - cd * z * w * n * l) := fun k => by
  have : D (p * m * (1 - cd * z * u * w * v)) := lc3 (r := 1) (s := -cd * z * w * v * m) (t := -cd * z * w * n) k hx hy (by grind)
  rcases D_mul this with k | k
  · rcases D_mul k with k | k
    · exact hp k
    · exact hm k
  · exact h k

theorem Ed.add_assoc (P Q R : Ed) : (P.add Q).add R = P.add (Q.add R) := by
  have h1 := P.on
  have h2 := Q.on
  have h3 := R.on
  have o12 := s_on h1 h2
  have o23 := s_on h2 h3
  have a1 := sx_eq h1 h2
  have a2 := sy_eq h1 h2
  have b1 := sx_eq h2 h3
  have b2 := sy_eq h2 h3
  have p12 := div_p h1 h2
  have m12 := div_m h1 h2
  have p23 := div_p h2 h3
  have m23 := div_m h2 h3
  have key : ∀ a b c : Int, D (a * (ca * P.x * P.x + P.y * P.y - 1 - cd * P.x * P.x * P.y * P.y) + b * (ca * Q.x * Q.x + Q.y * Q.y - 1 - cd * Q.x * Q.x * Q.y * Q.y) + c * (ca * R.x * R.x + R.y * R.y - 1 - cd * R.x * R.x * R.y * R.y)) := fun a b c =>
    Int.dvd_add (Int.dvd_add (Int.dvd_mul_of_dvd_right h1) (Int.dvd_mul_of_dvd_right h2)) (Int.dvd_mul_of_dvd_right h3)
  refine Ed.ext' ?_ ?_
  · refine same_frac (P.add Q |>.add R).hx (P.add (Q.add R)).hx (clear_x a1 a2 (sx_eq o12 h3)) (clear_x2 b1 b2 (sx_eq h1 o23)) (den_x a1 a2 p12 m12 (div_p o12 h3)) (den_x2 b1 b2 p23 m23 (div_p h1 o23)) ?_
    rw [assoc_x ca cd P.x P.y Q.x Q.y R.x R.y]
    exact key _ _ _
  · refine same_frac (P.add Q |>.add R).hy (P.add (Q.add R)).hy (clear_y a1 a2 (sy_eq o12 h3)) (clear_y2 b1 b2 (sy_eq h1 o23)) (den_y a1 a2 p12 m12 (div_m o12 h3)) (den_y2 b1 b2 p23 m23 (div_m h1 o23)) ?_
    rw [assoc_y ca cd P.x P.y Q.x Q.y R.x R.y]
    exact key _ _ _

end Go.Proofs.YtechbdggjfahhaaDoor.Sx
