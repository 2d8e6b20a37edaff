/-
  The ladder's steps on the points of an Edwards curve: what it reckons is the point's multiple. Plain numbers, no program in sight.
-/
import Derived.Test.YtechbdggjfahhaaDoorEdwards
namespace Go.Proofs.YtechbdggjfahhaaDoor.Sx
open Go
set_option maxRecDepth 100000

/-! ### The same modulo p -/

abbrev R (n m : Int) : Prop := D (n - m)
theorem R_mod (n : Int) : R (n % p25) n := by
  have := D_sub_mod n
  exact lc1 (r := -1) this (by grind)
theorem R_refl (n : Int) : R n n := by
  show D (n - n)
  rw [Int.sub_self]
  exact D_0
theorem R_symm {a b : Int} (h : R a b) : R b a := lc1 (r := -1) h (by grind)
theorem R_trans {a b c : Int} (h : R a b) (h' : R b c) : R a c := lc2 (r := 1) (s := 1) h h' (by grind)
theorem R_add {a b c d : Int} (h : R a b) (h' : R c d) : R (a + c) (b + d) := lc2 (r := 1) (s := 1) h h' (by grind)
theorem R_sub {a b c d : Int} (h : R a b) (h' : R c d) : R (a - c) (b - d) := lc2 (r := 1) (s := -1) h h' (by grind)
theorem R_mul {a b c d : Int} (h : R a b) (h' : R c d) : R (a * c) (b * d) := lc2 (r := c) (s := b) h h' (by grind)
theorem R_m {a b : Int} (h : R a b) : R (a % p25) b := R_trans (R_mod a) h
theorem D_of_R {a b : Int} (h : R a b) (hb : D b) : D a := lc2 (r := 1) (s := 1) h hb (by grind)
theorem emod_of_R {a b : Int} (h : R a b) : a % p25 = b % p25 := (Int.emod_eq_emod_iff_emod_sub_eq_zero).2 ((D_iff _).1 h)

/-! ### The ladder -/

structure L4 where
  x2 : Int
  z2 : Int
  x3 : Int
  z3 : Int

def stepL (u : Int) (s : L4) : L4 :=
  ⟨(s.x2 + s.z2) % p25 * ((s.x2 + s.z2) % p25) % p25 * ((s.x2 - s.z2) % p25 * ((s.x2 - s.z2) % p25) % p25) % p25,
   ((s.x2 + s.z2) % p25 * ((s.x2 + s.z2) % p25) % p25 - (s.x2 - s.z2) % p25 * ((s.x2 - s.z2) % p25) % p25) % p25 *
     (((s.x2 + s.z2) % p25 * ((s.x2 + s.z2) % p25) % p25 + 121665 * (((s.x2 + s.z2) % p25 * ((s.x2 + s.z2) % p25) % p25 - (s.x2 - s.z2) % p25 * ((s.x2 - s.z2) % p25) % p25) % p25) % p25) % p25) % p25,
   ((s.x3 - s.z3) % p25 * ((s.x2 + s.z2) % p25) % p25 + (s.x3 + s.z3) % p25 * ((s.x2 - s.z2) % p25) % p25) % p25 * (((s.x3 - s.z3) % p25 * ((s.x2 + s.z2) % p25) % p25 + (s.x3 + s.z3) % p25 * ((s.x2 - s.z2) % p25) % p25) % p25) % p25,
   u * (((s.x3 - s.z3) % p25 * ((s.x2 + s.z2) % p25) % p25 - (s.x3 + s.z3) % p25 * ((s.x2 - s.z2) % p25) % p25) % p25 * (((s.x3 - s.z3) % p25 * ((s.x2 + s.z2) % p25) % p25 - (s.x3 + s.z3) % p25 * ((s.x2 - s.z2) % p25) % p25) % p25) % p25) % p25⟩

def swapL (b : Int) (s : L4) : L4 := if b % 2 = 0 then s else ⟨s.x3, s.z3, s.x2, s.z2⟩

/-- n rounds, from the highest bit (254) down. -/
def ladGo (k u : Int) : Nat → L4
  | 0 => ⟨1, 0, u, 1⟩
  | n + 1 => swapL (k / 2 ^ (254 - n) % 2) (stepL u (swapL (k / 2 ^ (254 - n) % 2) (ladGo k u n)))

def lad (k u : Int) : Int := (ladGo k u 255).x2 * inv (ladGo k u 255).z2 % p25

/-- A round's numbers, not brought down. -/
def X4 (X Z : Int) : Int := (X + Z) * (X + Z) * ((X - Z) * (X - Z))
def Z4 (X Z : Int) : Int := ((X + Z) * (X + Z) - (X - Z) * (X - Z)) * ((X + Z) * (X + Z) + 121665 * ((X + Z) * (X + Z) - (X - Z) * (X - Z)))
def X5 (X2 Z2 X3 Z3 : Int) : Int := ((X3 - Z3) * (X2 + Z2) + (X3 + Z3) * (X2 - Z2)) * ((X3 - Z3) * (X2 + Z2) + (X3 + Z3) * (X2 - Z2))
def Z5 (u X2 Z2 X3 Z3 : Int) : Int := u * (((X3 - Z3) * (X2 + Z2) - (X3 + Z3) * (X2 - Z2)) * ((X3 - Z3) * (X2 + Z2) - (X3 + Z3) * (X2 - Z2)))

theorem stepL_R (u : Int) (s : L4) : R (stepL u s).x2 (X4 s.x2 s.z2) ∧ R (stepL u s).z2 (Z4 s.x2 s.z2) ∧ R (stepL u s).x3 (X5 s.x2 s.z2 s.x3 s.z3) ∧ R (stepL u s).z3 (Z5 u s.x2 s.z2 s.x3 s.z3) := by
  have a := R_mod (s.x2 + s.z2)
  have b := R_mod (s.x2 - s.z2)
  have c := R_mod (s.x3 + s.z3)
  have d := R_mod (s.x3 - s.z3)
  have aa := R_m (R_mul a a)
  have bb := R_m (R_mul b b)
  have e := R_m (R_sub aa bb)
  have da := R_m (R_mul d a)
  have cb := R_m (R_mul c b)
  have su := R_m (R_add da cb)
  have di := R_m (R_sub da cb)
  exact ⟨R_m (R_mul aa bb), R_m (R_mul e (R_m (R_add aa (R_m (R_mul (R_refl 121665) e))))), R_m (R_mul su su), R_m (R_mul (R_refl u) (R_m (R_mul di di)))⟩

/-! ### A pair of numbers that stands for a point -/

def rep (X Z : Int) (P : Ed) : Prop := ¬ D (X + Z) ∧ D (X - Z - P.y * (X + Z))

theorem rep_congr {X Z X' Z' : Int} {P : Ed} (hx : R X' X) (hz : R Z' Z) (h : rep X Z P) : rep X' Z' P :=
  ⟨fun k => h.1 (lc3 (r := 1) (s := -1) (t := -1) k hx hz (by grind)), by
    have h2 := h.2
    exact lc3 (r := 1) (s := 1 - P.y) (t := -1 - P.y) h2 hx hz (by grind)⟩

theorem rep_dbl {X Z : Int} {P : Ed} (h : rep X Z P) : rep (X4 X Z) (Z4 X Z) (P.add P) := by
  obtain ⟨hA, hB⟩ := h
  have hon := P.on
  have hs := sy_eq P.on P.on
  have hm := div_m P.on P.on
  have ey : (P.add P).y = sy P.x P.y P.x P.y := rfl
  unfold rep
  rw [ey]
  unfold X4 Z4
  unfold onC ca cd at hon
  unfold ca cd at hs
  unfold cd at hm
  generalize sy P.x P.y P.x P.y = y' at *
  generalize P.x = x at *
  generalize P.y = y at *
  generalize hAe : X + Z = A at *
  generalize X - Z = B at *
  have hBB : D (B * B - y * y * (A * A)) := lc1 (r := B + y * A) hB (by grind)
  have nA4 : ¬ D (A * A * (A * A)) := fun k => by
    rcases D_mul k with k | k <;> rcases D_mul k with k | k <;> exact hA k
  -- both numbers, by A and y
  have hX : D (A * A * (B * B) - A * A * (A * A) * (y * y)) := lc1 (r := A * A) hBB (by grind)
  have hZ : D ((A * A - B * B) * (A * A + 121665 * (A * A - B * B)) - A * A * (A * A) * ((1 - y * y) * (1 + 121665 * (1 - y * y)))) :=
    lc1 (r := -(A * A) + -121665 * (2 * (A * A) - B * B - y * y * (A * A))) hBB (by grind)
  constructor
  · intro k
    have k1 : D (A * A * (A * A) * (1 + 121665 * ((1 - y * y) * (1 - y * y)))) := lc3 (r := 1) (s := -1) (t := -1) k hX hZ (by grind)
    rcases D_mul k1 with k2 | k2
    · exact nA4 k2
    · have hsq := sqM_ok
      have : D (cd * (1 - y * y) * (1 - y * y) - (2 * sqM) * (2 * sqM)) := by
        unfold cd
        exact lc2 (r := 4) (s := -4) k2 hsq (by grind)
      have hw := nonsq this
      exact not_D1 (lc2 (r := 1) (s := -121665 * (1 - y * y)) k2 hw (by grind))
  · have id : (y * y - (1 - y * y) * (1 + 121665 * (1 - y * y))) * (1 - 486660 * x * x * y * y) - (y * y - 486664 * x * x) * (y * y + (1 - y * y) * (1 + 121665 * (1 - y * y))) =
        (-121665 * y * y * y * y + 121666) * (486664 * x * x + y * y - 1 - 486660 * x * x * y * y) := by grind
    have k1 : D ((A * A * (A * A)) * ((y * y - (1 - y * y) * (1 + 121665 * (1 - y * y))) - y' * (y * y + (1 - y * y) * (1 + 121665 * (1 - y * y)))) * (1 - 486660 * x * x * y * y)) := by
      refine lc2 (r := A * A * (A * A) * (-121665 * y * y * y * y + 121666)) (s := -(A * A * (A * A)) * (y * y + (1 - y * y) * (1 + 121665 * (1 - y * y)))) hon hs ?_
      grind
    rcases D_mul k1 with k2 | k2
    · exact lc3 (r := 1) (s := 1 - y') (t := -1 - y') k2 hX hZ (by grind)
    · exact absurd k2 hm

/-- The difference's number does not hang on which is taken from which. -/
theorem y_sub (P Q : Ed) : D ((P.add Q.neg).y * (1 + cd * P.x * Q.x * P.y * Q.y) - (P.y * Q.y + ca * P.x * Q.x)) := by
  have h := sy_eq P.on Q.neg.on
  have m := D_sub_mod (-Q.x)
  have e : (P.add Q.neg).y = sy P.x P.y Q.neg.x Q.neg.y := rfl
  rw [e]
  have e1 : Q.neg.x = (-Q.x) % p25 := rfl
  have e2 : Q.neg.y = Q.y := rfl
  rw [e1, e2] at h ⊢
  generalize sy P.x P.y ((-Q.x) % p25) Q.y = y at *
  generalize (-Q.x) % p25 = q at *
  exact lc2 (r := 1) (s := -y * cd * P.x * P.y * Q.y + ca * P.x) h m (by grind)

theorem y_sub_comm (P Q : Ed) : (P.add Q.neg).y = (Q.add P.neg).y := by
  have h1 := y_sub P Q
  have h2 := y_sub Q P
  have n1 := div_p P.on Q.on
  have n2 := div_p Q.on P.on
  exact same_frac (P.add Q.neg).hy (Q.add P.neg).hy h1 h2 n1 n2 (by
    have : (P.y * Q.y + ca * P.x * Q.x) * (1 + cd * Q.x * P.x * Q.y * P.y) - (Q.y * P.y + ca * Q.x * P.x) * (1 + cd * P.x * Q.x * P.y * Q.y) = 0 := by grind
    rw [this]
    exact D_0)

theorem rep_sum {X2 Z2 X3 Z3 u yb : Int} {P Q : Ed} (hQ : rep X2 Z2 Q) (hP : rep X3 Z3 P) (hyb : (P.add Q.neg).y = yb) (hu : D (u * (1 - yb) - (1 + yb))) (nu : ¬ D u) : rep (X5 X2 Z2 X3 Z3) (Z5 u X2 Z2 X3 Z3) (P.add Q) := by
  obtain ⟨hA, hB⟩ := hQ
  obtain ⟨hC, hE⟩ := hP
  have h1 := P.on
  have h2 := Q.on
  have hb := y_sub P Q
  rw [hyb] at hb
  have hs := sy_eq P.on Q.on
  have nm := div_m P.on Q.on
  have np := div_p P.on Q.on
  have did := diff_id ca cd P.x P.y Q.x Q.y
  have ey : (P.add Q).y = sy P.x P.y Q.x Q.y := rfl
  unfold rep
  rw [ey]
  have hid : D ((1 - cd * P.x * Q.x * P.y * Q.y + (P.y * Q.y - ca * P.x * Q.x)) * (1 + cd * P.x * Q.x * P.y * Q.y + (P.y * Q.y + ca * P.x * Q.x)) * ((P.y - Q.y) * (P.y - Q.y)) - (1 - cd * P.x * Q.x * P.y * Q.y - (P.y * Q.y - ca * P.x * Q.x)) * (1 + cd * P.x * Q.x * P.y * Q.y - (P.y * Q.y + ca * P.x * Q.x)) * ((P.y + Q.y) * (P.y + Q.y))) := by
    rw [did]
    exact Int.dvd_add (Int.dvd_mul_of_dvd_right h1) (Int.dvd_mul_of_dvd_right h2)
  clear did
  unfold X5 Z5
  generalize sy P.x P.y Q.x Q.y = ys at *
  generalize P.x = x1 at *
  generalize P.y = y1 at *
  generalize Q.x = x2 at *
  generalize Q.y = y2 at *
  generalize X2 + Z2 = A at *
  generalize X2 - Z2 = B at *
  generalize X3 + Z3 = C at *
  generalize X3 - Z3 = E at *
  have n1b : ¬ D (1 - yb) := fun k => by
    have : D (1 + yb) := lc2 (r := u) (s := -1) k hu (by grind)
    exact not_D2 (lc2 (r := 1) (s := 1) k this (by grind))
  -- the sum's number, by the two and the difference's
  have f1 : D ((1 - cd * x1 * x2 * y1 * y2) * (1 + cd * x1 * x2 * y1 * y2) * ((1 + ys) * (1 + yb) * ((y1 - y2) * (y1 - y2)) - (1 - ys) * (1 - yb) * ((y1 + y2) * (y1 + y2)))) := by
    generalize hT : cd * x1 * x2 * y1 * y2 = T at *
    generalize y1 * y2 - ca * x1 * x2 = L at *
    generalize y1 * y2 + ca * x1 * x2 = L' at *
    generalize (y1 - y2) * (y1 - y2) = U at *
    generalize (y1 + y2) * (y1 + y2) = V at *
    refine lc3 (r := 1) (s := (1 + T) * (1 + yb) * U + (1 + T) * (1 - yb) * V) (t := (1 - T + L) * U + (1 - T - L) * V) hid hs hb ?_
    grind
  have f2 : D ((1 + ys) * (1 + yb) * ((y1 - y2) * (y1 - y2)) - (1 - ys) * (1 - yb) * ((y1 + y2) * (y1 + y2))) := by
    rcases D_mul f1 with k | k
    · rcases D_mul k with k | k
      · exact absurd k nm
      · exact absurd k np
    · exact k
  have f3 : D (u * (1 + ys) * ((y1 - y2) * (y1 - y2)) - (1 - ys) * ((y1 + y2) * (y1 + y2))) := by
    have k : D ((1 - yb) * (u * (1 + ys) * ((y1 - y2) * (y1 - y2)) - (1 - ys) * ((y1 + y2) * (y1 + y2)))) := lc2 (r := 1) (s := (1 + ys) * ((y1 - y2) * (y1 - y2))) f2 hu (by grind)
    rcases D_mul k with k | k
    · exact absurd k n1b
    · exact k
  have nAC : ¬ D (A * C * (A * C)) := fun k => by
    rcases D_mul k with k | k <;> rcases D_mul k with k | k
    · exact hA k
    · exact hC k
    · exact hA k
    · exact hC k
  have g1 : D (E * A + C * B - A * C * (y1 + y2)) := lc2 (r := A) (s := C) hE hB (by grind)
  have g2 : D (E * A - C * B - A * C * (y1 - y2)) := lc2 (r := A) (s := -C) hE hB (by grind)
  have hX : D ((E * A + C * B) * (E * A + C * B) - A * C * (A * C) * ((y1 + y2) * (y1 + y2))) := lc1 (r := E * A + C * B + A * C * (y1 + y2)) g1 (by grind)
  have hZ : D (u * ((E * A - C * B) * (E * A - C * B)) - A * C * (A * C) * (u * ((y1 - y2) * (y1 - y2)))) := lc1 (r := u * (E * A - C * B + A * C * (y1 - y2))) g2 (by grind)
  generalize (E * A + C * B) * (E * A + C * B) = XX at *
  generalize u * ((E * A - C * B) * (E * A - C * B)) = ZZ at *
  have hrel : D (XX - ZZ - ys * (XX + ZZ)) := by
    refine lc3 (r := 1 - ys) (s := -1 - ys) (t := -(A * C * (A * C))) hX hZ f3 ?_
    grind
  refine ⟨fun k => ?_, hrel⟩
  have kx : D XX := D_not2 (lc2 (r := 1) (s := 1 + ys) hrel k (by grind))
  have kz : D ZZ := lc2 (r := 1) (s := -1) k kx (by grind)
  have k1 : D (A * C * (A * C) * ((y1 + y2) * (y1 + y2))) := lc2 (r := 1) (s := -1) kx hX (by grind)
  have k2 : D (A * C * (A * C) * (u * ((y1 - y2) * (y1 - y2)))) := lc2 (r := 1) (s := -1) kz hZ (by grind)
  have m1 : D (y1 + y2) := by
    rcases D_mul k1 with q | q
    · exact absurd q nAC
    · rcases D_mul q with q | q <;> exact q
  have m2 : D (y1 - y2) := by
    rcases D_mul k2 with q | q
    · exact absurd q nAC
    · rcases D_mul q with q | q
      · exact absurd q nu
      · rcases D_mul q with q | q <;> exact q
  have d1 : D y1 := D_not2 (lc2 (r := 1) (s := 1) m1 m2 (by grind))
  have d2 : D y2 := lc2 (r := 1) (s := -1) m1 d1 (by grind)
  unfold onC at h1 h2
  have c1 : D (ca * x1 * x1 - 1) := lc2 (r := 1) (s := -y1 + cd * x1 * x1 * y1) h1 d1 (by grind)
  have c2 : D (ca * x2 * x2 - 1) := lc2 (r := 1) (s := -y2 + cd * x2 * x2 * y2) h2 d2 (by grind)
  have c3 : D (yb - ca * x1 * x2) := lc2 (r := 1) (s := y2 - yb * cd * x1 * x2 * y2) hb d1 (by grind)
  have c4 : D (ca * (x1 - x2) * (x1 + x2)) := lc2 (r := 1) (s := -1) c1 c2 (by grind)
  rcases D_mul c4 with q | q
  · rcases D_mul q with q | q
    · rw [D_iff] at q
      exact absurd q (by decide)
    · exact n1b (lc3 (r := -1) (s := -1) (t := ca * x1) c3 c1 q (by grind))
  · have q2 : D (1 + yb) := lc3 (r := 1) (s := -1) (t := ca * x1) c3 c1 q (by grind)
    have : D (u * (1 - yb)) := lc2 (r := 1) (s := 1) hu q2 (by grind)
    rcases D_mul this with q | q
    · exact nu q
    · exact n1b q

/-- A point's number. -/
def U (P : Ed) : Int := (1 + P.y) * inv (1 - P.y) % p25

theorem rep_U {X Z : Int} {P : Ed} (h : rep X Z P) : X * inv Z % p25 = U P := by
  obtain ⟨hS, hB⟩ := h
  unfold U
  refine emod_of_R ?_
  by_cases hz : D Z
  · have h1 : D (1 - P.y) := by
      have : D ((1 - P.y) * (X + Z)) := lc2 (r := 1) (s := 2) hB hz (by grind)
      rcases D_mul this with k | k
      · exact k
      · exact absurd k hS
    rw [inv_zero _ ((D_iff _).1 hz), inv_zero _ ((D_iff _).1 h1), Int.mul_zero, Int.mul_zero]
    exact R_refl 0
  · have h1 : ¬ D (1 - P.y) := fun k => by
      have : D (2 * Z) := lc2 (r := X + Z) (s := -1) k hB (by grind)
      exact hz (D_not2 this)
    have i1 := D_inv hz
    have i2 := D_inv h1
    generalize inv Z = iz at *
    generalize inv (1 - P.y) = iy at *
    have : D ((X * iz - (1 + P.y) * iy) * (Z * (1 - P.y))) := by
      refine lc3 (r := X * (1 - P.y)) (s := -(1 + P.y) * Z) (t := 1) i1 i2 hB ?_
      grind
    rcases D_mul this with k | k
    · exact k
    · rcases D_mul k with k | k
      · exact absurd k hz
      · exact absurd k h1

/-! ### Multiples -/

def smul : Nat → Ed → Ed
  | 0, _ => Ed.zero
  | n + 1, P => (smul n P).add P

theorem smul_add (m : Nat) (P : Ed) : ∀ n, smul (m + n) P = (smul m P).add (smul n P)
  | 0 => (Ed.add_zero _).symm
  | n + 1 => by
    show (smul (m + n) P).add P = (smul m P).add ((smul n P).add P)
    rw [smul_add m P n, Ed.add_assoc]

theorem smul_zero : ∀ n, smul n Ed.zero = Ed.zero
  | 0 => rfl
  | n + 1 => by
    show (smul n Ed.zero).add Ed.zero = Ed.zero
    rw [Ed.add_zero, smul_zero n]

theorem smul_mul (m : Nat) (P : Ed) : ∀ n, smul n (smul m P) = smul (m * n) P
  | 0 => rfl
  | n + 1 => by
    show (smul n (smul m P)).add (smul m P) = smul (m * n + m) P
    rw [smul_mul m P n, smul_add]

theorem smul_one (P : Ed) : smul 1 P = P := Ed.zero_add P

theorem Ed.add_neg (P : Ed) : P.add P.neg = Ed.zero := by
  refine Ed.ext' ?_ ?_
  · show sx P.x P.y ((-P.x) % p25) P.y = 0
    unfold sx
    have h : (P.x * P.y + P.y * ((-P.x) % p25)) % p25 = 0 := by
      have m := D_sub_mod (-P.x)
      rw [← D_iff]
      exact lc1 (r := -P.y) m (by grind)
    rw [← emm, h, Int.zero_mul]
    decide
  · have h := y_sub P P
    have hon := P.on
    have np := div_p P.on P.on
    refine eq_of_D (P.add P.neg).hy (by decide : (1 : Int) % p25 = 1) ?_
    generalize (P.add P.neg).y = y at *
    unfold onC at hon
    have : D ((y - 1) * (1 + cd * P.x * P.x * P.y * P.y)) := lc2 (r := 1) (s := 1) h hon (by grind)
    rcases D_mul this with k | k
    · exact k
    · exact absurd k np

theorem sub_self_add (P B : Ed) : (P.add B).add P.neg = B := by
  rw [Ed.add_comm P B, Ed.add_assoc, Ed.add_neg, Ed.add_zero]

/-! ### The ladder reckons multiples -/

theorem bit_div (K : Nat) (n : Nat) (h : n < 255) : K / 2 ^ (255 - (n + 1)) = 2 * (K / 2 ^ (255 - n)) + K / 2 ^ (254 - n) % 2 := by
  have e : 255 - n = (254 - n) + 1 := by omega
  have e1 : 255 - (n + 1) = 254 - n := by omega
  rw [e, e1, Nat.pow_succ, ← Nat.div_div_eq_div_mul]
  omega

theorem ladGo_rep (K : Nat) (hK : K < 2 ^ 255) (u : Int) (B : Ed) (hu : D (u * (1 - B.y) - (1 + B.y))) (nu : ¬ D u) : ∀ n, n ≤ 255 →
    rep (ladGo (K : Int) u n).x2 (ladGo (K : Int) u n).z2 (smul (K / 2 ^ (255 - n)) B) ∧ rep (ladGo (K : Int) u n).x3 (ladGo (K : Int) u n).z3 (smul (K / 2 ^ (255 - n) + 1) B)
  | 0, _ => by
    have e : K / 2 ^ (255 - 0) = 0 := Nat.div_eq_of_lt hK
    rw [e]
    refine ⟨⟨?_, ?_⟩, ?_⟩
    · show ¬ D (1 + 0)
      exact not_D1
    · show D (1 - 0 - 1 * (1 + 0))
      exact D_0
    · rw [Nat.zero_add, smul_one]
      refine ⟨?_, ?_⟩
      · show ¬ D (u + 1)
        intro k
        have h2 : D (2 * 1) := lc2 (r := 1 - B.y) (s := -1) k hu (by grind)
        exact not_D1 (D_not2 h2)
      · show D (u - 1 - B.y * (u + 1))
        exact lc1 (r := 1) hu (by grind)
  | n + 1, hn => by
    obtain ⟨r2, r3⟩ := ladGo_rep K hK u B hu nu n (by omega)
    have hb : ((K : Int) / 2 ^ (254 - n) % 2) = ((K / 2 ^ (254 - n) % 2 : Nat) : Int) := by
      rw [Int.natCast_emod, Int.natCast_ediv, Int.natCast_pow]
      rfl
    have hd := bit_div K n (by omega)
    have hsub : (smul (K / 2 ^ (255 - n) + 1) B).add (smul (K / 2 ^ (255 - n)) B).neg = B := sub_self_add _ _
    have hsub2 : ((smul (K / 2 ^ (255 - n)) B).add (smul (K / 2 ^ (255 - n) + 1) B).neg).y = B.y := by
      rw [y_sub_comm, hsub]
    have ego : ladGo (K : Int) u (n + 1) = swapL ((K : Int) / 2 ^ (254 - n) % 2) (stepL u (swapL ((K : Int) / 2 ^ (254 - n) % 2) (ladGo (K : Int) u n))) := rfl
    rw [ego]
    generalize ladGo (K : Int) u n = s at *
    generalize K / 2 ^ (255 - n) = m at *
    rw [hb, hd]
    have h01 : K / 2 ^ (254 - n) % 2 = 0 ∨ K / 2 ^ (254 - n) % 2 = 1 := by omega
    rcases h01 with h0 | h0
    · rw [h0]
      have e : ∀ s : L4, swapL ((0 : Nat) : Int) s = s := fun _ => if_pos (by decide)
      rw [e, e]
      obtain ⟨t1, t2, t3, t4⟩ := stepL_R u s
      refine ⟨rep_congr t1 t2 ?_, rep_congr t3 t4 ?_⟩
      · have := rep_dbl r2
        rwa [← smul_add, show m + m = 2 * m + 0 by omega] at this
      · have := rep_sum r2 r3 (congrArg Ed.y hsub) hu nu
        rwa [← smul_add, show m + 1 + m = 2 * m + 0 + 1 by omega] at this
    · rw [h0]
      have e : ∀ s : L4, swapL ((1 : Nat) : Int) s = ⟨s.x3, s.z3, s.x2, s.z2⟩ := fun _ => if_neg (by decide)
      rw [e, e]
      obtain ⟨t1, t2, t3, t4⟩ := stepL_R u ⟨s.x3, s.z3, s.x2, s.z2⟩
      refine ⟨rep_congr t3 t4 ?_, rep_congr t1 t2 ?_⟩
      · have := rep_sum r3 r2 hsub2 hu nu
        rwa [← smul_add, show m + (m + 1) = 2 * m + 1 by omega] at this
      · have := rep_dbl r3
        rwa [← smul_add, show m + 1 + (m + 1) = 2 * m + 1 + 1 by omega] at this

theorem lad_U (K : Nat) (hK : K < 2 ^ 255) (u : Int) (B : Ed) (hu : D (u * (1 - B.y) - (1 + B.y))) (nu : ¬ D u) : lad (K : Int) u = U (smul K B) := by
  have h := (ladGo_rep K hK u B hu nu 255 (Nat.le_refl _)).1
  have e : K / 2 ^ (255 - 255) = K := by rw [Nat.sub_self, Nat.pow_zero, Nat.div_one]
  rw [e] at h
  exact rep_U h

end Go.Proofs.YtechbdggjfahhaaDoor.Sx
