/-
  The base point, its order; what two share; points that are refused. Plain numbers, no program in sight.
-/
import Derived.Test.YtechbdggjfahhaaDoorEdwLad
namespace Go.Proofs.YtechbdggjfahhaaDoor.Sx
open Go
set_option maxRecDepth 100000

def B0 : Ed := ⟨38213832894368730265794714087330135568483813637251082400757400312561599933396, 46316835694926478169428394003475163141307993866256225615783033603165251855960, by decide, by decide, (D_iff _).2 (by decide +kernel)⟩

theorem B0_u : D (9 * (1 - B0.y) - (1 + B0.y)) := (D_iff _).2 (by decide +kernel)
theorem nD9 : ¬ D 9 := by rw [D_iff]; decide

/-- The order. -/
def ell : Nat := 7237005577332262213973186563042994240857116359379907606001950938285454250989
theorem ell_pr : Pr ell := pr_7237005577332262213973186563042994240857116359379907606001950938285454250989

/-- Points of no more than two. -/
def low (P : Ed) : Prop := D (1 - P.y) ∨ D (1 + P.y)

theorem low_add {P : Ed} (h : low P) : P.add P = Ed.zero := by
  have hon := P.on
  have hs := sy_eq P.on P.on
  have hm := div_m P.on P.on
  unfold onC at hon
  have hyy : D (P.y * P.y - 1) := by
    rcases h with h | h
    · exact lc1 (r := -(1 + P.y)) h (by grind)
    · exact lc1 (r := P.y - 1) h (by grind)
  have hxx : D (4 * (P.x * P.x)) := by
    unfold ca cd at hon
    exact lc2 (r := 1) (s := -1 + 486660 * P.x * P.x) hon hyy (by grind)
  have hx : D P.x := by
    rcases D_mul hxx with k | k
    · rw [D_iff] at k
      exact absurd k (by decide)
    · rcases D_mul k with k | k <;> exact k
  have x0 : P.x = 0 := by
    rw [D_iff, P.hx] at hx
    exact hx
  refine Ed.ext' ?_ ?_
  · show sx P.x P.y P.x P.y = 0
    unfold sx
    rw [x0, Int.zero_mul, Int.mul_zero, Int.add_zero, Int.zero_mul]
    decide
  · refine eq_of_D (P.add P).hy (by decide : (1 : Int) % p25 = 1) ?_
    have e : (P.add P).y = sy P.x P.y P.x P.y := rfl
    rw [e]
    generalize sy P.x P.y P.x P.y = y at *
    rw [x0] at hs
    show D (y - 1)
    exact lc2 (r := 1) (s := 1) hs hyy (by grind)

theorem U_zero {P : Ed} (h : U P = 0) : low P := by
  unfold U at h
  rw [← D_iff] at h
  rcases D_mul h with k | k
  · exact Or.inr k
  · by_cases h1 : D (1 - P.y)
    · exact Or.inl h1
    · exfalso
      have := D_inv h1
      exact not_D1 (lc2 (r := -1) (s := 1 - P.y) this k (by grind))

theorem U_low {P : Ed} (h : low P) : U P = 0 := by
  unfold U
  rcases h with h | h
  · rw [inv_zero _ ((D_iff _).1 h), Int.mul_zero]
    decide
  · rw [← emm, (D_iff _).1 h, Int.zero_mul]
    decide

theorem ell_lad : lad (ell : Int) 9 = 0 := by decide +kernel

theorem ell_zero : smul (2 * ell) B0 = Ed.zero := by
  have h := lad_U ell (by decide) 9 B0 B0_u nD9
  rw [ell_lad] at h
  have := low_add (U_zero h.symm)
  rw [← smul_add] at this
  rwa [show 2 * ell = ell + ell by omega]

theorem two_ne : smul 2 B0 ≠ Ed.zero := fun h => by
  have e : (smul 2 B0).y = 1 := by rw [h]; rfl
  have e2 : (smul 2 B0).y = sy (sx 0 1 B0.x B0.y) (sy 0 1 B0.x B0.y) B0.x B0.y := rfl
  rw [e2] at e
  exact absurd e (by decide +kernel)

theorem smul_gcd (P : Ed) : ∀ (d e : Nat), smul d P = Ed.zero → smul e P = Ed.zero → smul (Nat.gcd d e) P = Ed.zero := by
  intro d
  induction d using Nat.strongRecOn with
  | _ d ih =>
    intro e hd he
    by_cases h0 : d = 0
    · subst h0
      rw [Nat.gcd_zero_left]
      exact he
    · rw [Nat.gcd_rec]
      refine ih (e % d) (Nat.mod_lt _ (by omega)) d ?_ hd
      have h1 : smul (d * (e / d)) P = Ed.zero := by rw [← smul_mul, hd, smul_zero]
      have e2 : smul e P = (smul (d * (e / d)) P).add (smul (e % d) P) := by rw [← smul_add, Nat.div_add_mod]
      rw [e2, h1, Ed.zero_add] at he
      exact he

/-- A multiple that the order does not divide is none of the low points. -/
theorem not_low {k : Nat} (hk : ¬ ell ∣ k) : ¬ low (smul k B0) := fun h => by
  have h1 := low_add h
  rw [← smul_add] at h1
  have h2 := smul_gcd B0 (2 * ell) (2 * k) ell_zero (by rwa [show 2 * k = k + k by omega])
  rw [Nat.gcd_mul_left, ell_pr.coprime hk] at h2
  exact two_ne h2

/-- A trimmed secret. -/
def Trimmed (K : Nat) : Prop := K % 8 = 0 ∧ 2 ^ 254 ≤ K ∧ K < 2 ^ 255

theorem trimmed_ell {K : Nat} (h : Trimmed K) : ¬ ell ∣ K := fun hd => by
  obtain ⟨h8, h1, h2⟩ := h
  have e : K = 8 * (K / 8) := by omega
  rw [e] at hd
  have p255 : (2 : Nat) ^ 255 = 57896044618658097711785492504343953926634992332820282019728792003956564819968 := by decide
  have p254 : (2 : Nat) ^ 254 = 28948022309329048855892746252171976963317496166410141009864396001978282409984 := by decide
  rcases ell_pr.dvd_mul hd with hd | hd
  · have := Nat.le_of_dvd (by decide) hd
    unfold ell at this
    omega
  · have := Nat.le_of_dvd (by omega) hd
    unfold ell at this
    omega

theorem U_rel {P : Ed} (h : ¬ low P) : D (U P * (1 - P.y) - (1 + P.y)) ∧ ¬ D (U P) := by
  have h1 : ¬ D (1 - P.y) := fun k => h (Or.inl k)
  have h2 : ¬ D (1 + P.y) := fun k => h (Or.inr k)
  have m := R_mod ((1 + P.y) * inv (1 - P.y))
  have i := D_inv h1
  have key : D (U P * (1 - P.y) - (1 + P.y)) := by
    unfold U
    refine lc2 (r := 1 - P.y) (s := 1 + P.y) m i ?_
    grind
  exact ⟨key, fun k => h2 (lc2 (r := 1 - P.y) (s := -1) k key (by grind))⟩

/-- A public key. -/
theorem lad_pub {K : Nat} (h : Trimmed K) : lad (K : Int) 9 = U (smul K B0) := lad_U K h.2.2 9 B0 B0_u nD9

theorem lad_share {K M : Nat} (hK : Trimmed K) (hM : Trimmed M) : lad (K : Int) (lad (M : Int) 9) = U (smul (M * K) B0) := by
  obtain ⟨h1, h2⟩ := U_rel (not_low (trimmed_ell hM))
  rw [lad_pub hM, lad_U K hK.2.2 _ (smul M B0) h1 h2, smul_mul]

/-- Two who take each other's public key share the same. -/
theorem lad_agrees {K M : Nat} (hK : Trimmed K) (hM : Trimmed M) : lad (K : Int) (lad (M : Int) 9) = lad (M : Int) (lad (K : Int) 9) := by
  rw [lad_share hK hM, lad_share hM hK, Nat.mul_comm]

/-- What is shared is not 0. -/
theorem lad_not_zero {K M : Nat} (hK : Trimmed K) (hM : Trimmed M) : lad (K : Int) (lad (M : Int) 9) ≠ 0 := by
  rw [lad_share hK hM]
  intro h
  refine not_low (k := M * K) (fun hd => ?_) (U_zero h)
  rcases ell_pr.dvd_mul hd with hd | hd
  · exact trimmed_ell hM hd
  · exact trimmed_ell hK hd

theorem lad_pub_not_zero {K : Nat} (hK : Trimmed K) : lad (K : Int) 9 ≠ 0 := by
  rw [lad_pub hK]
  intro h
  exact not_low (trimmed_ell hK) (U_zero h)

/-! ### What is refused -/

def Sm (e X Z : Int) : Prop := D X ∨ D Z ∨ D (X - e * Z)

theorem Sm_congr {e X Z X' Z' : Int} (hx : R X' X) (hz : R Z' Z) (h : Sm e X Z) : Sm e X' Z' := by
  rcases h with h | h | h
  · exact Or.inl (D_of_R hx h)
  · exact Or.inr (Or.inl (D_of_R hz h))
  · exact Or.inr (Or.inr (lc3 (r := 1) (s := 1) (t := -e) h hx hz (by grind)))

theorem Sm_dbl {e X Z : Int} (he : e * e = 1) (h : Sm e X Z) : D (X4 X Z) ∨ D (Z4 X Z) := by
  unfold X4 Z4
  rcases h with h | h | h
  · right
    exact lc1 (r := 4 * Z * ((X + Z) * (X + Z) + 121665 * ((X + Z) * (X + Z) - (X - Z) * (X - Z)))) h (by grind)
  · right
    exact lc1 (r := 4 * X * ((X + Z) * (X + Z) + 121665 * ((X + Z) * (X + Z) - (X - Z) * (X - Z)))) h (by grind)
  · left
    have k : D (X * X - Z * Z) := by
      have : X * X - Z * Z = (X + e * Z) * (X - e * Z) + (e * e - 1) * (Z * Z) := by grind
      rw [this, he, Int.sub_self, Int.zero_mul, Int.add_zero]
      exact Int.dvd_mul_of_dvd_right h
    exact lc1 (r := X * X - Z * Z) k (by grind)

theorem Z_dbl {X Z : Int} (h : D X ∨ D Z) : D (Z4 X Z) := by
  unfold Z4
  rcases h with h | h
  · exact lc1 (r := 4 * Z * ((X + Z) * (X + Z) + 121665 * ((X + Z) * (X + Z) - (X - Z) * (X - Z)))) h (by grind)
  · exact lc1 (r := 4 * X * ((X + Z) * (X + Z) + 121665 * ((X + Z) * (X + Z) - (X - Z) * (X - Z)))) h (by grind)

theorem Sm_sum {e u X2 Z2 X3 Z3 : Int} (he : e * e = 1) (hu : R u e) (h2 : Sm e X2 Z2) (h3 : Sm e X3 Z3) : Sm e (X5 X2 Z2 X3 Z3) (Z5 u X2 Z2 X3 Z3) := by
  have hX : X5 X2 Z2 X3 Z3 = 4 * ((X2 * X3 - Z2 * Z3) * (X2 * X3 - Z2 * Z3)) := by unfold X5; grind
  have hZ : Z5 u X2 Z2 X3 Z3 = 4 * u * ((X3 * Z2 - X2 * Z3) * (X3 * Z2 - X2 * Z3)) := by unfold Z5; grind
  rw [hX, hZ]
  have key : D ((X2 * X3 - Z2 * Z3) * (X2 * X3 - Z2 * Z3) - (X3 * Z2 - X2 * Z3) * (X3 * Z2 - X2 * Z3)) → Sm e (4 * ((X2 * X3 - Z2 * Z3) * (X2 * X3 - Z2 * Z3))) (4 * u * ((X3 * Z2 - X2 * Z3) * (X3 * Z2 - X2 * Z3))) := by
    intro k
    refine Or.inr (Or.inr ?_)
    have e1 : 4 * ((X2 * X3 - Z2 * Z3) * (X2 * X3 - Z2 * Z3)) - e * (4 * u * ((X3 * Z2 - X2 * Z3) * (X3 * Z2 - X2 * Z3))) =
        4 * ((X2 * X3 - Z2 * Z3) * (X2 * X3 - Z2 * Z3) - (X3 * Z2 - X2 * Z3) * (X3 * Z2 - X2 * Z3)) + (-4 * e * ((X3 * Z2 - X2 * Z3) * (X3 * Z2 - X2 * Z3))) * (u - e) + (4 * ((X3 * Z2 - X2 * Z3) * (X3 * Z2 - X2 * Z3))) * (1 - e * e) := by grind
    rw [e1, he, Int.sub_self, Int.mul_zero, Int.add_zero]
    exact Int.dvd_add (Int.dvd_mul_of_dvd_right k) (Int.dvd_mul_of_dvd_right hu)
  -- (X2 X3 - Z2 Z3)^2 - (X3 Z2 - X2 Z3)^2 = (X2^2 - Z2^2) (X3^2 - Z3^2)
  have fac : (X2 * X3 - Z2 * Z3) * (X2 * X3 - Z2 * Z3) - (X3 * Z2 - X2 * Z3) * (X3 * Z2 - X2 * Z3) = (X2 * X2 - Z2 * Z2) * (X3 * X3 - Z3 * Z3) := by grind
  have sq : ∀ X Z : Int, D (X - e * Z) → D (X * X - Z * Z) := fun X Z h => by
    have : X * X - Z * Z = (X + e * Z) * (X - e * Z) + (e * e - 1) * (Z * Z) := by grind
    rw [this, he, Int.sub_self, Int.zero_mul, Int.add_zero]
    exact Int.dvd_mul_of_dvd_right h
  rcases h2 with h2 | h2 | h2
  · rcases h3 with h3 | h3 | h3
    · right; left
      exact lc2 (r := -4 * u * (X3 * Z2 - X2 * Z3) * Z3) (s := 4 * u * (X3 * Z2 - X2 * Z3) * Z2) h2 h3 (by grind)
    · left
      exact lc2 (r := 4 * (X2 * X3 - Z2 * Z3) * X3) (s := -4 * (X2 * X3 - Z2 * Z3) * Z2) h2 h3 (by grind)
    · exact key (by rw [fac]; exact Int.dvd_mul_of_dvd_right (sq _ _ h3))
  · rcases h3 with h3 | h3 | h3
    · left
      exact lc2 (r := -4 * (X2 * X3 - Z2 * Z3) * Z3) (s := 4 * (X2 * X3 - Z2 * Z3) * X2) h2 h3 (by grind)
    · right; left
      exact lc2 (r := 4 * u * (X3 * Z2 - X2 * Z3) * X3) (s := -4 * u * (X3 * Z2 - X2 * Z3) * X2) h2 h3 (by grind)
    · exact key (by rw [fac]; exact Int.dvd_mul_of_dvd_right (sq _ _ h3))
  · exact key (by rw [fac]; exact Int.dvd_mul_of_dvd_left (sq _ _ h2))

theorem Sm_go {e : Int} (k u : Int) (he : e * e = 1) (hu : R u e) : ∀ n, Sm e (ladGo k u n).x2 (ladGo k u n).z2 ∧ Sm e (ladGo k u n).x3 (ladGo k u n).z3
  | 0 => ⟨Or.inr (Or.inl D_0), Or.inr (Or.inr (by
      show D (u - e * 1)
      rw [Int.mul_one]
      exact hu))⟩
  | n + 1 => by
    obtain ⟨h2, h3⟩ := Sm_go k u he hu n
    have ego : ladGo k u (n + 1) = swapL (k / 2 ^ (254 - n) % 2) (stepL u (swapL (k / 2 ^ (254 - n) % 2) (ladGo k u n))) := rfl
    rw [ego]
    generalize ladGo k u n = s at *
    generalize k / 2 ^ (254 - n) % 2 = b
    have st : ∀ s : L4, Sm e s.x2 s.z2 → Sm e s.x3 s.z3 → Sm e (stepL u s).x2 (stepL u s).z2 ∧ Sm e (stepL u s).x3 (stepL u s).z3 := fun s h2 h3 => by
      obtain ⟨t1, t2, t3, t4⟩ := stepL_R u s
      refine ⟨Sm_congr t1 t2 ?_, Sm_congr t3 t4 (Sm_sum he hu h2 h3)⟩
      rcases Sm_dbl he h2 with h | h
      · exact Or.inl h
      · exact Or.inr (Or.inl h)
    unfold swapL
    split
    · exact st s h2 h3
    · obtain ⟨a, b⟩ := st ⟨s.x3, s.z3, s.x2, s.z2⟩ h3 h2
      exact ⟨b, a⟩

/-- The last two rounds double, if the lowest bits are not set. -/
theorem lad_small {e : Int} (k u : Int) (he : e * e = 1) (hu : R u e) (hk : k % 8 = 0) : lad k u = 0 := by
  have h := (Sm_go k u he hu 253).1
  have b0 : k / 2 ^ (254 - 253) % 2 = 0 := by
    have : (2 : Int) ^ (254 - 253) = 2 := by decide
    rw [this]; omega
  have b1 : k / 2 ^ (254 - 254) % 2 = 0 := by
    have : (2 : Int) ^ (254 - 254) = 1 := by decide
    rw [this]; omega
  have e1 : ladGo k u 254 = swapL (k / 2 ^ (254 - 253) % 2) (stepL u (swapL (k / 2 ^ (254 - 253) % 2) (ladGo k u 253))) := rfl
  have e2 : ladGo k u 255 = swapL (k / 2 ^ (254 - 254) % 2) (stepL u (swapL (k / 2 ^ (254 - 254) % 2) (ladGo k u 254))) := rfl
  have e0 : ∀ s : L4, swapL 0 s = s := fun _ => if_pos (by decide)
  rw [b0, e0, e0] at e1
  rw [b1, e0, e0] at e2
  obtain ⟨t1, t2, -, -⟩ := stepL_R u (ladGo k u 253)
  obtain ⟨-, t3, -, -⟩ := stepL_R u (ladGo k u 254)
  rw [← e1] at t1 t2
  rw [← e2] at t3
  have hz : D (ladGo k u 255).z2 := by
    refine D_of_R t3 (Z_dbl ?_)
    rcases Sm_dbl he h with h | h
    · exact Or.inl (D_of_R t1 h)
    · exact Or.inr (D_of_R t2 h)
  unfold lad
  rw [inv_zero _ ((D_iff _).1 hz), Int.mul_zero]
  decide

/-- The point 0. -/
theorem lad_null (k u : Int) (hu : D u) : lad k u = 0 := by
  have key : ∀ n, D (ladGo k u n).z2 ∧ D ((ladGo k u n).x3 * (ladGo k u n).z3) ∨ D (ladGo k u n).z2 ∧ D (ladGo k u n).z3 := by
    intro n
    induction n with
    | zero => exact Or.inl ⟨D_0, by show D (u * 1); rw [Int.mul_one]; exact hu⟩
    | succ n ih =>
      right
      have ego : ladGo k u (n + 1) = swapL (k / 2 ^ (254 - n) % 2) (stepL u (swapL (k / 2 ^ (254 - n) % 2) (ladGo k u n))) := rfl
      rw [ego]
      generalize ladGo k u n = s at *
      generalize k / 2 ^ (254 - n) % 2 = b
      have h3 : D s.x3 ∨ D s.z3 := by
        rcases ih with ⟨-, h⟩ | ⟨-, h⟩
        · exact D_mul h
        · exact Or.inr h
      have h2 : D s.x2 ∨ D s.z2 := by
        rcases ih with ⟨h, -⟩ | ⟨h, -⟩ <;> exact Or.inr h
      have st : ∀ s : L4, (D s.x2 ∨ D s.z2) → D (stepL u s).z2 ∧ D (stepL u s).z3 := fun s h => by
        obtain ⟨-, t2, -, t4⟩ := stepL_R u s
        refine ⟨D_of_R t2 (Z_dbl h), D_of_R t4 ?_⟩
        unfold Z5
        exact Int.dvd_mul_of_dvd_left hu
      unfold swapL
      split
      · exact st s h2
      · obtain ⟨a, b⟩ := st ⟨s.x3, s.z3, s.x2, s.z2⟩ h3
        exact ⟨b, a⟩
  have hz : D (ladGo k u 255).z2 := by
    rcases key 255 with ⟨h, -⟩ | ⟨h, -⟩ <;> exact h
  unfold lad
  rw [inv_zero _ ((D_iff _).1 hz), Int.mul_zero]
  decide

/-- Only what a point's number is modulo p is seen. -/
theorem lad_congr (k : Int) {u v : Int} (h : R u v) : lad k u = lad k v := by
  have st : ∀ s t : L4, R s.x2 t.x2 → R s.z2 t.z2 → R s.x3 t.x3 → R s.z3 t.z3 → R (stepL u s).x2 (stepL v t).x2 ∧ R (stepL u s).z2 (stepL v t).z2 ∧ R (stepL u s).x3 (stepL v t).x3 ∧ R (stepL u s).z3 (stepL v t).z3 := by
    intro s t h1 h2 h3 h4
    obtain ⟨a1, a2, a3, a4⟩ := stepL_R u s
    obtain ⟨b1, b2, b3, b4⟩ := stepL_R v t
    have A := R_add h1 h2
    have B := R_sub h1 h2
    have C := R_add h3 h4
    have E := R_sub h3 h4
    have AA := R_mul A A
    have BB := R_mul B B
    have EE := R_sub AA BB
    have S := R_add (R_mul E A) (R_mul C B)
    have M := R_sub (R_mul E A) (R_mul C B)
    exact ⟨R_trans a1 (R_trans (R_mul AA BB) (R_symm b1)), R_trans a2 (R_trans (R_mul EE (R_add AA (R_mul (R_refl 121665) EE))) (R_symm b2)), R_trans a3 (R_trans (R_mul S S) (R_symm b3)), R_trans a4 (R_trans (R_mul h (R_mul M M)) (R_symm b4))⟩
  have key : ∀ n, R (ladGo k u n).x2 (ladGo k v n).x2 ∧ R (ladGo k u n).z2 (ladGo k v n).z2 ∧ R (ladGo k u n).x3 (ladGo k v n).x3 ∧ R (ladGo k u n).z3 (ladGo k v n).z3 := by
    intro n
    induction n with
    | zero => exact ⟨R_refl 1, R_refl 0, h, R_refl 1⟩
    | succ n ih =>
      have eu : ladGo k u (n + 1) = swapL (k / 2 ^ (254 - n) % 2) (stepL u (swapL (k / 2 ^ (254 - n) % 2) (ladGo k u n))) := rfl
      have ev : ladGo k v (n + 1) = swapL (k / 2 ^ (254 - n) % 2) (stepL v (swapL (k / 2 ^ (254 - n) % 2) (ladGo k v n))) := rfl
      rw [eu, ev]
      generalize ladGo k u n = s at *
      generalize ladGo k v n = t at *
      generalize k / 2 ^ (254 - n) % 2 = b
      obtain ⟨h1, h2, h3, h4⟩ := ih
      unfold swapL
      split
      · exact st s t h1 h2 h3 h4
      · obtain ⟨c1, c2, c3, c4⟩ := st ⟨s.x3, s.z3, s.x2, s.z2⟩ ⟨t.x3, t.z3, t.x2, t.z2⟩ h3 h4 h1 h2
        exact ⟨c3, c4, c1, c2⟩
  obtain ⟨h1, h2, -, -⟩ := key 255
  unfold lad
  have e : inv (ladGo k u 255).z2 = inv (ladGo k v 255).z2 := by
    rw [← inv_congr (ladGo k u 255).z2, emod_of_R h2, inv_congr]
  rw [e]
  exact emod_of_R (R_mul h1 (R_refl _))

end Go.Proofs.YtechbdggjfahhaaDoor.Sx
