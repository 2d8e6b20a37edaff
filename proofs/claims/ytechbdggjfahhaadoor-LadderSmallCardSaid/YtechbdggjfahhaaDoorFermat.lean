/-
  Numbers that are prime by Lucas' test, and what Fermat says of them. Plain numbers, no program in sight.
-/
namespace Go.Proofs.YtechbdggjfahhaaDoor.Sx

def Pr (n : Nat) : Prop := 2 ≤ n ∧ ∀ d, d ∣ n → d = 1 ∨ d = n

/-- Each number below n but 0 has 1 as its (n - 1)-th power. -/
def Full (n : Nat) : Prop := 2 ≤ n ∧ ∀ x, 0 < x → x < n → x ^ (n - 1) % n = 1

/-! ### Powers by squares -/

def pmGo (n : Nat) : Nat → Nat → Nat → Nat
  | 0, _, _ => 1 % n
  | f + 1, a, e => if e = 0 then 1 % n else if e % 2 = 1 then a * pmGo n f (a * a % n) (e / 2) % n else pmGo n f (a * a % n) (e / 2)

def pm (a e n : Nat) : Nat := pmGo n 300 (a % n) e

theorem pmGo_eq (n : Nat) : ∀ (f a e : Nat), e < 2 ^ f → pmGo n f a e = a ^ e % n
  | 0, a, e, h => by
    have : e = 0 := by simpa using h
    subst this
    simp [pmGo]
  | f + 1, a, e, h => by
    unfold pmGo
    by_cases he : e = 0
    · rw [if_pos he, he, Nat.pow_zero]
    · rw [if_neg he]
      have hf : e / 2 < 2 ^ f := by rw [Nat.pow_succ] at h; omega
      have ih := pmGo_eq n f (a * a % n) (e / 2) hf
      have e1 : (a * a % n) ^ (e / 2) % n = (a * a) ^ (e / 2) % n := by rw [← Nat.pow_mod]
      rw [ih, e1]
      have e2 : (a * a) ^ (e / 2) = a ^ (2 * (e / 2)) := by rw [Nat.pow_mul, Nat.pow_two]
      rw [e2]
      by_cases h2 : e % 2 = 1
      · rw [if_pos h2, Nat.mul_mod, Nat.mod_mod, ← Nat.mul_mod]
        have : e = 2 * (e / 2) + 1 := by omega
        conv => rhs; rw [this, Nat.pow_succ, Nat.mul_comm]
      · rw [if_neg h2]
        congr 2
        omega

theorem pm_eq (a e n : Nat) (h : e < 2 ^ 300) : pm a e n = a ^ e % n := by
  unfold pm
  rw [pmGo_eq n 300 _ e h, ← Nat.pow_mod]

/-! ### As many things as places -/

theorem pigeon : ∀ (m : Nat) (f : Nat → Nat), (∀ i, i ≤ m → f i < m) → ∃ i j, i < j ∧ j ≤ m ∧ f i = f j
  | 0, f, h => absurd (h 0 (Nat.le_refl _)) (by omega)
  | m + 1, f, h => by
    by_cases hex : ∃ i, i ≤ m ∧ f i = f (m + 1)
    · obtain ⟨i, hi, he⟩ := hex
      exact ⟨i, m + 1, by omega, Nat.le_refl _, he⟩
    · -- the last thing's place is empty: what lies in the last place goes there
      have hne : ∀ i, i ≤ m → f i ≠ f (m + 1) := fun i hi e => hex ⟨i, hi, e⟩
      obtain ⟨i, j, h1, h2, h3⟩ := pigeon m (fun i => if f i = m then f (m + 1) else f i) (fun i hi => by
        have a := h i (by omega)
        have b := h (m + 1) (Nat.le_refl _)
        have c := hne i hi
        split <;> omega)
      refine ⟨i, j, h1, by omega, ?_⟩
      have c1 := hne i (by omega)
      have c2 := hne j (by omega)
      split at h3 <;> split at h3 <;> omega

/-- A row of m places each of which is less than m, no two the same: each is there. -/
theorem onto (m : Nat) (f : Nat → Nat) (h : ∀ i, i < m → f i < m) (hinj : ∀ i j, i < j → j < m → f i ≠ f j) (y : Nat) (hy : y < m) : ∃ i, i < m ∧ f i = y := by
  by_cases hex : ∃ i, i < m ∧ f i = y
  · exact hex
  · exfalso
    obtain ⟨i, j, h1, h2, h3⟩ := pigeon m (fun i => if i < m then f i else y) (fun i hi => by
      split
      · rename_i hlt; exact h i hlt
      · exact hy)
    by_cases hj : j < m
    · rw [if_pos (by omega), if_pos hj] at h3
      exact hinj i j h1 hj h3
    · rw [if_pos (by omega), if_neg hj] at h3
      exact hex ⟨i, by omega, h3⟩

/-! ### Orders -/

theorem pow_gcd (a n : Nat) (hn : 2 ≤ n) : ∀ (d e : Nat), a ^ d % n = 1 → a ^ e % n = 1 → a ^ Nat.gcd d e % n = 1 := by
  have one : 1 % n = 1 := Nat.mod_eq_of_lt (by omega)
  have mul1 : ∀ q d, a ^ d % n = 1 → a ^ (d * q) % n = 1 := fun q d h => by
    rw [Nat.pow_mul, Nat.pow_mod, h, Nat.one_pow, one]
  intro d
  induction d using Nat.strongRecOn with
  | _ d ih =>
    intro e hd he
    by_cases h0 : d = 0
    · subst h0
      rw [Nat.gcd_zero_left]
      exact he
    · rw [Nat.gcd_rec]
      refine ih (e % d) (Nat.mod_lt _ (by omega)) d ?_ hd
      have := mul1 (e / d) d hd
      have e2 : a ^ e = a ^ (d * (e / d)) * a ^ (e % d) := by rw [← Nat.pow_add, Nat.div_add_mod]
      rw [e2, Nat.mul_mod, this, Nat.one_mul, Nat.mod_mod] at he
      exact he

def prodL : List Nat → Nat
  | [] => 1
  | x :: l => x * prodL l

theorem Pr.coprime {r x : Nat} (hr : Pr r) (h : ¬ r ∣ x) : Nat.gcd r x = 1 := by
  rcases hr.2 _ (Nat.gcd_dvd_left r x) with e | e
  · exact e
  · exact absurd (e ▸ Nat.gcd_dvd_right r x) h

theorem Pr.dvd_mul {r x y : Nat} (hr : Pr r) (h : r ∣ x * y) : r ∣ x ∨ r ∣ y := by
  by_cases hx : r ∣ x
  · exact Or.inl hx
  · exact Or.inr (Nat.Coprime.dvd_of_dvd_mul_left (hr.coprime hx) h)

theorem Pr.mem_prod {r : Nat} (hr : Pr r) : ∀ l : List Nat, (∀ q ∈ l, Pr q) → r ∣ prodL l → r ∈ l
  | [], _, h => by
    have := Nat.le_of_dvd (by decide) h
    have := hr.1
    simp [prodL] at *
    omega
  | q :: l, hl, h => by
    rcases hr.dvd_mul h with h1 | h1
    · rcases (hl q (by simp)).2 r h1 with e | e
      · have := hr.1; omega
      · simp [e]
    · simp [Pr.mem_prod hr l (fun q hq => hl q (by simp [hq])) h1]

theorem prime_factor : ∀ n : Nat, 2 ≤ n → ∃ r, Pr r ∧ r ∣ n := by
  intro n
  induction n using Nat.strongRecOn with
  | _ n ih =>
    intro hn
    by_cases h : Pr n
    · exact ⟨n, h, Nat.dvd_refl _⟩
    · have : ∃ d, d ∣ n ∧ d ≠ 1 ∧ d ≠ n := by
        apply Classical.byContradiction
        intro hno
        refine h ⟨hn, fun d hd => ?_⟩
        apply Classical.byContradiction
        intro hne
        exact hno ⟨d, hd, fun e => hne (Or.inl e), fun e => hne (Or.inr e)⟩
      obtain ⟨d, hd, h1, h2⟩ := this
      have hle := Nat.le_of_dvd (by omega) hd
      have h0 : d ≠ 0 := fun e => by
        subst e
        have := Nat.eq_zero_of_zero_dvd hd
        omega
      obtain ⟨r, hr, hrd⟩ := ih d (by omega) (by omega)
      exact ⟨r, hr, Nat.dvd_trans hrd hd⟩

theorem Full.pr {n : Nat} (h : Full n) : Pr n := by
  refine ⟨h.1, fun d hd => ?_⟩
  have hle := Nat.le_of_dvd (by have := h.1; omega) hd
  by_cases hdn : d = n
  · exact Or.inr hdn
  · left
    have h0 : d ≠ 0 := fun e => by
      subst e
      have := Nat.eq_zero_of_zero_dvd hd
      have := h.1
      omega
    have hx := h.2 d (by omega) (by omega)
    obtain ⟨k, rfl⟩ := hd
    have h1 : d ∣ d ^ (d * k - 1) := by
      have : d * k - 1 = (d * k - 2) + 1 := by have := h.1; omega
      rw [this, Nat.pow_succ]
      exact Nat.dvd_mul_left _ _
    have h2 : d ∣ d ^ (d * k - 1) % (d * k) := (Nat.dvd_mod_iff (Nat.dvd_mul_right d k)).2 h1
    rw [hx] at h2
    exact Nat.eq_one_of_dvd_one h2

theorem lucas (n a : Nat) (l : List Nat) (hn : 2 ≤ n) (hl : ∀ q ∈ l, Pr q) (hp : prodL l = n - 1) (h1 : a ^ (n - 1) % n = 1) (hq : ∀ q ∈ l, a ^ ((n - 1) / q) % n ≠ 1) : Full n := by
  have one : 1 % n = 1 := Nat.mod_eq_of_lt (by omega)
  -- no smaller power is 1
  have ord : ∀ d, 0 < d → d < n - 1 → a ^ d % n ≠ 1 := by
    intro d h0 hd he
    have hg := pow_gcd a n hn d (n - 1) he h1
    have hgd := Nat.gcd_dvd_left d (n - 1)
    have hgN := Nat.gcd_dvd_right d (n - 1)
    have hgle := Nat.le_of_dvd h0 hgd
    generalize Nat.gcd d (n - 1) = g at *
    obtain ⟨k, hk⟩ := hgN
    have hk2 : 2 ≤ k := by
      rcases k with _ | _ | k
      · simp at hk; omega
      · simp at hk; omega
      · omega
    obtain ⟨r, hr, m, rfl⟩ := prime_factor k hk2
    have hmem := hr.mem_prod l hl (by rw [hp, hk]; exact ⟨g * m, by rw [← Nat.mul_assoc, Nat.mul_comm g r, Nat.mul_assoc]⟩)
    refine hq r hmem ?_
    have hr0 : 0 < r := by have := hr.1; omega
    have e : (n - 1) / r = g * m := by
      rw [hk, show g * (r * m) = r * (g * m) by rw [← Nat.mul_assoc, Nat.mul_comm g r, Nat.mul_assoc], Nat.mul_div_cancel_left _ hr0]
    rw [e, Nat.pow_mul, Nat.pow_mod, hg, Nat.one_pow, one]
  have nz : ∀ i, i < n - 1 → a ^ i % n ≠ 0 := by
    intro i hi e
    have : a ^ (n - 1) = a ^ i * a ^ (n - 1 - i) := by rw [← Nat.pow_add]; congr 1; omega
    rw [this, Nat.mul_mod, e, Nat.zero_mul, Nat.zero_mod] at h1
    omega
  have inj : ∀ i j, i < j → j < n - 1 → a ^ i % n ≠ a ^ j % n := by
    intro i j hij hj e
    refine ord (j - i) (by omega) (by omega) ?_
    have e1 : a ^ j = a ^ i * a ^ (j - i) := by rw [← Nat.pow_add]; congr 1; omega
    have e2 : a ^ (n - 1) = a ^ (n - 1 - i) * a ^ i := by rw [← Nat.pow_add]; congr 1; omega
    have e3 : a ^ (n - 1) * a ^ (j - i) = a ^ (n - 1 - i) * a ^ j := by rw [e2, e1, Nat.mul_assoc]
    have e4 : (a ^ (n - 1) * a ^ (j - i)) % n = a ^ (n - 1) % n := by
      rw [e3, e2, Nat.mul_mod, ← e, ← Nat.mul_mod]
    rw [Nat.mul_mod, h1, Nat.one_mul, Nat.mod_mod] at e4
    exact e4
  refine ⟨hn, fun x hx0 hxn => ?_⟩
  obtain ⟨i, hi, he⟩ := onto (n - 1) (fun i => a ^ i % n - 1) (fun i hi => by
    have := nz i hi
    have := Nat.mod_lt (a ^ i) (show n > 0 by omega)
    omega) (fun i j hij hj e => inj i j hij hj (by
      have := nz i (by omega)
      have := nz j hj
      omega)) (x - 1) (by omega)
  have := nz i hi
  have hx : x = a ^ i % n := by omega
  rw [hx, ← Nat.pow_mod, ← Nat.pow_mul, Nat.mul_comm, Nat.pow_mul, Nat.pow_mod, h1, Nat.one_pow, one]

/-- The test, to be reckoned. -/
def test (n a : Nat) (l : List Nat) : Bool := Nat.ble 2 n && Nat.blt n (2 ^ 300) && Nat.beq (prodL l) (n - 1) && Nat.beq (pm a (n - 1) n) 1 && l.all (fun q => !(Nat.beq (pm a ((n - 1) / q) n) 1))

theorem full_of_test {n a : Nat} {l : List Nat} (hl : ∀ q ∈ l, Pr q) (h : test n a l = true) : Full n := by
  simp only [test, Bool.and_eq_true, List.all_eq_true, Bool.not_eq_true'] at h
  obtain ⟨⟨⟨⟨h1, h2⟩, h3⟩, h4⟩, h5⟩ := h
  have h2' : n < 2 ^ 300 := Nat.lt_of_succ_le (Nat.le_of_ble_eq_true h2)
  refine lucas n a l (Nat.le_of_ble_eq_true h1) hl (Nat.eq_of_beq_eq_true h3) ?_ (fun q hq => ?_)
  · rw [← pm_eq a _ n (by omega)]
    exact Nat.eq_of_beq_eq_true h4
  · have := h5 q hq
    rw [pm_eq a _ n (Nat.lt_of_le_of_lt (Nat.div_le_self _ _) (by omega))] at this
    intro e
    rw [e] at this
    cases this

/-- By looking for divisors up to the root. -/
def small (n k : Nat) : Bool := Nat.ble 2 n && Nat.blt n (k * k) && (List.range k).all (fun d => Nat.ble d 1 || Nat.beq d n || !(Nat.beq (n % d) 0))

theorem pr_of_small {n k : Nat} (h : small n k = true) : Pr n := by
  simp only [small, Bool.and_eq_true, List.all_eq_true, Bool.or_eq_true, Bool.not_eq_true', List.mem_range] at h
  obtain ⟨⟨h1, h2⟩, h3⟩ := h
  have h1' := Nat.le_of_ble_eq_true h1
  have h2' : n < k * k := Nat.lt_of_succ_le (Nat.le_of_ble_eq_true h2)
  refine ⟨h1', fun d hd => ?_⟩
  have key : ∀ d, d ∣ n → d < k → d = 1 ∨ d = n := fun d hd hk => by
    have h0 : d ≠ 0 := fun e => by
      subst e
      have := Nat.eq_zero_of_zero_dvd hd
      omega
    rcases h3 d hk with (h | h) | h
    · have := Nat.le_of_ble_eq_true h
      left; omega
    · exact Or.inr (Nat.eq_of_beq_eq_true h)
    · rw [Nat.mod_eq_zero_of_dvd hd] at h
      cases h
  rcases Nat.lt_or_ge d k with hk | hk
  · exact key d hd hk
  · obtain ⟨e, he⟩ := hd
    have hek : e < k := by
      rcases Nat.lt_or_ge e k with h | h
      · exact h
      · have := Nat.mul_le_mul hk h
        omega
    rcases key e ⟨d, by rw [he, Nat.mul_comm]⟩ hek with h | h
    · right; rw [he, h, Nat.mul_one]
    · left
      have h0 : e ≠ 0 := by omega
      have : d * e = 1 * e := by rw [← he, h, Nat.one_mul]
      exact Nat.eq_of_mul_eq_mul_right (by omega) this

end Go.Proofs.YtechbdggjfahhaaDoor.Sx
