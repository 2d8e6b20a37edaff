/-
  The document's Canon, Add, Mul, Low: their contracts.
-/
import Derived.Test.YtbdmahidobjaoaaDoorClampRef3
namespace Go.Proofs.YtbdmahidobjaoaaDoor.Sx
open Go
set_option maxRecDepth 100000

section
variable {C : Ctx}

/-- As fnOk_F1, fnOk_F2, where the run takes something for granted. -/
theorem fnOk_F1o (hC : C.Ok) {f : FuncId} {fn : Func} {c : Code} {k k' : IntKind} {n : Nat} {g : List Int → List Int} (hf : C.P.funcs[f]? = some fn) (hname : (fn.name == "runtime.NumGoroutine") = false) (hb : fn.body = some c) (ht : Nat.ble 1 fn.ntmps = true)
    (h : ∀ l : List Int, l.length = n → (∀ x ∈ l, wf k x) → ∃ fuel v ob, plainRun C fn fuel [.agg k l] = some (.agg k' v, ob) ∧ v = g l ∧ Holds ob) : FnOk C.P C.gl f (F1 k k' n g) := by
  refine fnOk_plain hC hf hname hb (fun args mem r hr _ => ?_)
  unfold F1 at hr
  split at hr
  · rename_i k0 l
    split at hr
    · rename_i hc
      simp only [Bool.and_eq_true] at hc
      have e1 := of_decide_eq_true hc.1
      have e2 := Nat.eq_of_beq_eq_true hc.2
      subst e1
      simp only [Option.some.injEq] at hr
      subst hr
      refine ⟨rfl, rfl, rfl, beq_le ht, fun hw => ?_⟩
      obtain ⟨fuel, v, ob, hrun, hv, hob⟩ := h l e2 (hw (.agg k0 l) (by simp))
      exact ⟨fuel, ob, by rw [hrun, hv], hob⟩
    · cases hr
  · cases hr

theorem fnOk_F2o (hC : C.Ok) {f : FuncId} {fn : Func} {c : Code} {k k1 k' : IntKind} {n n1 : Nat} {g : List Int → List Int → List Int} (hf : C.P.funcs[f]? = some fn) (hname : (fn.name == "runtime.NumGoroutine") = false) (hb : fn.body = some c) (ht : Nat.ble 2 fn.ntmps = true)
    (h : ∀ l m : List Int, l.length = n → m.length = n1 → (∀ x ∈ l, wf k x) → (∀ x ∈ m, wf k1 x) → ∃ fuel v ob, plainRun C fn fuel [.agg k l, .agg k1 m] = some (.agg k' v, ob) ∧ v = g l m ∧ Holds ob) : FnOk C.P C.gl f (F2 k k1 k' n n1 g) := by
  refine fnOk_plain hC hf hname hb (fun args mem r hr _ => ?_)
  unfold F2 at hr
  split at hr
  · rename_i k0 l k2 m
    split at hr
    · rename_i hc
      simp only [Bool.and_eq_true] at hc
      have e0 := of_decide_eq_true hc.1.1.1
      have e1 := of_decide_eq_true hc.1.1.2
      have e2 := Nat.eq_of_beq_eq_true hc.1.2
      have e3 := Nat.eq_of_beq_eq_true hc.2
      subst e0; subst e1
      simp only [Option.some.injEq] at hr
      subst hr
      refine ⟨rfl, rfl, rfl, beq_le ht, fun hw => ?_⟩
      obtain ⟨fuel, v, ob, hrun, hv, hob⟩ := h l m e2 e3 (hw (.agg k0 l) (by simp)) (hw (.agg k2 m) (by simp))
      exact ⟨fuel, ob, by rw [hrun, hv], hob⟩
    · cases hr
  · cases hr
end

noncomputable abbrev refF : List (FuncId × (List A → List Blk → Option Res)) := [(42, fDigits), (41, fReduce)]
theorem refF_ok : ∀ p ∈ refF, FnOk Tryd.prog gl p.1 p.2 := by
  intro p hp
  simp only [refF, List.mem_cons, List.not_mem_nil, or_false] at hp
  rcases hp with rfl | rfl
  · exact digits_ok
  · exact reduce_ok

abbrev small (x : Int) : Prop := 0 ≤ x ∧ x < 36028797018963968

theorem holds_map {p : Int → Prop} {l : List Int} (h : ∀ x ∈ l, p x) : Holds (l.map p) := fun q hq => by
  obtain ⟨x, hx, rfl⟩ := List.mem_map.1 hq
  exact h x hx

theorem digs26 (n : Int) (h0 : 0 ≤ n) (h1 : n < 87112285931760246646623899502532662132736) : dnum 26 (digsOf 26 6 n) = n := by
  rw [dnum_digsOf, show (2 : Int) ^ (26 * 6) = 91343852333181432387730302044767688728495783936 by decide]
  exact Int.emod_eq_of_lt h0 (by omega)

theorem dig26 (n : Int) (j : Nat) : 0 ≤ dig 26 n j ∧ dig 26 n j < 67108864 := by
  have := dig_range 26 n j
  rw [p26] at this
  exact this

theorem digs6 (n : Int) : digsOf 26 6 n = [dig 26 n 0, dig 26 n 1, dig 26 n 2, dig 26 n 3, dig 26 n 4, dig 26 n 5] := rfl

theorem digs6_range (n : Int) : ∀ x ∈ digsOf 26 6 n, 0 ≤ x ∧ x < 67108864 := by
  intro x hx
  rw [digs6] at hx
  simp only [List.mem_cons, List.not_mem_nil, or_false] at hx
  rcases hx with rfl | rfl | rfl | rfl | rfl | rfl <;> exact dig26 n _

/-! ### Canon -/

theorem canonRef_run (l : List Int) (h : l.length = 17) : plainRun (mk refF) Tryd.f25 300 [.agg .u8 l] = some (.agg .u8 (bytesOf 17 (dnum 26 (digsOf 26 6 (num l)) % q130)), (digsOf 26 6 (num l)).map small) := by
  obtain ⟨a0, a1, a2, a3, a4, a5, a6, a7, a8, a9, a10, a11, a12, a13, a14, a15, a16, rfl⟩ := list17 h
  kernel_rfl

theorem canonRef_ok : FnOk Tryd.prog gl 25 fCanon :=
  fnOk_F1o (C := mk refF) (mk_ok refF_ok) Tryd.func25 (by kernel_rfl) rfl (by kernel_rfl) (fun l hl hw => by
    have hr := num17_range hl hw
    exact ⟨300, _, _, canonRef_run l hl, by rw [digs26 _ hr.1 hr.2], holds_map (fun x hx => by have := digs6_range _ x hx; exact ⟨this.1, by omega⟩)⟩)

/-! ### Add -/

def addDR : List Int → List Int → List Int
  | x :: xs, y :: ys => WI (x + y) :: addDR xs ys
  | _, _ => []

theorem addRef_run (l m : List Int) (h : l.length = 17) (h' : m.length = 17) : plainRun (mk refF) Tryd.f31 300 [.agg .u8 l, .agg .u8 m] =
    some (.agg .u8 (bytesOf 17 (dnum 26 (addDR (digsOf 26 6 (num l)) (digsOf 26 6 (num m))) % q130)), (addDR (digsOf 26 6 (num l)) (digsOf 26 6 (num m))).map small) := by
  obtain ⟨a0, a1, a2, a3, a4, a5, a6, a7, a8, a9, a10, a11, a12, a13, a14, a15, a16, rfl⟩ := list17 h
  obtain ⟨b0, b1, b2, b3, b4, b5, b6, b7, b8, b9, b10, b11, b12, b13, b14, b15, b16, rfl⟩ := list17 h'
  kernel_rfl

theorem addDR_eq : ∀ xs ys : List Int, xs.length = ys.length → (∀ x ∈ xs, 0 ≤ x ∧ x < 67108864) → (∀ x ∈ ys, 0 ≤ x ∧ x < 67108864) → dnum 26 (addDR xs ys) = dnum 26 xs + dnum 26 ys ∧ ∀ x ∈ addDR xs ys, small x
  | [], [], _, _, _ => ⟨rfl, fun x hx => by simp [addDR] at hx⟩
  | [], y :: ys, h, _, _ => by simp at h
  | x :: xs, [], h, _, _ => by simp at h
  | x :: xs, y :: ys, h, hx, hy => by
    obtain ⟨x0, x1⟩ := hx x (by simp)
    obtain ⟨y0, y1⟩ := hy y (by simp)
    obtain ⟨i1, i2⟩ := addDR_eq xs ys (by simpa using h) (fun z hz => hx z (by simp [hz])) (fun z hz => hy z (by simp [hz]))
    have e : WI (x + y) = x + y := i64w _ (by omega) (by omega)
    refine ⟨?_, fun z hz => ?_⟩
    · simp only [addDR, dnum]
      rw [i1, e, Int.mul_add]
      omega
    · simp only [addDR, List.mem_cons] at hz
      rcases hz with rfl | hz
      · rw [e]; exact ⟨by omega, by omega⟩
      · exact i2 z hz

theorem addRef_ok : FnOk Tryd.prog gl 31 fAdd :=
  fnOk_F2o (C := mk refF) (mk_ok refF_ok) Tryd.func31 (by kernel_rfl) rfl (by kernel_rfl) (fun l m hl hm hw hw' => by
    have hr := num17_range hl hw
    have hr' := num17_range hm hw'
    obtain ⟨e1, e2⟩ := addDR_eq (digsOf 26 6 (num l)) (digsOf 26 6 (num m)) rfl (digs6_range _) (digs6_range _)
    exact ⟨300, _, _, addRef_run l m hl hm, by rw [e1, digs26 _ hr.1 hr.2, digs26 _ hr'.1 hr'.2], holds_map e2⟩)

/-! ### Mul -/

def mulStep (t u o : List Int) (n : Nat) : List Int :=
  o.set (n / 6 + n % 6) (WI (o.getD (n / 6 + n % 6) 0 + WI (t.getD (n / 6) 0 * u.getD (n % 6) 0)))

def mulGo (t u : List Int) : Nat → List Int
  | 0 => List.replicate 11 0
  | n + 1 => mulStep t u (mulGo t u n) n

theorem mulRef_run (l m : List Int) (h : l.length = 17) (h' : m.length = 17) : plainRun (mk refF) Tryd.f27 1000 [.agg .u8 l, .agg .u8 m] =
    some (.agg .u8 (bytesOf 17 (dnum 26 (mulGo (digsOf 26 6 (num l)) (digsOf 26 6 (num m)) 36) % q130)), (mulGo (digsOf 26 6 (num l)) (digsOf 26 6 (num m)) 36).map small) := by
  obtain ⟨a0, a1, a2, a3, a4, a5, a6, a7, a8, a9, a10, a11, a12, a13, a14, a15, a16, rfl⟩ := list17 h
  obtain ⟨b0, b1, b2, b3, b4, b5, b6, b7, b8, b9, b10, b11, b12, b13, b14, b15, b16, rfl⟩ := list17 h'
  kernel_rfl

def sumW : Int → List Int → Int
  | a, [] => a
  | a, p :: ps => sumW (WI (a + WI p)) ps

def sumI : Int → List Int → Int
  | a, [] => a
  | a, p :: ps => sumI (a + p) ps

theorem sumW_eq : ∀ (ps : List Int) (a : Int), (∀ p ∈ ps, 0 ≤ p ∧ p < 4503599627370496) → 0 ≤ a → a + 4503599627370496 * ps.length < 36028797018963968 → sumW a ps = sumI a ps ∧ 0 ≤ sumI a ps ∧ sumI a ps < 36028797018963968
  | [], a, _, h0, h1 => by
    simp at h1
    exact ⟨rfl, h0, h1⟩
  | p :: ps, a, h, h0, h1 => by
    obtain ⟨p0, p1⟩ := h p (by simp)
    simp only [List.length_cons] at h1
    have e : WI (a + WI p) = a + p := by
      simp only [WI]
      rw [i64w p (by omega) (by omega), i64w (a + p) (by omega) (by omega)]
    simp only [sumW, sumI]
    rw [e]
    exact sumW_eq ps (a + p) (fun q hq => h q (by simp [hq])) (by omega) (by omega)

theorem mulGo_sum (t0 t1 t2 t3 t4 t5 u0 u1 u2 u3 u4 u5 : Int) : mulGo [t0, t1, t2, t3, t4, t5] [u0, u1, u2, u3, u4, u5] 36 = [sumW 0 [t0 * u0], sumW 0 [t0 * u1, t1 * u0], sumW 0 [t0 * u2, t1 * u1, t2 * u0], sumW 0 [t0 * u3, t1 * u2, t2 * u1, t3 * u0], sumW 0 [t0 * u4, t1 * u3, t2 * u2, t3 * u1, t4 * u0], sumW 0 [t0 * u5, t1 * u4, t2 * u3, t3 * u2, t4 * u1, t5 * u0], sumW 0 [t1 * u5, t2 * u4, t3 * u3, t4 * u2, t5 * u1], sumW 0 [t2 * u5, t3 * u4, t4 * u3, t5 * u2], sumW 0 [t3 * u5, t4 * u4, t5 * u3], sumW 0 [t4 * u5, t5 * u4], sumW 0 [t5 * u5]] := by kernel_rfl

theorem mulGo_eq (t u : List Int) (ht : t.length = 6) (hu : u.length = 6) (h : ∀ x ∈ t, 0 ≤ x ∧ x < 67108864) (h' : ∀ x ∈ u, 0 ≤ x ∧ x < 67108864) : dnum 26 (mulGo t u 36) = dnum 26 t * dnum 26 u ∧ ∀ x ∈ mulGo t u 36, small x := by
  obtain ⟨t0, t1, t2, t3, t4, t5, rfl⟩ := list6 ht
  obtain ⟨u0, u1, u2, u3, u4, u5, rfl⟩ := list6 hu
  have pr : ∀ x ∈ [t0, t1, t2, t3, t4, t5], ∀ y ∈ [u0, u1, u2, u3, u4, u5], 0 ≤ x * y ∧ x * y < 4503599627370496 := by
    intro x hx y hy
    obtain ⟨x0, x1⟩ := h x hx
    obtain ⟨y0, y1⟩ := h' y hy
    have m0 := Int.mul_nonneg x0 y0
    have m1 : x * y ≤ 67108863 * 67108863 := Int.mul_le_mul (by omega) (by omega) y0 (by decide)
    exact ⟨m0, by omega⟩
  rw [mulGo_sum]
  obtain ⟨s0, a0, b0⟩ := sumW_eq [t0 * u0] 0 (by
    intro p hp
    simp only [List.mem_cons, List.not_mem_nil, or_false] at hp
    subst hp; exact pr _ (by simp) _ (by simp)) (by decide) (by simp)
  obtain ⟨s1, a1, b1⟩ := sumW_eq [t0 * u1, t1 * u0] 0 (by
    intro p hp
    simp only [List.mem_cons, List.not_mem_nil, or_false] at hp
    rcases hp with rfl | rfl <;> exact pr _ (by simp) _ (by simp)) (by decide) (by simp)
  obtain ⟨s2, a2, b2⟩ := sumW_eq [t0 * u2, t1 * u1, t2 * u0] 0 (by
    intro p hp
    simp only [List.mem_cons, List.not_mem_nil, or_false] at hp
    rcases hp with rfl | rfl | rfl <;> exact pr _ (by simp) _ (by simp)) (by decide) (by simp)
  obtain ⟨s3, a3, b3⟩ := sumW_eq [t0 * u3, t1 * u2, t2 * u1, t3 * u0] 0 (by
    intro p hp
    simp only [List.mem_cons, List.not_mem_nil, or_false] at hp
    rcases hp with rfl | rfl | rfl | rfl <;> exact pr _ (by simp) _ (by simp)) (by decide) (by simp)
  obtain ⟨s4, a4, b4⟩ := sumW_eq [t0 * u4, t1 * u3, t2 * u2, t3 * u1, t4 * u0] 0 (by
    intro p hp
    simp only [List.mem_cons, List.not_mem_nil, or_false] at hp
    rcases hp with rfl | rfl | rfl | rfl | rfl <;> exact pr _ (by simp) _ (by simp)) (by decide) (by simp)
  obtain ⟨s5, a5, b5⟩ := sumW_eq [t0 * u5, t1 * u4, t2 * u3, t3 * u2, t4 * u1, t5 * u0] 0 (by
    intro p hp
    simp only [List.mem_cons, List.not_mem_nil, or_false] at hp
    rcases hp with rfl | rfl | rfl | rfl | rfl | rfl <;> exact pr _ (by simp) _ (by simp)) (by decide) (by simp)
  obtain ⟨s6, a6, b6⟩ := sumW_eq [t1 * u5, t2 * u4, t3 * u3, t4 * u2, t5 * u1] 0 (by
    intro p hp
    simp only [List.mem_cons, List.not_mem_nil, or_false] at hp
    rcases hp with rfl | rfl | rfl | rfl | rfl <;> exact pr _ (by simp) _ (by simp)) (by decide) (by simp)
  obtain ⟨s7, a7, b7⟩ := sumW_eq [t2 * u5, t3 * u4, t4 * u3, t5 * u2] 0 (by
    intro p hp
    simp only [List.mem_cons, List.not_mem_nil, or_false] at hp
    rcases hp with rfl | rfl | rfl | rfl <;> exact pr _ (by simp) _ (by simp)) (by decide) (by simp)
  obtain ⟨s8, a8, b8⟩ := sumW_eq [t3 * u5, t4 * u4, t5 * u3] 0 (by
    intro p hp
    simp only [List.mem_cons, List.not_mem_nil, or_false] at hp
    rcases hp with rfl | rfl | rfl <;> exact pr _ (by simp) _ (by simp)) (by decide) (by simp)
  obtain ⟨s9, a9, b9⟩ := sumW_eq [t4 * u5, t5 * u4] 0 (by
    intro p hp
    simp only [List.mem_cons, List.not_mem_nil, or_false] at hp
    rcases hp with rfl | rfl <;> exact pr _ (by simp) _ (by simp)) (by decide) (by simp)
  obtain ⟨s10, a10, b10⟩ := sumW_eq [t5 * u5] 0 (by
    intro p hp
    simp only [List.mem_cons, List.not_mem_nil, or_false] at hp
    subst hp; exact pr _ (by simp) _ (by simp)) (by decide) (by simp)
  rw [s0, s1, s2, s3, s4, s5, s6, s7, s8, s9, s10]
  refine ⟨?_, ?_⟩
  · simp only [sumI, dnum, p26]
    grind
  · intro x hx
    simp only [List.mem_cons, List.not_mem_nil, or_false] at hx
    rcases hx with rfl | rfl | rfl | rfl | rfl | rfl | rfl | rfl | rfl | rfl | rfl
    · exact ⟨a0, b0⟩
    · exact ⟨a1, b1⟩
    · exact ⟨a2, b2⟩
    · exact ⟨a3, b3⟩
    · exact ⟨a4, b4⟩
    · exact ⟨a5, b5⟩
    · exact ⟨a6, b6⟩
    · exact ⟨a7, b7⟩
    · exact ⟨a8, b8⟩
    · exact ⟨a9, b9⟩
    · exact ⟨a10, b10⟩

theorem mulRef_ok : FnOk Tryd.prog gl 27 fMul :=
  fnOk_F2o (C := mk refF) (mk_ok refF_ok) Tryd.func27 (by kernel_rfl) rfl (by kernel_rfl) (fun l m hl hm hw hw' => by
    have hr := num17_range hl hw
    have hr' := num17_range hm hw'
    obtain ⟨e1, e2⟩ := mulGo_eq (digsOf 26 6 (num l)) (digsOf 26 6 (num m)) rfl rfl (digs6_range _) (digs6_range _)
    exact ⟨1000, _, _, mulRef_run l m hl hm, by rw [e1, digs26 _ hr.1 hr.2, digs26 _ hr'.1 hr'.2], holds_map e2⟩)

/-! ### Low -/

def lowRefGo : Int → List Int → List Int → List Int
  | rest, x :: xs, s :: ss =>
    let r := WI (WI (rest + WI x) + WI s)
    IntKind.u8.wrap (r.tmod 256) :: lowRefGo (WI (r.tdiv 256)) xs ss
  | _, _, _ => []

theorem lowRef_run (l m : List Int) (h : l.length = 17) (h' : m.length = 16) : plainRun (mk [(25, fCanon)]) Tryd.f29 600 [.agg .u8 l, .agg .u8 m] =
    some (.agg .u8 (lowRefGo 0 (bytesOf 17 (num l % q130)) m), []) := by
  obtain ⟨a0, a1, a2, a3, a4, a5, a6, a7, a8, a9, a10, a11, a12, a13, a14, a15, a16, rfl⟩ := list17 h
  obtain ⟨b0, b1, b2, b3, b4, b5, b6, b7, b8, b9, b10, b11, b12, b13, b14, b15, rfl⟩ := list16 h'
  kernel_rfl

theorem lowRefGo_eq : ∀ (ss xs : List Int) (rest : Int), ss.length ≤ xs.length → (∀ x ∈ xs, 0 ≤ x ∧ x < 256) → (∀ x ∈ ss, 0 ≤ x ∧ x < 256) → 0 ≤ rest → rest < 256 → lowRefGo rest xs ss = bytesOf ss.length (rest + num xs + num ss)
  | [], xs, rest, _, _, _, _, _ => by cases xs <;> rfl
  | s :: ss, [], rest, h, _, _, _, _ => by simp at h
  | s :: ss, x :: xs, rest, h, hx, hs, h0, h1 => by
    obtain ⟨x0, x1⟩ := hx x (by simp)
    obtain ⟨s0, s1⟩ := hs s (by simp)
    rw [List.length_cons, bytesOf_succ]
    simp only [num, lowRefGo, WI]
    rw [i64w x (by omega) (by omega), i64w s (by omega) (by omega), i64w (rest + x) (by omega) (by omega), i64w (rest + x + s) (by omega) (by omega),
      Int.tmod_eq_emod_of_nonneg (by omega), Int.tdiv_eq_ediv_of_nonneg (by omega), i64w ((rest + x + s) / 256) (by omega) (by omega), u8w]
    have e1 : (rest + (x + 256 * num xs) + (s + 256 * num ss)) % 256 = (rest + x + s) % 256 % 256 := by omega
    have e2 : (rest + (x + 256 * num xs) + (s + 256 * num ss)) / 256 = (rest + x + s) / 256 + num xs + num ss := by omega
    rw [e1, e2, lowRefGo_eq ss xs _ (by simpa using h) (fun y hy => hx y (by simp [hy])) (fun y hy => hs y (by simp [hy])) (by omega) (by omega)]

theorem lowRef_ok : FnOk Tryd.prog gl 29 fLow :=
  fnOk_F2o (C := mk [(25, fCanon)]) (mk_ok (by intro p hp; rw [List.mem_singleton.1 hp]; exact canonRef_ok)) Tryd.func29 (by kernel_rfl) rfl (by kernel_rfl) (fun l m hl hm hw hw' => by
    refine ⟨600, _, _, lowRef_run l m hl hm, ?_, Holds.nil⟩
    rw [lowRefGo_eq _ _ _ (by rw [hm, bytesOf_length]; decide) (bytesOf_range _ _) (fun x hx => wf_u8.1 (hw' x hx)) (by decide) (by decide), hm, num_q, Int.zero_add])

/-! ### The laws -/

noncomputable abbrev refLF : List (FuncId × (List A → List Blk → Option Res)) := (25, fCanon) :: (31, fAdd) :: (27, fMul) :: (29, fLow) :: lawF
theorem refLF_ok : ∀ p ∈ refLF, FnOk Tryd.prog gl p.1 p.2 := by
  intro p hp
  rcases List.mem_cons.1 hp with rfl | hp
  · exact canonRef_ok
  rcases List.mem_cons.1 hp with rfl | hp
  · exact addRef_ok
  rcases List.mem_cons.1 hp with rfl | hp
  · exact mulRef_ok
  rcases List.mem_cons.1 hp with rfl | hp
  · exact lowRef_ok
  exact lawF_ok p hp
noncomputable abbrev refLC : Ctx := mkh (fun _ => some true) refLF
theorem refLC_ok : refLC.Ok := mkh_ok refLF_ok

theorem canonL_run (l : List Int) (hl : l.length = 17) : plainRun refLC Tryd.f4 300 [.agg .u8 l] =
    some (.bool true, [decide (cC l = cC l) = true, decide (cC (cC l) = cC l) = true]) := by
  obtain ⟨a0, a1, a2, a3, a4, a5, a6, a7, a8, a9, a10, a11, a12, a13, a14, a15, a16, rfl⟩ := list17 hl
  kernel_rfl

theorem canonL_ok : FnOk Tryd.prog gl 4 (FT [17]) := by
  refine fnOk_FT (C := refLC) refLC_ok Tryd.func4 (by kernel_rfl) rfl (by kernel_rfl) (fun ls h _ => ?_)
  obtain ⟨l, rfl, hl⟩ := map1 h
  exact ⟨300, _, canonL_run l hl, holds2 (dT rfl) (dT (by unfold cC; rw [num_q, Int.emod_emod]))⟩

theorem adds_run (l m : List Int) (hl : l.length = 17) (hm : m.length = 17) : plainRun refLC Tryd.f8 300 [.agg .u8 l, .agg .u8 m] =
    some (.bool true, [decide (cA l m = cA l m) = true]) := by
  obtain ⟨a0, a1, a2, a3, a4, a5, a6, a7, a8, a9, a10, a11, a12, a13, a14, a15, a16, rfl⟩ := list17 hl
  obtain ⟨b0, b1, b2, b3, b4, b5, b6, b7, b8, b9, b10, b11, b12, b13, b14, b15, b16, rfl⟩ := list17 hm
  kernel_rfl

theorem adds_ok : FnOk Tryd.prog gl 8 (FT [17, 17]) := by
  refine fnOk_FT (C := refLC) refLC_ok Tryd.func8 (by kernel_rfl) rfl (by kernel_rfl) (fun ls h _ => ?_)
  obtain ⟨l, m, rfl, hl, hm⟩ := map2 h
  exact ⟨300, _, adds_run l m hl hm, Holds.one (dT rfl)⟩

theorem muls_run (l m : List Int) (hl : l.length = 17) (hm : m.length = 17) : plainRun refLC Tryd.f5 300 [.agg .u8 l, .agg .u8 m] =
    some (.bool true, [decide (cM l m = cM l m) = true]) := by
  obtain ⟨a0, a1, a2, a3, a4, a5, a6, a7, a8, a9, a10, a11, a12, a13, a14, a15, a16, rfl⟩ := list17 hl
  obtain ⟨b0, b1, b2, b3, b4, b5, b6, b7, b8, b9, b10, b11, b12, b13, b14, b15, b16, rfl⟩ := list17 hm
  kernel_rfl

theorem muls_ok : FnOk Tryd.prog gl 5 (FT [17, 17]) := by
  refine fnOk_FT (C := refLC) refLC_ok Tryd.func5 (by kernel_rfl) rfl (by kernel_rfl) (fun ls h _ => ?_)
  obtain ⟨l, m, rfl, hl, hm⟩ := map2 h
  exact ⟨300, _, muls_run l m hl hm, Holds.one (dT rfl)⟩

theorem lowL_run (l m : List Int) (hl : l.length = 17) (hm : m.length = 16) : plainRun refLC Tryd.f6 300 [.agg .u8 l, .agg .u8 m] =
    some (.bool true, [decide (cL l m = cL l m) = true]) := by
  obtain ⟨a0, a1, a2, a3, a4, a5, a6, a7, a8, a9, a10, a11, a12, a13, a14, a15, a16, rfl⟩ := list17 hl
  obtain ⟨b0, b1, b2, b3, b4, b5, b6, b7, b8, b9, b10, b11, b12, b13, b14, b15, rfl⟩ := list16 hm
  kernel_rfl

theorem lowL_ok : FnOk Tryd.prog gl 6 (FT [17, 16]) := by
  refine fnOk_FT (C := refLC) refLC_ok Tryd.func6 (by kernel_rfl) rfl (by kernel_rfl) (fun ls h _ => ?_)
  obtain ⟨l, m, rfl, hl, hm⟩ := map2 h
  exact ⟨300, _, lowL_run l m hl hm, Holds.one (dT rfl)⟩

end Go.Proofs.YtbdmahidobjaoaaDoor.Sx
