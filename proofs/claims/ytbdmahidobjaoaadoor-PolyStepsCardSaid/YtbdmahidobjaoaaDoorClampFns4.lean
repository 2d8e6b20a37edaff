/-
  The contracts of clamp's Mul, Low, Trim.
-/
import Derived.Test.YtbdmahidobjaoaaDoorClampFns3
namespace Go.Proofs.YtbdmahidobjaoaaDoor.Sx
open Go
set_option maxRecDepth 100000

theorem or_up (a b : Int) (ha : W a) : bits .or .u64 (a.fdiv (2 ^ 2)) (IntKind.u64.wrap (b * 2 ^ 62)) = a / 4 + b % 4 * 4611686018427387904 := by
  rw [fdiv4, u64wm, show (2 : Int) ^ 62 = 4611686018427387904 by decide]
  have e : b * 4611686018427387904 % 18446744073709551616 = b % 4 * 4611686018427387904 := by omega
  rw [e, or_low_high 62 _ _ (by omega) (by rw [show (2 : Int) ^ 62 = 4611686018427387904 by decide]; omega) (by omega) (by omega) (by omega) (by rw [show (2 : Int) ^ 62 = 4611686018427387904 by decide]; omega)]

theorem addR_list (x0 x1 x2 y0 y1 y2 : Int) (h0 : W x0) (h1 : W x1) (h2 : W x2) (g0 : W y0) (g1 : W y1) (g2 : W y2) (hs : wnum [x0, x1, x2] + wnum [y0, y1, y2] < 6277101735386680763835789423207666416102355444464034512896) :
    ∃ z0 z1 z2, addR [x0, x1, x2] [y0, y1, y2] = [z0, z1, z2] ∧ W z0 ∧ W z1 ∧ W z2 ∧ wnum [z0, z1, z2] = wnum [x0, x1, x2] + wnum [y0, y1, y2] := by
  have e := addR_eq x0 x1 x2 y0 y1 y2 h0 h1 h2 g0 g1 g2 hs
  exact ⟨_, _, _, rfl, (addc_split x0 y0 false h0.1 h0.2 g0.1 g0.2).2, (addc_split x1 y1 _ h1.1 h1.2 g1.1 g1.2).2, (addc_split x2 y2 _ h2.1 h2.2 g2.1 g2.2).2, e⟩

theorem mulR_eq (x0 x1 x2 y0 y1 y2 : Int) (hx0 : W x0) (hx1 : W x1) (hx2 : W x2) (hy0 : W y0) (hy1 : W y1) (hy2 : W y2) (hx : wnum [x0, x1, x2] < 1361129467683753853853498429727072845824) (hy : wnum [y0, y1, y2] < 1361129467683753853853498429727072845824) :
    wnum (mulR [x0, x1, x2] [y0, y1, y2]) % q130 = wnum [x0, x1, x2] * wnum [y0, y1, y2] % q130 := by
  obtain ⟨e, hW⟩ := prodR_eq x0 x1 x2 y0 y1 y2 hx0 hx1 hx2 hy0 hy1 hy2
  have rx := wnum_range [x0, x1, x2] (by simp only [List.mem_cons, List.not_mem_nil, or_false]; rintro t (rfl | rfl | rfl) <;> assumption)
  have ry := wnum_range [y0, y1, y2] (by simp only [List.mem_cons, List.not_mem_nil, or_false]; rintro t (rfl | rfl | rfl) <;> assumption)
  have hT : wnum [x0, x1, x2] * wnum [y0, y1, y2] ≤ 1361129467683753853853498429727072845823 * 1361129467683753853853498429727072845823 := Int.mul_le_mul (by omega) (by omega) ry.1 (by decide)
  unfold mulR
  obtain ⟨t0, t1, t2, t3, t4, t5, ht⟩ : ∃ t0 t1 t2 t3 t4 t5, prodR [x0, x1, x2] [y0, y1, y2] = [t0, t1, t2, t3, t4, t5] := ⟨_, _, _, _, _, _, rfl⟩
  rw [ht] at e hW
  rw [← e] at hT ⊢
  simp only [ht]
  have w0 := hW t0 (by simp)
  have w1 := hW t1 (by simp)
  have w2 := hW t2 (by simp)
  have w3 := hW t3 (by simp)
  have w4 := hW t4 (by simp)
  have w5 := hW t5 (by simp)
  have m := and_mask 2 (by decide) t2 w2.1 w2.2
  rw [show (2 : Int) ^ 2 - 1 = 3 by decide, show (2 : Int) ^ 2 = 4 by decide] at m
  simp only [upR, lowR, or_up t2 t3 w2, or_up t3 t4 w3, m]
  simp only [fdiv4]
  simp only [wnum] at hT
  have h5 : t5 = 0 := by omega
  subst h5
  have hu : 0 ≤ wnum [t2 / 4 + t3 % 4 * 4611686018427387904, t3 / 4 + t4 % 4 * 4611686018427387904, t4 / 4] ∧ wnum [t2 / 4 + t3 % 4 * 4611686018427387904, t3 / 4 + t4 % 4 * 4611686018427387904, t4 / 4] < 1361129467683753853853498429727072845824 ∧
      wnum [t0, t1, t2, t3, t4, 0] = wnum [t0, t1, t2 % 4] + 1361129467683753853853498429727072845824 * wnum [t2 / 4 + t3 % 4 * 4611686018427387904, t3 / 4 + t4 % 4 * 4611686018427387904, t4 / 4] := by
    simp only [wnum]
    omega
  have hl : 0 ≤ wnum [t0, t1, t2 % 4] ∧ wnum [t0, t1, t2 % 4] < 1361129467683753853853498429727072845824 := by
    simp only [wnum]
    omega
  have u0 : W (t2 / 4 + t3 % 4 * 4611686018427387904) := by constructor <;> omega
  have u1 : W (t3 / 4 + t4 % 4 * 4611686018427387904) := by constructor <;> omega
  have u2 : W (t4 / 4) := by constructor <;> omega
  have l2 : W (t2 % 4) := by constructor <;> omega
  obtain ⟨hu0, hu1, hu2⟩ := hu
  generalize t2 / 4 + t3 % 4 * 4611686018427387904 = a at *
  generalize t3 / 4 + t4 % 4 * 4611686018427387904 = b at *
  generalize t4 / 4 = c at *
  generalize t2 % 4 = d at *
  obtain ⟨z0, z1, z2, e1, p0, p1, p2, n1⟩ := addR_list t0 t1 d a b c w0 w1 l2 u0 u1 u2 (by omega)
  rw [e1]
  obtain ⟨z0, z1, z2, e1, p0, p1, p2, n2⟩ := addR_list z0 z1 z2 a b c p0 p1 p2 u0 u1 u2 (by omega)
  rw [e1]
  obtain ⟨z0, z1, z2, e1, p0, p1, p2, n3⟩ := addR_list z0 z1 z2 a b c p0 p1 p2 u0 u1 u2 (by omega)
  rw [e1]
  obtain ⟨z0, z1, z2, e1, p0, p1, p2, n4⟩ := addR_list z0 z1 z2 a b c p0 p1 p2 u0 u1 u2 (by omega)
  rw [e1]
  obtain ⟨z0, z1, z2, e1, p0, p1, p2, n5⟩ := addR_list z0 z1 z2 a b c p0 p1 p2 u0 u1 u2 (by omega)
  rw [e1, n5, n4, n3, n2, n1, hu2]
  have e9 : wnum [t0, t1, d] + 1361129467683753853853498429727072845824 * wnum [a, b, c] = (wnum [t0, t1, d] + wnum [a, b, c] + wnum [a, b, c] + wnum [a, b, c] + wnum [a, b, c] + wnum [a, b, c]) + q130 * wnum [a, b, c] := by
    unfold q130; omega
  rw [e9, Int.add_mul_emod_self_left]

def fMul : List A → List Blk → Option Res := F2 .u8 .u8 .u8 17 17 fun l m => bytesOf 17 ((num l * num m) % q130)

theorem mul_ok : FnOk Tryd.prog gl 26 fMul := by
  refine fnOk_F2 (C := c1) c1_ok Tryd.func26 (by kernel_rfl) rfl (by kernel_rfl) (fun l m hl hm hw hw' => ⟨300, _, mul_run l m hl hm, ?_⟩)
  have hr := num17_range hl hw
  have hr' := num17_range hm hw'
  have hm1 := mod130 (num l * num m)
  rw [wnum_wordsOf3 (num l) hr.1 (by omega), wnum_wordsOf3 (num m) hr'.1 (by omega)]
  obtain ⟨f0, f1, f2⟩ := fold2_range (num l) hr.1 (by omega)
  obtain ⟨g0, g1, g2⟩ := fold2_range (num m) hr'.1 (by omega)
  generalize fold1 (fold1 (num l)) = X at *
  generalize fold1 (fold1 (num m)) = Y at *
  have h1 := wnum_wordsOf3 X f0 (by omega)
  have h2 := wnum_wordsOf3 Y g0 (by omega)
  have r1 := wordsOf_range X 3 0
  have r2 := wordsOf_range Y 3 0
  obtain ⟨x0, x1, x2, hx⟩ := list3 (l := wordsOf 3 X) rfl
  obtain ⟨y0, y1, y2, hy⟩ := list3 (l := wordsOf 3 Y) rfl
  rw [hx, hy]
  rw [hx] at h1
  rw [hy] at h2
  unfold wordsOf at hx hy
  rw [hx] at r1
  rw [hy] at r2
  rw [mulR_eq x0 x1 x2 y0 y1 y2 (r1 _ (by simp)) (r1 _ (by simp)) (r1 _ (by simp)) (r2 _ (by simp)) (r2 _ (by simp)) (r2 _ (by simp)) (by omega) (by omega), h1, h2,
    Int.mul_emod X Y, f2, g2, ← Int.mul_emod, wnum_wordsOf3 _ hm1.1 (by unfold q130 at *; omega)]

/-! ### Low, Trim -/

def lowGo : Int → List Int → List Int → List Int
  | rest, x :: xs, s :: ss =>
    let r := IntKind.u64.wrap (rest + IntKind.u64.wrap (IntKind.u64.wrap x + IntKind.u64.wrap s))
    IntKind.u8.wrap r :: lowGo (r.fdiv (2 ^ 8)) xs ss
  | _, _, _ => []

theorem bytesOf_succ (m : Nat) (n : Int) : bytesOf (m + 1) n = (n % 256) :: bytesOf m (n / 256) := by
  have h : bytesOf (m + 1) n = (n / 256 ^ 0 % 256) :: bytesFrom (0 + 1) n m := rfl
  rw [h, Int.pow_zero, Int.ediv_one, Nat.add_comm 0 1, bytesFrom_div n 1 m 0, show (256 : Int) ^ 1 = 256 by decide]
  rfl

theorem lowGo_eq : ∀ (xs ss : List Int) (rest : Int), xs.length = ss.length → (∀ x ∈ xs, 0 ≤ x ∧ x < 256) → (∀ x ∈ ss, 0 ≤ x ∧ x < 256) → 0 ≤ rest → rest < 256 → lowGo rest xs ss = bytesOf xs.length (rest + num xs + num ss)
  | [], [], rest, _, _, _, _, _ => rfl
  | [], s :: ss, rest, h, _, _, _, _ => by simp at h
  | x :: xs, [], rest, h, _, _, _, _ => by simp at h
  | x :: xs, s :: ss, rest, h, hx, hs, h0, h1 => by
    obtain ⟨x0, x1⟩ := hx x (by simp)
    obtain ⟨s0, s1⟩ := hs s (by simp)
    simp only [lowGo, List.length_cons, num]
    rw [u64w x (by omega) (by omega), u64w s (by omega) (by omega), u64w (x + s) (by omega) (by omega), u64w (rest + (x + s)) (by omega) (by omega), u8w,
      show (2 : Int) ^ 8 = 256 by decide, Int.fdiv_eq_ediv_of_nonneg _ (by decide),
      lowGo_eq xs ss _ (by simpa using h) (fun y hy => hx y (by simp [hy])) (fun y hy => hs y (by simp [hy])) (by omega) (by omega), bytesOf_succ]
    congr 1
    · omega
    · congr 1
      omega

def fLow : List A → List Blk → Option Res := F2 .u8 .u8 .u8 17 16 fun l m => bytesOf 16 (num l % q130 + num m)

theorem low_run (l m : List Int) (h : l.length = 17) (h' : m.length = 16) : plainRun (mk [(24, fCanon)]) Tryd.f28 300 [.agg .u8 l, .agg .u8 m] =
    some (.agg .u8 (lowGo 0 (bytesOf 16 (num l % q130)) m), []) := by
  obtain ⟨a0, a1, a2, a3, a4, a5, a6, a7, a8, a9, a10, a11, a12, a13, a14, a15, a16, rfl⟩ := list17 h
  obtain ⟨b0, b1, b2, b3, b4, b5, b6, b7, b8, b9, b10, b11, b12, b13, b14, b15, rfl⟩ := list16 h'
  kernel_rfl

theorem low_ok : FnOk Tryd.prog gl 28 fLow := by
  refine fnOk_F2 (C := mk [(24, fCanon)]) (mk_ok (by intro p hp; rw [List.mem_singleton.1 hp]; exact canon_ok)) Tryd.func28 (by kernel_rfl) rfl (by kernel_rfl) (fun l m hl hm hw hw' => ⟨300, _, low_run l m hl hm, ?_⟩)
  rw [lowGo_eq _ _ _ (by rw [bytesOf_length, hm]) (bytesOf_range _ _) (fun x hx => wf_u8.1 (hw' x hx)) (by decide) (by decide), bytesOf_length, num_bytesOf]
  have e : ∀ n k : Int, bytesOf 16 (n % 256 ^ 16) = bytesOf 16 n := fun n _ => bytesFrom_mod n 16 16 0 (by omega)
  rw [Int.zero_add]
  have h1 := e (num l % q130 % 256 ^ 16 + num m) 0
  have h2 := e (num l % q130 + num m) 0
  rw [← h1, ← h2, Int.emod_add_emod]

/-- The bits of a number to multiply by. -/
def trimL (l : List Int) : List Int :=
  match l with
  | [a0, a1, a2, a3, a4, a5, a6, a7, a8, a9, a10, a11, a12, a13, a14, a15] =>
    [a0, a1, a2, bits .and .u8 a3 15, bits .and .u8 a4 252, a5, a6, bits .and .u8 a7 15, bits .and .u8 a8 252, a9, a10, bits .and .u8 a11 15, bits .and .u8 a12 252, a13, a14, bits .and .u8 a15 15]
  | l => l

def fTrim : List A → List Blk → Option Res := F1 .u8 .u8 16 trimL

theorem trim_run (l : List Int) (h : l.length = 16) : plainRun (mk []) Tryd.f20 300 [.agg .u8 l] = some (.agg .u8 (trimL l), []) := by
  obtain ⟨b0, b1, b2, b3, b4, b5, b6, b7, b8, b9, b10, b11, b12, b13, b14, b15, rfl⟩ := list16 h
  kernel_rfl

theorem trim_ok : FnOk Tryd.prog gl 20 fTrim :=
  fnOk_F1 (C := mk []) (mk_ok (by simp)) Tryd.func20 (by kernel_rfl) rfl (by kernel_rfl) (fun l hl _ => ⟨300, _, trim_run l hl, rfl⟩)

theorem trimRef_run (l : List Int) (h : l.length = 16) : plainRun (mk []) Tryd.f23 300 [.agg .u8 l] = some (.agg .u8 (trimL l), []) := by
  obtain ⟨b0, b1, b2, b3, b4, b5, b6, b7, b8, b9, b10, b11, b12, b13, b14, b15, rfl⟩ := list16 h
  kernel_rfl

theorem trimRef_ok : FnOk Tryd.prog gl 23 fTrim :=
  fnOk_F1 (C := mk []) (mk_ok (by simp)) Tryd.func23 (by kernel_rfl) rfl (by kernel_rfl) (fun l hl _ => ⟨300, _, trimRef_run l hl, rfl⟩)

end Go.Proofs.YtbdmahidobjaoaaDoor.Sx
