/-
  The contracts of clamp's canon, Canon, Add, Mul, Low, Trim.
-/
import Derived.Test.YtbdmahidobjaoaaDoorClampFns
namespace Go.Proofs.YtbdmahidobjaoaaDoor.Sx
open Go
set_option maxRecDepth 100000

/-- 2^130 - 5. -/
def q130 : Int := 1361129467683753853853498429727072845819

def fCanonW : List A → List Blk → Option Res := F1 .u64 .u64 3 fun l => wordsOf 3 (wnum l % q130)

def canonR (w : List Int) : List Int :=
  match w with
  | [w0, w1, w2] =>
    let b1 := borrow w0 18446744073709551611 false
    let b2 := borrow w1 18446744073709551615 b1
    let b3 := borrow w2 3 b2
    [pickW b3 (subc w0 18446744073709551611 false) w0, pickW b3 (subc w1 18446744073709551615 b1) w1, pickW b3 (subc w2 3 b2) w2]
  | _ => []

theorem canon_run (a b c : Int) : plainRun (mk [(43, fFold)]) Tryd.f39 300 [.agg .u64 [a, b, c]] = some (.agg .u64 (canonR (wordsOf 3 (fold1 (fold1 (wnum [a, b, c]))))), []) := by kernel_rfl

theorem canonR_eq (a b c : Int) (ha : 0 ≤ a ∧ a < 18446744073709551616) (hb : 0 ≤ b ∧ b < 18446744073709551616) (hc : 0 ≤ c ∧ c < 18446744073709551616) :
    ∃ a' b' c', canonR [a, b, c] = [a', b', c'] ∧ (0 ≤ a' ∧ a' < 18446744073709551616) ∧ (0 ≤ b' ∧ b' < 18446744073709551616) ∧ (0 ≤ c' ∧ c' < 18446744073709551616) ∧
      wnum [a', b', c'] = if wnum [a, b, c] < q130 then wnum [a, b, c] else wnum [a, b, c] - q130 := by
  refine ⟨_, _, _, rfl, ?_⟩
  have e1 := subc_split a 18446744073709551611 false ha.1 ha.2 (by decide) (by decide)
  have e2 := subc_split b 18446744073709551615 (borrow a 18446744073709551611 false) hb.1 hb.2 (by decide) (by decide)
  have e3 := subc_split c 3 (borrow b 18446744073709551615 (borrow a 18446744073709551611 false)) hc.1 hc.2 (by decide) (by decide)
  rw [show bi false = 0 from rfl] at e1
  rw [pickW_eq _ _ _ e1.2.1 e1.2.2 ha.1 ha.2, pickW_eq _ _ _ e2.2.1 e2.2.2 hb.1 hb.2, pickW_eq _ _ _ e3.2.1 e3.2.2 hc.1 hc.2]
  have k1 := bi_range (borrow a 18446744073709551611 false)
  have k2 := bi_range (borrow b 18446744073709551615 (borrow a 18446744073709551611 false))
  generalize borrow a 18446744073709551611 false = b1 at *
  generalize borrow b 18446744073709551615 b1 = b2 at *
  generalize subc a 18446744073709551611 false = a' at *
  generalize subc b 18446744073709551615 b1 = b' at *
  generalize subc c 3 b2 = c' at *
  generalize bi b1 = k1' at *
  generalize bi b2 = k2' at *
  cases hb3 : borrow c 3 b2 with
  | true =>
    rw [hb3, show bi true = 1 from rfl] at e3
    simp only [if_true]
    refine ⟨ha, hb, hc, ?_⟩
    rw [if_pos (by simp only [wnum, q130]; omega)]
  | false =>
    rw [hb3, show bi false = 0 from rfl] at e3
    simp only [Bool.false_eq_true, if_false]
    refine ⟨e1.2, e2.2, e3.2, ?_⟩
    rw [if_neg (by simp only [wnum, q130]; omega)]
    simp only [wnum, q130]
    omega

theorem fold2_range (n : Int) (h0 : 0 ≤ n) (h1 : n < 6277101735386680763835789423207666416102355444464034512896) : 0 ≤ fold1 (fold1 n) ∧ fold1 (fold1 n) < 1361129467683753853853498429727072845824 ∧ fold1 (fold1 n) % q130 = n % q130 := by
  have key : ∀ m : Int, 0 ≤ m → 0 ≤ fold1 m ∧ fold1 m % q130 = m % q130 := by
    intro m hm
    refine ⟨by unfold fold1; omega, ?_⟩
    have e : m = fold1 m + q130 * (m / 1361129467683753853853498429727072845824) := by unfold fold1 q130; omega
    conv => rhs; rw [e]
    rw [Int.add_mul_emod_self_left]
  obtain ⟨a1, a2⟩ := key n h0
  obtain ⟨b1, b2⟩ := key (fold1 n) a1
  refine ⟨b1, ?_, b2.trans a2⟩
  unfold fold1
  omega

theorem wnum_wordsOf3 (n : Int) (h0 : 0 ≤ n) (h1 : n < 6277101735386680763835789423207666416102355444464034512896) : wnum (wordsOf 3 n) = n := by
  rw [wnum_wordsOf, show (18446744073709551616 : Int) ^ 3 = 6277101735386680763835789423207666416102355444464034512896 by decide]
  exact Int.emod_eq_of_lt h0 h1

theorem wordsOf_range (n : Int) : ∀ (m k : Nat), ∀ x ∈ wordsFrom k n m, 0 ≤ x ∧ x < 18446744073709551616
  | 0, _, x, h => by cases h
  | m + 1, k, x, h => by
    simp only [wordsFrom, List.mem_cons] at h
    rcases h with rfl | h
    · omega
    · exact wordsOf_range n m (k + 1) x h

theorem canonW_ok : FnOk Tryd.prog gl 39 fCanonW := by
  refine fnOk_F1 (C := mk [(43, fFold)]) (mk_ok (by intro p hp; rw [List.mem_singleton.1 hp]; exact fold_ok)) Tryd.func39 (by kernel_rfl) rfl (by kernel_rfl) (fun l hl hw => ?_)
  obtain ⟨a, b, c, rfl⟩ := list3 hl
  refine ⟨300, _, canon_run .., ?_⟩
  have hr := wnum_range [a, b, c] (fun x hx => wf_u64.1 (hw x hx))
  obtain ⟨f0, f1, f2⟩ := fold2_range (wnum [a, b, c]) hr.1 (by have := hr.2; simp only [List.length_cons, List.length_nil] at this; rwa [show (18446744073709551616 : Int) ^ (0 + 1 + 1 + 1) = 6277101735386680763835789423207666416102355444464034512896 by decide] at this)
  rw [← f2]
  generalize fold1 (fold1 (wnum [a, b, c])) = n at *
  have hwr := wordsOf_range n 3 0
  have hwn := wnum_wordsOf3 n f0 (by omega)
  obtain ⟨x, y, z, hxyz⟩ := list3 (l := wordsOf 3 n) rfl
  unfold wordsOf at hxyz hwn
  rw [hxyz] at hwr hwn
  unfold wordsOf
  rw [hxyz]
  obtain ⟨a', b', c', e1, ha', hb', hc', e2⟩ := canonR_eq x y z (hwr x (by simp)) (hwr y (by simp)) (hwr z (by simp))
  rw [e1]
  have := wordsOf_wnum [a', b', c'] (fun x hx => by
    simp only [List.mem_cons, List.not_mem_nil, or_false] at hx
    rcases hx with rfl | rfl | rfl
    · exact ha'
    · exact hb'
    · exact hc')
  rw [← this, e2, hwn]
  unfold wordsOf
  congr 1
  split
  · rename_i h
    exact (Int.emod_eq_of_lt f0 h).symm
  · rename_i h
    have e : n = (n - q130) + q130 * 1 := by omega
    conv => rhs; rw [e]
    rw [Int.add_mul_emod_self_left]
    exact (Int.emod_eq_of_lt (by omega) (by unfold q130 at *; omega)).symm

/-! ### The exported ones -/

def fCanon : List A → List Blk → Option Res := F1 .u8 .u8 17 fun l => bytesOf 17 (num l % q130)

noncomputable abbrev c1 : Ctx := mk [(40, fLoad), (38, fStore), (39, fCanonW), (43, fFold), (44, fMul64)]

theorem c1_ok : c1.Ok := mk_ok (by
  intro p hp
  simp only [List.mem_cons, List.not_mem_nil, or_false] at hp
  rcases hp with rfl | rfl | rfl | rfl | rfl
  · exact load_ok
  · exact store_ok
  · exact canonW_ok
  · exact fold_ok
  · exact mul64_ok)

theorem num17_range {l : List Int} (hl : l.length = 17) (hw : ∀ x ∈ l, wf .u8 x) : 0 ≤ num l ∧ num l < 87112285931760246646623899502532662132736 := by
  have := num_range l (fun x hx => wf_u8.1 (hw x hx))
  rw [hl, show (256 : Int) ^ 17 = 87112285931760246646623899502532662132736 by decide] at this
  exact this

theorem mod130 (n : Int) : 0 ≤ n % q130 ∧ n % q130 < q130 := ⟨Int.emod_nonneg _ (by decide), Int.emod_lt_of_pos _ (by decide)⟩

theorem canon_run2 (l : List Int) (h : l.length = 17) : plainRun c1 Tryd.f24 300 [.agg .u8 l] = some (.agg .u8 (bytesOf 17 (wnum (wordsOf 3 (wnum (wordsOf 3 (num l)) % q130)))), []) := by
  obtain ⟨a0, a1, a2, a3, a4, a5, a6, a7, a8, a9, a10, a11, a12, a13, a14, a15, a16, rfl⟩ := list17 h
  kernel_rfl

theorem canon_ok : FnOk Tryd.prog gl 24 fCanon := by
  refine fnOk_F1 (C := c1) c1_ok Tryd.func24 (by kernel_rfl) rfl (by kernel_rfl) (fun l hl hw => ⟨300, _, canon_run2 l hl, ?_⟩)
  have hr := num17_range hl hw
  have hm := mod130 (num l)
  rw [wnum_wordsOf3 _ hr.1 (by omega), wnum_wordsOf3 _ hm.1 (by unfold q130 at *; omega)]

def fAdd : List A → List Blk → Option Res := F2 .u8 .u8 .u8 17 17 fun l m => bytesOf 17 ((num l + num m) % q130)

def addR (x y : List Int) : List Int :=
  match x, y with
  | [x0, x1, x2], [y0, y1, y2] =>
    let k1 := carry x0 y0 false
    let k2 := carry x1 y1 k1
    [addc x0 y0 false, addc x1 y1 k1, addc x2 y2 k2]
  | _, _ => []

theorem addR_eq (x0 x1 x2 y0 y1 y2 : Int) (h0 : 0 ≤ x0 ∧ x0 < 18446744073709551616) (h1 : 0 ≤ x1 ∧ x1 < 18446744073709551616) (h2 : 0 ≤ x2 ∧ x2 < 18446744073709551616)
    (g0 : 0 ≤ y0 ∧ y0 < 18446744073709551616) (g1 : 0 ≤ y1 ∧ y1 < 18446744073709551616) (g2 : 0 ≤ y2 ∧ y2 < 18446744073709551616) (hs : wnum [x0, x1, x2] + wnum [y0, y1, y2] < 6277101735386680763835789423207666416102355444464034512896) :
    wnum (addR [x0, x1, x2] [y0, y1, y2]) = wnum [x0, x1, x2] + wnum [y0, y1, y2] := by
  have e1 := addc_split x0 y0 false h0.1 h0.2 g0.1 g0.2
  have e2 := addc_split x1 y1 (carry x0 y0 false) h1.1 h1.2 g1.1 g1.2
  have e3 := addc_split x2 y2 (carry x1 y1 (carry x0 y0 false)) h2.1 h2.2 g2.1 g2.2
  have k3 := bi_range (carry x2 y2 (carry x1 y1 (carry x0 y0 false)))
  rw [show bi false = 0 from rfl] at e1
  simp only [addR, wnum] at *
  omega

theorem add_run (l m : List Int) (h : l.length = 17) (h' : m.length = 17) : plainRun c1 Tryd.f30 300 [.agg .u8 l, .agg .u8 m] =
    some (.agg .u8 (bytesOf 17 (wnum (wordsOf 3 (wnum (addR (wordsOf 3 (num l)) (wordsOf 3 (num m))) % q130)))), []) := by
  obtain ⟨a0, a1, a2, a3, a4, a5, a6, a7, a8, a9, a10, a11, a12, a13, a14, a15, a16, rfl⟩ := list17 h
  obtain ⟨b0, b1, b2, b3, b4, b5, b6, b7, b8, b9, b10, b11, b12, b13, b14, b15, b16, rfl⟩ := list17 h'
  kernel_rfl

theorem add_ok : FnOk Tryd.prog gl 30 fAdd := by
  refine fnOk_F2 (C := c1) c1_ok Tryd.func30 (by kernel_rfl) rfl (by kernel_rfl) (fun l m hl hm hw hw' => ⟨300, _, add_run l m hl hm, ?_⟩)
  have hr := num17_range hl hw
  have hr' := num17_range hm hw'
  have hm := mod130 (num l + num m)
  have h1 := wnum_wordsOf3 (num l) hr.1 (by omega)
  have h2 := wnum_wordsOf3 (num m) hr'.1 (by omega)
  have r1 := wordsOf_range (num l) 3 0
  have r2 := wordsOf_range (num m) 3 0
  obtain ⟨x0, x1, x2, hx⟩ := list3 (l := wordsOf 3 (num l)) rfl
  obtain ⟨y0, y1, y2, hy⟩ := list3 (l := wordsOf 3 (num m)) rfl
  rw [hx, hy]
  rw [hx] at h1
  rw [hy] at h2
  unfold wordsOf at hx hy
  rw [hx] at r1
  rw [hy] at r2
  rw [addR_eq x0 x1 x2 y0 y1 y2 (r1 _ (by simp)) (r1 _ (by simp)) (r1 _ (by simp)) (r2 _ (by simp)) (r2 _ (by simp)) (r2 _ (by simp)) (by rw [h1, h2]; omega), h1, h2,
    wnum_wordsOf3 _ hm.1 (by unfold q130 at *; omega)]

end Go.Proofs.YtbdmahidobjaoaaDoor.Sx
