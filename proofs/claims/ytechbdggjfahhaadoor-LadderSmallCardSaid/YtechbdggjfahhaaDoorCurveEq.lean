/-
  The contracts of curve's Equal and Pick, and of the document's Pick.
-/
import Derived.Test.YtechbdggjfahhaaDoorCurveFns
namespace Go.Proofs.YtechbdggjfahhaaDoor.Sx
open Go
set_option maxRecDepth 100000

/-! ### Bits of bytes -/

theorem u8_toNat (v : BitVec 8) : IntKind.u8.wrap (v.toNat : Int) = (v.toNat : Int) := by
  rw [u8w]
  have := v.isLt
  omega

theorem bits8 (op : BitVec 8 → BitVec 8 → BitVec 8) (v w : BitVec 8) (x y : Int) (hx : x = v.toNat) (hy : y = w.toNat) : IntKind.u8.wrap ((op (BitVec.ofInt 8 x) (BitVec.ofInt 8 y)).toNat : Int) = ((op v w).toNat : Int) := by
  subst hx hy
  rw [u8_toNat, BitVec.ofInt_natCast, BitVec.ofInt_natCast, BitVec.ofNat_toNat, BitVec.ofNat_toNat, BitVec.setWidth_eq, BitVec.setWidth_eq]

theorem xor8 (v w : BitVec 8) : bits .xor .u8 (v.toNat : Int) (w.toNat : Int) = ((v ^^^ w).toNat : Int) := bits8 (· ^^^ ·) v w _ _ rfl rfl
theorem or8 (v w : BitVec 8) : bits .or .u8 (v.toNat : Int) (w.toNat : Int) = ((v ||| w).toNat : Int) := bits8 (· ||| ·) v w _ _ rfl rfl
theorem and8 (v w : BitVec 8) : bits .and .u8 (v.toNat : Int) (w.toNat : Int) = ((v &&& w).toNat : Int) := bits8 (· &&& ·) v w _ _ rfl rfl

theorem byteV {x : Int} (h : 0 ≤ x ∧ x < 256) : ∃ v : BitVec 8, x = (v.toNat : Int) := by
  obtain ⟨n, rfl⟩ := Int.eq_ofNat_of_zero_le h.1
  refine ⟨BitVec.ofNat 8 n, ?_⟩
  rw [BitVec.toNat_ofNat, Nat.mod_eq_of_lt (by omega)]

theorem vec_or_zero (v w : BitVec 8) : v ||| w = 0#8 ↔ v = 0#8 ∧ w = 0#8 := by
  constructor
  · intro h
    have e1 : v = v &&& (v ||| w) := by
      ext i hi
      simp only [BitVec.getElem_and, BitVec.getElem_or]
      cases v[i] <;> simp
    have e2 : w = w &&& (v ||| w) := by
      ext i hi
      simp only [BitVec.getElem_and, BitVec.getElem_or]
      cases w[i] <;> simp
    rw [h, BitVec.and_zero] at e1 e2
    exact ⟨e1, e2⟩
  · rintro ⟨rfl, rfl⟩
    rfl

theorem vec_xor_zero (v w : BitVec 8) : v ^^^ w = 0#8 ↔ v = w := by
  constructor
  · intro h
    have : v ^^^ w ^^^ w = w := by rw [h, BitVec.zero_xor]
    rwa [BitVec.xor_assoc, BitVec.xor_self, BitVec.xor_zero] at this
  · rintro rfl
    exact BitVec.xor_self

theorem natv_zero (v : BitVec 8) : (v.toNat : Int) = 0 ↔ v = 0#8 := by
  constructor
  · intro h
    exact BitVec.eq_of_toNat_eq (by simpa using h)
  · rintro rfl
    rfl

theorem bits_byte (op : BinOp) (x y : Int) : 0 ≤ bits op .u8 x y ∧ bits op .u8 x y < 256 := wf_u8.1 (by unfold bits; exact wf_wrap' _ _)

/-! ### Equal -/

def sameR : Int → List Int → List Int → Int
  | d, x :: xs, y :: ys => sameR (bits .or .u8 d (bits .xor .u8 x y)) xs ys
  | d, _, _ => d

theorem sameR_zero : ∀ (l m : List Int) (d : Int), l.length = m.length → (∀ x ∈ l, 0 ≤ x ∧ x < 256) → (∀ x ∈ m, 0 ≤ x ∧ x < 256) → 0 ≤ d ∧ d < 256 → (sameR d l m = 0 ↔ d = 0 ∧ l = m)
  | [], [], d, _, _, _, _ => by simp [sameR]
  | [], y :: m, d, h, _, _, _ => by simp at h
  | x :: l, [], d, h, _, _, _ => by simp at h
  | x :: l, y :: m, d, h, hl, hm, hd => by
    have ih := sameR_zero l m (bits .or .u8 d (bits .xor .u8 x y)) (by simpa using h) (fun z hz => hl z (by simp [hz])) (fun z hz => hm z (by simp [hz])) (bits_byte _ _ _)
    obtain ⟨v, hv⟩ := byteV (hl x (by simp))
    obtain ⟨w, hw⟩ := byteV (hm y (by simp))
    obtain ⟨u, hu⟩ := byteV hd
    have key : bits .or .u8 d (bits .xor .u8 x y) = 0 ↔ d = 0 ∧ x = y := by
      rw [hv, hw, hu, xor8, or8, natv_zero, vec_or_zero, vec_xor_zero, natv_zero]
      constructor
      · rintro ⟨h1, h2⟩; exact ⟨h1, by rw [h2]⟩
      · rintro ⟨h1, h2⟩; exact ⟨h1, BitVec.eq_of_toNat_eq (by omega)⟩
    rw [show sameR d (x :: l) (y :: m) = sameR (bits .or .u8 d (bits .xor .u8 x y)) l m from rfl, ih, key, List.cons.injEq, and_assoc]

theorem equal_run (l m : List Int) : plainRun (mk [(42, fCanon)]) Tryd.f31 900 [.agg .u8 (tab 32 l), .agg .u8 (tab 32 m)] = some (.bool (sameR 0 (cC (tab 32 l)) (cC (tab 32 m)) == 0), []) := by kernel_rfl

def fEqual : List A → List Blk → Option Res := FB2 .u8 .u8 32 32 fun l m => decide (num l % p25 = num m % p25)

theorem num_q' (n : Int) : num (bytesOf 32 (n % p25)) = n % p25 := by
  rw [num_bytesOf, show (256 : Int) ^ 32 = 115792089237316195423570985008687907853269984665640564039457584007913129639936 by decide]
  exact Int.emod_eq_of_lt (mod25 n).1 (mod25 n).2

theorem equal_ok : FnOk Tryd.prog gl 31 fEqual := by
  refine fnOk_FB2 (C := mk [(42, fCanon)]) (mk_ok (by intro p hp; rw [List.mem_singleton.1 hp]; exact canon_ok)) Tryd.func31 (by kernel_rfl) rfl (by kernel_rfl) (fun l m hl hm _ _ => ?_)
  have run := equal_run l m
  rw [tab_eq 32 l hl, tab_eq 32 m hm] at run
  refine ⟨900, _, run, ?_⟩
  have z := sameR_zero (cC l) (cC m) 0 (by unfold cC; rw [bytesOf_length, bytesOf_length]) (bytesOf_range _ _) (bytesOf_range _ _) (by decide)
  by_cases h : num l % p25 = num m % p25
  · rw [decide_eq_true h, z.2 ⟨rfl, by unfold cC; rw [h]⟩]
    rfl
  · rw [decide_eq_false h]
    refine beq_eq_false_iff_ne.2 (fun e => h ?_)
    have := congrArg num (z.1 e).2
    unfold cC at this
    rwa [num_q', num_q'] at this

/-! ### Pick -/

def maskR (x : Int) : Int := IntKind.u8.wrap (0 - bits .and .u8 x 1)

def pickR (k : Int) : List Int → List Int → List Int
  | a :: l, b :: m => bits .xor .u8 a (bits .and .u8 k (bits .xor .u8 a b)) :: pickR k l m
  | _, _ => []

def cP (x : Int) (l m : List Int) : List Int := bytesOf 32 (if x % 2 = 0 then num l else num m)

def fPick : List A → List Blk → Option Res
  | [.int .u8 x, .agg k l, .agg k' m], [] => match decide (k = .u8) && decide (k' = .u8) && Nat.beq l.length 32 && Nat.beq m.length 32 with
    | true => some ⟨.agg .u8 (cP x l m), [], none, []⟩
    | false => none
  | _, _ => none

theorem pick_run (x : Int) (l m : List Int) : plainRun (mk []) Tryd.f34 900 [.int .u8 x, .agg .u8 (tab 32 l), .agg .u8 (tab 32 m)] = some (.agg .u8 (pickR (maskR x) (tab 32 l) (tab 32 m)), []) := by kernel_rfl

theorem maskR_eq (x : Int) (h : 0 ≤ x ∧ x < 256) : maskR x = if x % 2 = 0 then 0 else 255 := by
  have e : bits .and .u8 x 1 = x % 2 := by
    have := bits_mask .u8 8 (by decide) (fun n a b => by rw [u8w]; exact Int.emod_eq_of_lt a (by simpa using b)) 1 (by decide) x h.1 (by simpa using h.2)
    simpa using this
  unfold maskR
  rw [e, u8w]
  split <;> omega

theorem pickR_0 : ∀ (l m : List Int), l.length = m.length → (∀ x ∈ l, 0 ≤ x ∧ x < 256) → (∀ x ∈ m, 0 ≤ x ∧ x < 256) → pickR 0 l m = l
  | [], [], _, _, _ => rfl
  | [], y :: m, h, _, _ => by simp at h
  | x :: l, [], h, _, _ => by simp at h
  | x :: l, y :: m, h, hl, hm => by
    obtain ⟨v, hv⟩ := byteV (hl x (by simp))
    obtain ⟨w, hw⟩ := byteV (hm y (by simp))
    have e : bits .xor .u8 x (bits .and .u8 0 (bits .xor .u8 x y)) = x := by
      rw [hv, hw, xor8, show (0 : Int) = ((0#8).toNat : Int) from rfl, and8, BitVec.zero_and, xor8, BitVec.xor_zero]
    rw [pickR, e, pickR_0 l m (by simpa using h) (fun z hz => hl z (by simp [hz])) (fun z hz => hm z (by simp [hz]))]

theorem pickR_1 : ∀ (l m : List Int), l.length = m.length → (∀ x ∈ l, 0 ≤ x ∧ x < 256) → (∀ x ∈ m, 0 ≤ x ∧ x < 256) → pickR 255 l m = m
  | [], [], _, _, _ => rfl
  | [], y :: m, h, _, _ => by simp at h
  | x :: l, [], h, _, _ => by simp at h
  | x :: l, y :: m, h, hl, hm => by
    obtain ⟨v, hv⟩ := byteV (hl x (by simp))
    obtain ⟨w, hw⟩ := byteV (hm y (by simp))
    have e : bits .xor .u8 x (bits .and .u8 255 (bits .xor .u8 x y)) = y := by
      rw [hv, hw, xor8, show (255 : Int) = ((BitVec.allOnes 8).toNat : Int) from rfl, and8, BitVec.allOnes_and, xor8, ← BitVec.xor_assoc, BitVec.xor_self, BitVec.zero_xor]
    rw [pickR, e, pickR_1 l m (by simpa using h) (fun z hz => hl z (by simp [hz])) (fun z hz => hm z (by simp [hz]))]

theorem cP_0 {x : Int} {l m : List Int} (hx : x % 2 = 0) (hl : l.length = 32) (bl : ∀ x ∈ l, 0 ≤ x ∧ x < 256) : cP x l m = l := by
  unfold cP
  rw [if_pos hx, ← hl, bytesOf_num l bl]

theorem cP_1 {x : Int} {l m : List Int} (hx : ¬ x % 2 = 0) (hl : m.length = 32) (bl : ∀ x ∈ m, 0 ≤ x ∧ x < 256) : cP x l m = m := by
  unfold cP
  rw [if_neg hx, ← hl, bytesOf_num m bl]

theorem pick_ok : FnOk Tryd.prog gl 34 fPick := by
  refine fnOk_plain (C := mk []) (mk_ok (by simp)) Tryd.func34 (by kernel_rfl) rfl (fun args mem r hr _ => ?_)
  unfold fPick at hr
  split at hr
  · rename_i x k l k' m
    split at hr
    · rename_i hc
      simp only [Bool.and_eq_true] at hc
      have e0 := of_decide_eq_true hc.1.1.1
      have e1 := of_decide_eq_true hc.1.1.2
      have hl := Nat.eq_of_beq_eq_true hc.1.2
      have hm := Nat.eq_of_beq_eq_true hc.2
      subst e0 e1
      simp only [Option.some.injEq] at hr
      subst hr
      refine ⟨rfl, rfl, rfl, beq_le (by kernel_rfl), fun hw => ⟨900, [], ?_, Holds.nil⟩⟩
      have run := pick_run x l m
      rw [tab_eq 32 l hl, tab_eq 32 m hm] at run
      have hx := wf_u8.1 (hw (.int .u8 x) (by simp))
      have bl : ∀ x ∈ l, 0 ≤ x ∧ x < 256 := fun y hy => wf_u8.1 (hw (.agg .u8 l) (by simp) y hy)
      have bm : ∀ x ∈ m, 0 ≤ x ∧ x < 256 := fun y hy => wf_u8.1 (hw (.agg .u8 m) (by simp) y hy)
      rw [run, maskR_eq x hx]
      by_cases h2 : x % 2 = 0
      · rw [if_pos h2, pickR_0 l m (by omega) bl bm, cP_0 h2 hl bl]
      · rw [if_neg h2, pickR_1 l m (by omega) bl bm, cP_1 h2 hm bm]
    · cases hr
  · cases hr
end Go.Proofs.YtechbdggjfahhaaDoor.Sx
