/-
  The contracts of ladder's Trim and swap and of the document's Trim; secrets and points as numbers.
-/
import Derived.Test.YtechbdggjfahhaaDoorCurveEq
import Derived.Test.YtechbdggjfahhaaDoorCurveRefC
import Derived.Test.YtechbdggjfahhaaDoorEdwBase
namespace Go.Proofs.YtechbdggjfahhaaDoor.Sx
open Go
set_option maxRecDepth 100000

/-! ### Bytes -/

theorem byte_248 : ∀ i : Fin 256, bits .and .u8 (i.val : Int) 248 = (i.val : Int) - (i.val : Int) % 8 := by decide +kernel
theorem byte_not7 : ∀ i : Fin 256, bits .andNot .u8 (i.val : Int) 7 = (i.val : Int) - (i.val : Int) % 8 := by decide +kernel
theorem byte_top : ∀ i : Fin 256, bits .or .u8 (bits .and .u8 (i.val : Int) 127) 64 = (i.val : Int) % 64 + 64 := by decide +kernel
theorem byte_127 : ∀ i : Fin 256, bits .and .u8 (i.val : Int) 127 = (i.val : Int) % 128 := by decide +kernel
theorem byte_128 : ∀ i : Fin 256, bits .and .u8 (bits .xor .u8 (i.val : Int) 128) 127 = (i.val : Int) % 128 := by decide +kernel

theorem byteF {x : Int} (h : 0 ≤ x ∧ x < 256) : ∃ i : Fin 256, x = (i.val : Int) :=
  ⟨⟨x.toNat, by omega⟩, by simp only; omega⟩

theorem num_dnum : ∀ l : List Int, num l = dnum 8 l
  | [] => rfl
  | x :: l => by rw [num, dnum, num_dnum l, show (2 : Int) ^ 8 = 256 by decide]

theorem num_set (l : List Int) (n : Nat) (v : Int) (h : n < l.length) : num (l.set n v) = num l + 256 ^ n * (v - l.getD n 0) := by
  rw [num_dnum, num_dnum, dnum_set 8 l n v h, ← pow256]

theorem mem_getD {l : List Int} (hb : ∀ x ∈ l, 0 ≤ x ∧ x < 256) (n : Nat) (h : n < l.length) : 0 ≤ l.getD n 0 ∧ l.getD n 0 < 256 := hb _ (getD_mem h)

theorem set_bytes {l : List Int} (hb : ∀ x ∈ l, 0 ≤ x ∧ x < 256) (n : Nat) (v : Int) (hv : 0 ≤ v ∧ v < 256) : ∀ x ∈ l.set n v, 0 ≤ x ∧ x < 256 := fun x hx => by
  rcases List.mem_or_eq_of_mem_set hx with hx | rfl
  · exact hb x hx
  · exact hv

/-- A number's lowest byte, and its highest one of 32. -/
theorem num_ends {l : List Int} (hl : l.length = 32) (hb : ∀ x ∈ l, 0 ≤ x ∧ x < 256) :
    num l % 256 = l.getD 0 0 ∧ ∃ r, 0 ≤ r ∧ r < 452312848583266388373324160190187140051835877600158453279131187530910662656 ∧ num l = r + 452312848583266388373324160190187140051835877600158453279131187530910662656 * l.getD 31 0 := by
  refine ⟨?_, num (l.take 31), ?_⟩
  · match l, hl with
    | x :: l, _ =>
      have := hb x (by simp)
      show (x + 256 * num l) % 256 = x
      omega
  · have hr := num_range (l.take 31) (fun x hx => hb x (List.mem_of_mem_take hx))
    rw [List.length_take, show min 31 l.length = 31 by omega, show (256 : Int) ^ 31 = 452312848583266388373324160190187140051835877600158453279131187530910662656 by decide] at hr
    refine ⟨hr.1, hr.2, ?_⟩
    have := dnum_take_succ 8 l 31 (by omega)
    rw [← num_dnum, ← num_dnum, List.take_of_length_le (by omega), pow256, show (256 : Int) ^ 31 = 452312848583266388373324160190187140051835877600158453279131187530910662656 by decide] at this
    exact this

/-! ### Trim -/

def trimB (l : List Int) : List Int := (l.set 0 (l.getD 0 0 - l.getD 0 0 % 8)).set 31 (l.getD 31 0 % 64 + 64)

/-- A secret's number as it is used. -/
def tkN (n : Int) : Int := n % 28948022309329048855892746252171976963317496166410141009864396001978282409984 - n % 8 + 28948022309329048855892746252171976963317496166410141009864396001978282409984

theorem trimB_length (l : List Int) : (trimB l).length = l.length := by simp [trimB]

theorem trimB_bytes {l : List Int} (hl : l.length = 32) (hb : ∀ x ∈ l, 0 ≤ x ∧ x < 256) : ∀ x ∈ trimB l, 0 ≤ x ∧ x < 256 := by
  have h0 := mem_getD hb 0 (by omega)
  have h31 := mem_getD hb 31 (by omega)
  exact set_bytes (set_bytes hb 0 _ (by omega)) 31 _ (by omega)

theorem num_trimB {l : List Int} (hl : l.length = 32) (hb : ∀ x ∈ l, 0 ≤ x ∧ x < 256) : num (trimB l) = tkN (num l) := by
  have h0 := mem_getD hb 0 (by omega)
  have h31 := mem_getD hb 31 (by omega)
  obtain ⟨e0, r, r0, r1, e⟩ := num_ends hl hb
  unfold trimB tkN
  have hg : (l.set 0 (l.getD 0 0 - l.getD 0 0 % 8)).getD 31 0 = l.getD 31 0 := by
    rw [List.getD, List.getElem?_set_ne (by decide), List.getD]
  rw [num_set _ 31 _ (by rw [List.length_set]; omega), num_set _ 0 _ (by omega), hg, Int.pow_zero, show (256 : Int) ^ 31 = 452312848583266388373324160190187140051835877600158453279131187530910662656 by decide]
  generalize l.getD 0 0 = a at *
  generalize l.getD 31 0 = b at *
  generalize num l = n at *
  omega

theorem tkN_trimmed (n : Int) : ∃ K : Nat, tkN n = (K : Int) ∧ Trimmed K := by
  have h : 28948022309329048855892746252171976963317496166410141009864396001978282409984 ≤ tkN n ∧ tkN n < 57896044618658097711785492504343953926634992332820282019728792003956564819968 ∧ tkN n % 8 = 0 := by
    unfold tkN; omega
  obtain ⟨K, hK⟩ := Int.eq_ofNat_of_zero_le (show 0 ≤ tkN n by omega)
  rw [hK] at h
  have p255 : (2 : Nat) ^ 255 = 57896044618658097711785492504343953926634992332820282019728792003956564819968 := by decide
  have p254 : (2 : Nat) ^ 254 = 28948022309329048855892746252171976963317496166410141009864396001978282409984 := by decide
  exact ⟨K, hK, by omega, by omega, by omega⟩

def fTrim : List A → List Blk → Option Res := F1 .u8 .u8 32 trimB

def trimR (l : List Int) : List Int := (l.set 0 (bits .and .u8 (l.getD 0 0) 248)).set 31 (bits .or .u8 (bits .and .u8 (l.getD 31 0) 127) 64)
def trimR' (l : List Int) : List Int := (l.set 0 (bits .andNot .u8 (l.getD 0 0) 7)).set 31 (bits .or .u8 (bits .and .u8 (l.getD 31 0) 127) 64)

theorem trim_run (l : List Int) : plainRun (mk []) Tryd.f12 300 [.agg .u8 (tab 32 l)] = some (.agg .u8 (trimR (tab 32 l)), []) := by kernel_rfl
theorem rtrim_run (l : List Int) : plainRun (mk []) Tryd.f13 300 [.agg .u8 (tab 32 l)] = some (.agg .u8 (trimR' (tab 32 l)), []) := by kernel_rfl

theorem trim_ok : FnOk Tryd.prog gl 12 fTrim := by
  refine fnOk_F1 (C := mk []) (mk_ok (by simp)) Tryd.func12 (by kernel_rfl) rfl (by kernel_rfl) (fun l hl hw => ?_)
  have run := trim_run l
  rw [tab_eq 32 l hl] at run
  refine ⟨300, _, run, ?_⟩
  have hb : ∀ x ∈ l, 0 ≤ x ∧ x < 256 := fun x hx => wf_u8.1 (hw x hx)
  obtain ⟨i, hi⟩ := byteF (mem_getD hb 0 (by omega))
  obtain ⟨j, hj⟩ := byteF (mem_getD hb 31 (by omega))
  unfold trimR trimB
  rw [hi, hj, byte_248, byte_top]

theorem rtrim_ok : FnOk Tryd.prog gl 13 fTrim := by
  refine fnOk_F1 (C := mk []) (mk_ok (by simp)) Tryd.func13 (by kernel_rfl) rfl (by kernel_rfl) (fun l hl hw => ?_)
  have run := rtrim_run l
  rw [tab_eq 32 l hl] at run
  refine ⟨300, _, run, ?_⟩
  have hb : ∀ x ∈ l, 0 ≤ x ∧ x < 256 := fun x hx => wf_u8.1 (hw x hx)
  obtain ⟨i, hi⟩ := byteF (mem_getD hb 0 (by omega))
  obtain ⟨j, hj⟩ := byteF (mem_getD hb 31 (by omega))
  unfold trimR' trimB
  rw [hi, hj, byte_not7, byte_top]

/-! ### A point without its highest bit -/

def maskU (l : List Int) : List Int := l.set 31 (bits .and .u8 (l.getD 31 0) 127)

theorem maskU_length (l : List Int) : (maskU l).length = l.length := by simp [maskU]

theorem maskU_bytes {l : List Int} (hb : ∀ x ∈ l, 0 ≤ x ∧ x < 256) : ∀ x ∈ maskU l, 0 ≤ x ∧ x < 256 := set_bytes hb 31 _ (bits_byte _ _ _)

theorem num_maskU {l : List Int} (hl : l.length = 32) (hb : ∀ x ∈ l, 0 ≤ x ∧ x < 256) : num (maskU l) = num l % 57896044618658097711785492504343953926634992332820282019728792003956564819968 := by
  have h31 := mem_getD hb 31 (by omega)
  obtain ⟨e0, r, r0, r1, e⟩ := num_ends hl hb
  obtain ⟨j, hj⟩ := byteF h31
  unfold maskU
  rw [num_set _ 31 _ (by omega), show (256 : Int) ^ 31 = 452312848583266388373324160190187140051835877600158453279131187530910662656 by decide]
  have e127 : bits .and .u8 (l.getD 31 0) 127 = l.getD 31 0 % 128 := by rw [hj]; exact byte_127 j
  rw [e127]
  generalize l.getD 31 0 = b at *
  generalize num l = n at *
  omega

/-! ### swap -/

def fSwap : List A → List Blk → Option Res
  | [.int .u8 x, .agg k l, .agg k' m], [] => match decide (k = .u8) && decide (k' = .u8) && Nat.beq l.length 32 && Nat.beq m.length 32 with
    | true => some ⟨.pair (.agg .u8 (cP x l m)) (.agg .u8 (cP x m l)), [], none, []⟩
    | false => none
  | _, _ => none

theorem swap_run (x : Int) (l m : List Int) : plainRun (mk [(34, fPick)]) Tryd.f21 300 [.int .u8 x, .agg .u8 (tab 32 l), .agg .u8 (tab 32 m)] = some (.pair (.agg .u8 (cP x (tab 32 l) (tab 32 m))) (.agg .u8 (cP x (tab 32 m) (tab 32 l))), []) := by kernel_rfl

theorem swap_ok : FnOk Tryd.prog gl 21 fSwap := by
  refine fnOk_plain (C := mk [(34, fPick)]) (mk_ok (by intro p hp; rw [List.mem_singleton.1 hp]; exact pick_ok)) Tryd.func21 (by kernel_rfl) rfl (fun args mem r hr _ => ?_)
  unfold fSwap at hr
  split at hr
  · rename_i x k l k' m
    split at hr
    · rename_i hc
      simp only [Bool.and_eq_true] at hc
      have e0 := of_decide_eq_true hc.1.1.1
      have e1 := of_decide_eq_true hc.1.1.2
      have hl := Nat.eq_of_beq_eq_true hc.1.2
      have hm := Nat.eq_of_beq_eq_true hc.2
      subst e0 e1
      simp only [Option.some.injEq] at hr
      subst hr
      have run := swap_run x l m
      rw [tab_eq 32 l hl, tab_eq 32 m hm] at run
      exact ⟨rfl, rfl, rfl, beq_le (by kernel_rfl), fun _ => ⟨300, [], run, Holds.nil⟩⟩
    · cases hr
  · cases hr

/-! ### Four numbers as bytes -/

structure LL where
  x2 : List Int
  z2 : List Int
  x3 : List Int
  z3 : List Int

def smallL : List Int := 65 :: 219 :: 1 :: List.replicate 29 0

def swapLL (x : Int) (s : LL) : LL := ⟨cP x s.x2 s.x3, cP x s.z2 s.z3, cP x s.x3 s.x2, cP x s.z3 s.z2⟩

def stepLL (U : List Int) (s : LL) : LL :=
  let a := cA s.x2 s.z2
  let b := cS s.x2 s.z2
  let da := cM (cS s.x3 s.z3) a
  let cb := cM (cA s.x3 s.z3) b
  let aa := cM a a
  let bb := cM b b
  let e := cS aa bb
  ⟨cM aa bb, cM e (cA aa (cM smallL e)), cM (cA da cb) (cA da cb), cM U (cM (cS da cb) (cS da cb))⟩

def numLL (s : LL) : L4 := ⟨num s.x2, num s.z2, num s.x3, num s.z3⟩

structure OkLL (s : LL) : Prop where
  x2 : s.x2.length = 32 ∧ ∀ x ∈ s.x2, 0 ≤ x ∧ x < 256
  z2 : s.z2.length = 32 ∧ ∀ x ∈ s.z2, 0 ≤ x ∧ x < 256
  x3 : s.x3.length = 32 ∧ ∀ x ∈ s.x3, 0 ≤ x ∧ x < 256
  z3 : s.z3.length = 32 ∧ ∀ x ∈ s.z3, 0 ≤ x ∧ x < 256

theorem ok_bytes (n : Int) : (bytesOf 32 n).length = 32 ∧ ∀ x ∈ bytesOf 32 n, 0 ≤ x ∧ x < 256 := ⟨bytesOf_length _ _, bytesOf_range _ _⟩

theorem ok_step (U : List Int) (s : LL) : OkLL (stepLL U s) := ⟨ok_bytes _, ok_bytes _, ok_bytes _, ok_bytes _⟩

theorem num_small : num smallL = 121665 := by decide

theorem num_step (U : List Int) (s : LL) : numLL (stepLL U s) = stepL (num U) (numLL s) := by
  simp only [numLL, stepLL, stepL, num_cM, num_cA, num_cS, num_small]

theorem num_b32 {l : List Int} (h : l.length = 32 ∧ ∀ x ∈ l, 0 ≤ x ∧ x < 256) : num (bytesOf 32 (num l)) = num l := by
  have := bytesOf_num l h.2
  rw [h.1] at this
  rw [this]

theorem num_cP {x : Int} {l m : List Int} (hl : l.length = 32 ∧ ∀ x ∈ l, 0 ≤ x ∧ x < 256) (hm : m.length = 32 ∧ ∀ x ∈ m, 0 ≤ x ∧ x < 256) : num (cP x l m) = if x % 2 = 0 then num l else num m := by
  unfold cP
  split
  · exact num_b32 hl
  · exact num_b32 hm

theorem num_swap {s : LL} (h : OkLL s) (x : Int) : numLL (swapLL x s) = swapL x (numLL s) := by
  simp only [numLL, swapLL, num_cP h.x2 h.x3, num_cP h.z2 h.z3, num_cP h.x3 h.x2, num_cP h.z3 h.z2]
  unfold swapL
  split <;> rfl

theorem swapL_swapL {a b : Int} (ha : a = 0 ∨ a = 1) (hb : b = 0 ∨ b = 1) (s : L4) : swapL a (swapL b s) = swapL (bits .xor .u8 a b) s := by
  have x00 : bits .xor .u8 0 0 = 0 := by decide
  have x01 : bits .xor .u8 0 1 = 1 := by decide
  have x10 : bits .xor .u8 1 0 = 1 := by decide
  have x11 : bits .xor .u8 1 1 = 0 := by decide
  have e0 : ∀ s : L4, swapL 0 s = s := fun _ => if_pos (by decide)
  have e1 : ∀ s : L4, swapL 1 s = ⟨s.x3, s.z3, s.x2, s.z2⟩ := fun _ => if_neg (by decide)
  rcases ha with rfl | rfl <;> rcases hb with rfl | rfl
  · rw [x00, e0, e0]
  · rw [x01, e0]
  · rw [x10, e0]
  · rw [x11, e0, e1, e1]

/-- A bit of a secret, as its text reckons it. -/
def bitR (K : List Int) (t : Nat) : Int := bits .and .u8 ((K.getD (t / 8) 0).fdiv (2 ^ (t % 8))) 1

theorem bitR_eq {K : List Int} (hK : K.length = 32) (hb : ∀ x ∈ K, 0 ≤ x ∧ x < 256) (t : Nat) (ht : t < 256) : bitR K t = num K / 2 ^ t % 2 := by
  have hl : K = digsOf 8 32 (num K) := by
    rw [← bytesOf_digs, ← hK, bytesOf_num K hb]
  have hget : K.getD (t / 8) 0 = dig 8 (num K) (t / 8) := by
    rw [List.getD]
    conv => lhs; rw [hl]
    rw [digsOf_get 8 32 _ _ (by omega)]
    rfl
  have hr := dig_range 8 (num K) (t / 8)
  rw [show (2 : Int) ^ 8 = 256 by decide] at hr
  have hf : (dig 8 (num K) (t / 8)).fdiv (2 ^ (t % 8)) = dig 8 (num K) (t / 8) / 2 ^ (t % 8) := Int.fdiv_eq_ediv_of_nonneg _ (Int.le_of_lt (pp _))
  have hq0 : 0 ≤ dig 8 (num K) (t / 8) / 2 ^ (t % 8) := Int.ediv_nonneg hr.1 (Int.le_of_lt (pp _))
  have hq1 : dig 8 (num K) (t / 8) / 2 ^ (t % 8) ≤ dig 8 (num K) (t / 8) := Int.ediv_le_self _ hr.1
  have e1 : bits .and .u8 (dig 8 (num K) (t / 8) / 2 ^ (t % 8)) 1 = dig 8 (num K) (t / 8) / 2 ^ (t % 8) % 2 := by
    have := bits_mask .u8 8 (by decide) (fun n a b => by rw [u8w]; exact Int.emod_eq_of_lt a (by simpa using b)) 1 (by decide) _ hq0 (by simp; omega)
    simpa using this
  unfold bitR
  rw [hget, hf, e1, dig_bit 8 (by decide) (num K) t]

theorem bit_01 (n : Int) : n % 2 = 0 ∨ n % 2 = 1 := by omega

def fTimes : List A → List Blk → Option Res := F2 .u8 .u8 .u8 32 32 fun k u => bytesOf 32 (lad (tkN (num k)) (num u % 57896044618658097711785492504343953926634992332820282019728792003956564819968))

end Go.Proofs.YtechbdggjfahhaaDoor.Sx
