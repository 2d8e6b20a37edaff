/-
  The laws of tags.
-/
import Derived.Test.YtbdmahidobjaoaaDoorPolyRef
import Derived.Test.YtbdmahidobjaoaaDoorPolySame
namespace Go.Proofs.YtbdmahidobjaoaaDoor.Sx
open Go
set_option maxRecDepth 100000

noncomputable abbrev polyLF : List (FuncId × (List A → List Blk → Option Res)) :=
  [(33, fSum), (35, fSame), (34, fSumF), (23, fTrim), (29, fLow)]
theorem polyLF_ok : ∀ p ∈ polyLF, FnOk Tryd.prog gl p.1 p.2 := by
  intro p hp
  simp only [polyLF, List.mem_cons, List.not_mem_nil, or_false] at hp
  rcases hp with rfl | rfl | rfl | rfl | rfl
  · exact sum_ok
  · exact same_ok
  · exact sumF_ok
  · exact trimRef_ok
  · exact lowRef_ok

/-! ### The examples -/

def exKey : List Int := [0x85, 0xd6, 0xbe, 0x78, 0x57, 0x55, 0x6d, 0x33, 0x7f, 0x44, 0x52, 0xfe, 0x42, 0xd5, 0x06, 0xa8, 0x01, 0x03, 0x80, 0x8a, 0xfb, 0x0d, 0xb2, 0xfd, 0x4a, 0xbf, 0xf6, 0xaf, 0x41, 0x49, 0xf5, 0x1b]
def exTag : List Int := [0xa8, 0x06, 0x1d, 0xc1, 0x30, 0x51, 0x36, 0xc6, 0xc2, 0x2b, 0x8b, 0xaf, 0x0c, 0x01, 0x27, 0xa9]
def exText : List Int := [67, 114, 121, 112, 116, 111, 103, 114, 97, 112, 104, 105, 99, 32, 70, 111, 114, 117, 109, 32, 82, 101, 115, 101, 97, 114, 99, 104, 32, 71, 114, 111, 117, 112]

theorem ex1 : sumP exKey exText = exTag := by decide +kernel
theorem ex2 : sumP (List.replicate 32 0) [97, 110, 121] = List.replicate 16 0 := by decide +kernel

def hintE (t : Tmp) : Option Bool :=
  match t with
  | 10 => some true
  | 17 => some true
  | 22 => some true
  | 27 => some false
  | _ => none

theorem shown5_run : plainRun (mkh hintE polyLF) Tryd.f32 300 [] =
    some (.bool true, [0 + 34 ≤ exText.length ∧ 1 ≤ 34, decide (sumP exKey exText = exTag) = true, 0 + 3 ≤ [97, 110, 121].length ∧ 1 ≤ 3, decide (sumP (List.replicate 32 0) [97, 110, 121] = List.replicate 16 0) = true]) := by kernel_rfl

theorem shown5_ok : FnOk Tryd.prog gl 32 (FC (.bool true)) :=
  fnOk_FC (C := mkh hintE polyLF) (mkh_ok polyLF_ok) Tryd.func32 (by kernel_rfl) rfl shown5_run (by
    intro p hp
    simp only [List.mem_cons, List.not_mem_nil, or_false] at hp
    rcases hp with rfl | rfl | rfl | rfl
    · decide
    · exact decide_eq_true ex1
    · decide
    · exact decide_eq_true ex2)

noncomputable abbrev polyWF : List (FuncId × (List A → List Blk → Option Res)) := (32, FC (.bool true)) :: polyLF
theorem polyWF_ok : ∀ p ∈ polyWF, FnOk Tryd.prog gl p.1 p.2 := by
  intro p hp
  rcases List.mem_cons.1 hp with rfl | hp
  · exact shown5_ok
  exact polyLF_ok p hp

/-! ### Same -/

def hint2 (a b : Nat) (t : Tmp) : Option Bool :=
  match Nat.beq t a || Nat.beq t b with
  | true => some true
  | false => none

theorem polySame_run (l m : List Int) : plainRun (mkh (hint2 15 15) polyWF) Tryd.f15 300 [.agg .u8 (tab 16 l), .agg .u8 (tab 16 m)] =
    some (.bool (decide (tab 16 l = tab 16 l)), [(decide (tab 16 l = tab 16 m) == decide (tab 16 l = tab 16 m)) = true]) := by kernel_rfl

theorem polySame_ok : FnOk Tryd.prog gl 15 (FT [16, 16]) := by
  refine fnOk_FT (C := mkh (hint2 15 15) polyWF) (mkh_ok polyWF_ok) Tryd.func15 (by kernel_rfl) rfl (by kernel_rfl) (fun ls h _ => ?_)
  obtain ⟨l, m, rfl, hl, hm⟩ := map2 h
  have run := polySame_run l m
  rw [tab_eq 16 l hl, tab_eq 16 m hm, decide_eq_true (rfl : l = l)] at run
  exact ⟨300, _, run, Holds.one (beq_self_eq_true _)⟩

/-! ### Laws of a key and a text -/

/-- A law of an array and a slice that is not too long: true. -/
def FASB1 (n : Nat) : List A → List Blk → Option Res
  | [.agg k l, .slc i 0 m c], [b] => match decide (k = .u8) && Nat.beq l.length n && Nat.beq i 1 && Nat.beq m b.l.length && Nat.beq c m && Nat.ble 1 m && decide (b.k = .u8) && !b.rw && Nat.ble m 281474976710656 with
    | true => some ⟨.bool true, [none], none, []⟩
    | false => none
  | _, _ => none
def FASB0 (n : Nat) : List A → List Blk → Option Res
  | [.agg k l, .slc 0 0 0 0], [] => match decide (k = .u8) && Nat.beq l.length n with
    | true => some ⟨.bool true, [], none, []⟩
    | false => none
  | _, _ => none
def FASB (n : Nat) (args : List A) (mem : List Blk) : Option Res :=
  match FASB1 n args mem with
  | some r => some r
  | none => FASB0 n args mem

theorem fasb1_run {C : Ctx} (hC : C.Ok) (hP : C.P = Tryd.prog) (hgl : C.gl = gl) {f : FuncId} {fn : Func} {c : Code} {n : Nat} (hf : Tryd.prog.funcs[f]? = some fn) (hname : (fn.name == "runtime.NumGoroutine") = false) (hb : fn.body = some c) (ht : Nat.ble 2 fn.ntmps = true)
    (h : ∀ (l x : List Int) (t : TypeId), l.length = n → 1 ≤ x.length → x.length ≤ 281474976710656 → (∀ y ∈ l, wf .u8 y) → (∀ y ∈ x, wf .u8 y) → ∃ fuel ob, callRes C fn fuel [.agg .u8 l, .slc 1 0 x.length x.length] [⟨.u8, t, x, false⟩] = some ⟨.bool true, [some ⟨.u8, t, x, false⟩], none, ob⟩ ∧ Holds ob) : FnOk Tryd.prog gl f (FASB1 n) := by
  rw [← hP, ← hgl]
  refine fnOk_run hC (by rw [hP]; exact hf) hname hb (fun args mem r hr _ => ?_)
  unfold FASB1 at hr
  split at hr
  · rename_i k l i m c b
    split at hr
    · rename_i hc
      simp only [Option.some.injEq] at hr
      subst hr
      simp only [Bool.and_eq_true] at hc
      obtain ⟨⟨⟨⟨⟨⟨⟨⟨hk, hl⟩, hi⟩, hm⟩, hcm⟩, h1⟩, hbk⟩, hrw⟩, hlim⟩ := hc
      have hk' := of_decide_eq_true hk
      have hl' := Nat.eq_of_beq_eq_true hl
      have hi' := Nat.eq_of_beq_eq_true hi
      have hm' := Nat.eq_of_beq_eq_true hm
      have hc' := Nat.eq_of_beq_eq_true hcm
      have hbk' := of_decide_eq_true hbk
      have hlim' := Nat.le_of_ble_eq_true hlim
      obtain ⟨kb, t, x, rw⟩ := b
      simp only at hbk' hm' hrw
      subst hk' hi' hc' hm' hbk'
      have hrw' : rw = false := by cases rw <;> simp_all
      subst hrw'
      refine ⟨beq_le ht, fun j b hj => ?_, fun b hb => (by cases hb), fun hw hw' => ?_⟩
      · match j, hj with
        | 0, hj => simp at hj
        | j + 1, hj => simp at hj
      · obtain ⟨fuel, ob, hr, hob⟩ := h l x t hl' (beq_le h1) hlim' (hw (.agg .u8 l) (by simp)) (hw' ⟨.u8, t, x, false⟩ (by simp))
        refine ⟨fuel, _, hr, hob, ⟨rfl, rfl, fun j hj => ?_⟩⟩
        match j, hj with
        | 0, hj => rfl
        | j + 1, hj => simp at hj
    · cases hr
  · cases hr

theorem fasb0_run {C : Ctx} (hC : C.Ok) (hP : C.P = Tryd.prog) (hgl : C.gl = gl) {f : FuncId} {fn : Func} {c : Code} {n : Nat} (hf : Tryd.prog.funcs[f]? = some fn) (hname : (fn.name == "runtime.NumGoroutine") = false) (hb : fn.body = some c) (ht : Nat.ble 2 fn.ntmps = true)
    (h0 : ∀ l : List Int, l.length = n → (∀ y ∈ l, wf .u8 y) → ∃ fuel ob, callRes C fn fuel [.agg .u8 l, .slc 0 0 0 0] [] = some ⟨.bool true, [], none, ob⟩ ∧ Holds ob) : FnOk Tryd.prog gl f (FASB0 n) := by
  rw [← hP, ← hgl]
  refine fnOk_run hC (by rw [hP]; exact hf) hname hb (fun args mem r hr _ => ?_)
  unfold FASB0 at hr
  split at hr
  · rename_i k l
    split at hr
    · rename_i hc
      simp only [Option.some.injEq] at hr
      subst hr
      simp only [Bool.and_eq_true] at hc
      have hk' := of_decide_eq_true hc.1
      have hl' := Nat.eq_of_beq_eq_true hc.2
      subst hk'
      refine ⟨beq_le ht, fun j b hj => (by simp at hj), fun b hb => (by cases hb), fun hw _ => ?_⟩
      obtain ⟨fuel, ob, hr, hob⟩ := h0 l hl' (hw (.agg .u8 l) (by simp))
      exact ⟨fuel, _, hr, hob, ⟨rfl, rfl, fun j hj => by simp at hj⟩⟩
    · cases hr
  · cases hr

theorem fasb_run {C C' : Ctx} (hC : C.Ok) (hC' : C'.Ok) (hP : C.P = Tryd.prog) (hgl : C.gl = gl) (hP' : C'.P = Tryd.prog) (hgl' : C'.gl = gl) {f : FuncId} {fn : Func} {c : Code} {n : Nat} (hf : Tryd.prog.funcs[f]? = some fn) (hname : (fn.name == "runtime.NumGoroutine") = false) (hb : fn.body = some c) (ht : Nat.ble 2 fn.ntmps = true)
    (h0 : ∀ l : List Int, l.length = n → (∀ y ∈ l, wf .u8 y) → ∃ fuel ob, callRes C' fn fuel [.agg .u8 l, .slc 0 0 0 0] [] = some ⟨.bool true, [], none, ob⟩ ∧ Holds ob)
    (h : ∀ (l x : List Int) (t : TypeId), l.length = n → 1 ≤ x.length → x.length ≤ 281474976710656 → (∀ y ∈ l, wf .u8 y) → (∀ y ∈ x, wf .u8 y) → ∃ fuel ob, callRes C fn fuel [.agg .u8 l, .slc 1 0 x.length x.length] [⟨.u8, t, x, false⟩] = some ⟨.bool true, [some ⟨.u8, t, x, false⟩], none, ob⟩ ∧ Holds ob) : FnOk Tryd.prog gl f (FASB n) := by
  have h1 := fasb1_run hC hP hgl hf hname hb ht h
  have h2 := fasb0_run hC' hP' hgl' hf hname hb ht h0
  refine ⟨h1.1, fun args mem r hr hob => ?_⟩
  unfold FASB at hr
  split at hr
  · rename_i r' e
    simp only [Option.some.injEq] at hr
    subst hr
    exact h1.2 _ _ _ e hob
  · exact h2.2 _ _ _ hr hob

theorem sub_all (x : List Int) : sub x 0 x.length = x := by rw [sub_eq, List.drop_zero, List.take_length]

/-! ### Sums -/

def hintsY (_ : Tmp) : Option Bool := some true

theorem polySums_run0 (l : List Int) : callRes (mkh (hint2 19 26) polyWF) Tryd.f14 300 [.agg .u8 (tab 32 l), .slc 0 0 0 0] [] =
    some ⟨.bool true, [], none, [decide (sumP (tab 32 l) [] = sumP (tab 32 l) []) = true, ((baOf []).toList == (baOf []).toList) = true]⟩ := by kernel_rfl

theorem polySums_run (l x : List Int) (n : Nat) (t : TypeId) : callRes (mkh hintsY polyWF) Tryd.f14 300 [.agg .u8 (tab 32 l), .slc 1 0 n n] [⟨.u8, t, x, false⟩] =
    some ⟨.bool true, [some ⟨.u8, t, x, false⟩], none, [0 + n ≤ x.length ∧ 1 ≤ n ∧ n * 1 ≤ 281474976710656 ∧ n < 9223372036854775808, 0 + n ≤ (sub x 0 n).length ∧ 1 ≤ n, n = x.length ∧ n = n ∧ false = false ∧ n ≤ 281474976710656,
      decide (sumP (tab 32 l) (sub (sub x 0 n) 0 n) = sumP (tab 32 l) (sub x 0 n)) = true, 0 + n ≤ (sub x 0 n).length ∧ 1 ≤ n, 0 + n ≤ x.length ∧ 1 ≤ n, ((baOf (sub (sub x 0 n) 0 n)).toList == (baOf (sub x 0 n)).toList) = true]⟩ := by kernel_rfl

theorem polySums_ok : FnOk Tryd.prog gl 14 (FASB 32) := by
  refine fasb_run (C := mkh hintsY polyWF) (C' := mkh (hint2 19 26) polyWF) (mkh_ok polyWF_ok) (mkh_ok polyWF_ok) rfl rfl rfl rfl Tryd.func14 (by kernel_rfl) rfl (by kernel_rfl) (fun l hl hw => ?_) (fun l x t hl hx hx' hw _ => ?_)
  · have run := polySums_run0 l
    rw [tab_eq 32 l hl] at run
    refine ⟨300, _, run, fun p hp => ?_⟩
    simp only [List.mem_cons, List.not_mem_nil, or_false] at hp
    rcases hp with rfl | rfl
    · exact dT trivial
    · exact beq_self_eq_true _
  · have run := polySums_run l x x.length t
    rw [tab_eq 32 l hl, sub_all, sub_all] at run
    refine ⟨300, _, run, fun p hp => ?_⟩
    simp only [List.mem_cons, List.not_mem_nil, or_false] at hp
    rcases hp with rfl | rfl | rfl | rfl | rfl | rfl | rfl
    · exact ⟨by omega, hx, by omega, by omega⟩
    · exact ⟨by omega, hx⟩
    · exact ⟨trivial, trivial, trivial, hx'⟩
    · exact dT trivial
    · exact ⟨by omega, hx⟩
    · exact ⟨by omega, hx⟩
    · exact beq_self_eq_true _

/-! ### Trims -/

theorem polyTrims_run0 (l : List Int) : callRes (mkh (hint2 46 55) polyWF) Tryd.f16 600 [.agg .u8 (tab 32 l), .slc 0 0 0 0] [] =
    some ⟨.bool true, [], none, [decide (sumP (tab 32 l) [] = (tab 32 l).drop 16) = true, decide (sumP (trimL ((tab 32 l).take 16) ++ (tab 32 l).drop 16) [] = sumP (tab 32 l) []) = true]⟩ := by kernel_rfl

theorem polyTrims_run (l x : List Int) (n : Nat) (t : TypeId) : callRes (mkh (hint2 46 55) polyWF) Tryd.f16 600 [.agg .u8 (tab 32 l), .slc 1 0 n n] [⟨.u8, t, x, false⟩] =
    some ⟨.bool true, [some ⟨.u8, t, x, false⟩], none, [decide (sumP (tab 32 l) [] = (tab 32 l).drop 16) = true, 0 + n ≤ x.length ∧ 1 ≤ n, 0 + n ≤ x.length ∧ 1 ≤ n, decide (sumP (trimL ((tab 32 l).take 16) ++ (tab 32 l).drop 16) (sub x 0 n) = sumP (tab 32 l) (sub x 0 n)) = true]⟩ := by kernel_rfl

theorem num_lt16 {l : List Int} (h : ∀ x ∈ l, 0 ≤ x ∧ x < 256) (hl : l.length = 16) : 0 ≤ num l ∧ num l < 340282366920938463463374607431768211456 := by
  have e := bytesOf_num l h
  rw [hl] at e
  have e2 := num_bytesOf 16 (num l)
  rw [e, show (256 : Int) ^ 16 = 340282366920938463463374607431768211456 by decide] at e2
  omega

theorem wf_drop16 {l : List Int} (hl : l.length = 32) (hw : ∀ y ∈ l, wf .u8 y) : (∀ y ∈ l.drop 16, 0 ≤ y ∧ y < 256) ∧ (l.drop 16).length = 16 :=
  ⟨fun y hy => wf_u8.1 (hw y (List.mem_of_mem_drop hy)), by rw [List.length_drop]; omega⟩

theorem trims_nil {l : List Int} (hl : l.length = 32) (hw : ∀ y ∈ l, wf .u8 y) : sumP l [] = l.drop 16 := by
  obtain ⟨hb, hd⟩ := wf_drop16 hl hw
  have e := bytesOf_num (l.drop 16) hb
  rw [hd] at e
  unfold sumP
  rw [polyV_nil, show (0 : Int) % q130 + num (l.drop 16) = num (l.drop 16) by rw [Int.zero_emod, Int.zero_add]]
  exact e

theorem trims_same {l : List Int} (hl : l.length = 32) (hw : ∀ y ∈ l, wf .u8 y) (x : List Int) : sumP (trimL (l.take 16) ++ l.drop 16) x = sumP l x := by
  have ht : (l.take 16).length = 16 := by rw [List.length_take]; omega
  have h16 : (trimL (l.take 16)).length = 16 := by
    obtain ⟨b0, b1, b2, b3, b4, b5, b6, b7, b8, b9, b10, b11, b12, b13, b14, b15, e⟩ := list16 ht
    rw [e]; rfl
  unfold sumP
  rw [List.take_left' h16, List.drop_left' h16, trimL_twice _ ht (fun x hx => hw x (List.mem_of_mem_take hx))]

theorem polyTrims_ok : FnOk Tryd.prog gl 16 (FASB 32) := by
  refine fasb_run (C := mkh (hint2 46 55) polyWF) (C' := mkh (hint2 46 55) polyWF) (mkh_ok polyWF_ok) (mkh_ok polyWF_ok) rfl rfl rfl rfl Tryd.func16 (by kernel_rfl) rfl (by kernel_rfl) (fun l hl hw => ?_) (fun l x t hl hx hx' hw _ => ?_)
  · have run := polyTrims_run0 l
    rw [tab_eq 32 l hl] at run
    refine ⟨600, _, run, fun p hp => ?_⟩
    simp only [List.mem_cons, List.not_mem_nil, or_false] at hp
    rcases hp with rfl | rfl
    · exact decide_eq_true (trims_nil hl hw)
    · exact decide_eq_true (trims_same hl hw _)
  · have run := polyTrims_run l x x.length t
    rw [tab_eq 32 l hl, sub_all] at run
    refine ⟨600, _, run, fun p hp => ?_⟩
    simp only [List.mem_cons, List.not_mem_nil, or_false] at hp
    rcases hp with rfl | rfl | rfl | rfl
    · exact decide_eq_true (trims_nil hl hw)
    · exact ⟨by omega, hx⟩
    · exact ⟨by omega, hx⟩
    · exact decide_eq_true (trims_same hl hw _)

/-! ### Halves -/

/-- A key whose second half is noughts. -/
def bareK (l : List Int) : List Int := l.take 16 ++ List.replicate 16 0
/-- The tag of the whole key, by the tag of the bare one. -/
def halfV (l x : List Int) : List Int := bytesOf 16 (num (sumP (bareK l) x ++ [0]) % q130 + num (l.drop 16))

theorem polyHalves_run0 (l : List Int) : callRes (mkh (hint2 49 49) polyWF) Tryd.f18 600 [.agg .u8 (tab 32 l), .slc 0 0 0 0] [] =
    some ⟨.bool true, [], none, [decide (sumP (tab 32 l) [] = halfV (tab 32 l) []) = true]⟩ := by kernel_rfl

theorem polyHalves_run (l x : List Int) (n : Nat) (t : TypeId) : callRes (mkh (hint2 49 49) polyWF) Tryd.f18 600 [.agg .u8 (tab 32 l), .slc 1 0 n n] [⟨.u8, t, x, false⟩] =
    some ⟨.bool true, [some ⟨.u8, t, x, false⟩], none, [0 + n ≤ x.length ∧ 1 ≤ n, 0 + n ≤ x.length ∧ 1 ≤ n, decide (sumP (tab 32 l) (sub x 0 n) = halfV (tab 32 l) (sub x 0 n)) = true]⟩ := by kernel_rfl

theorem polyV_range (r : Int) (x : List Int) : 0 ≤ polyV r x 0 ∧ polyV r x 0 < q130 := by
  have go : ∀ (n : Nat) (x : List Int) (a : Int), 0 ≤ a ∧ a < q130 → 0 ≤ polyGo r n x a ∧ polyGo r n x a < q130 := by
    intro n
    induction n with
    | zero => intro x a h; exact h
    | succ n ih =>
      intro x a h
      match x with
      | [] => exact h
      | y :: x => exact ih _ _ (stepP_range r a _)
  exact go x.length x 0 (by decide)

theorem bytesOf_mod (n : Nat) (a b : Int) (h : a % 256 ^ n = b % 256 ^ n) : bytesOf n a = bytesOf n b := by
  have e1 := bytesOf_num (bytesOf n a) (bytesOf_range n a)
  have e2 := bytesOf_num (bytesOf n b) (bytesOf_range n b)
  rw [bytesOf_length, num_bytesOf] at e1 e2
  rw [← e1, ← e2, h]

theorem halves_same {l : List Int} (hl : l.length = 32) (x : List Int) : sumP l x = halfV l x := by
  have ht : (l.take 16).length = 16 := by rw [List.length_take]; omega
  have hz : num (List.replicate 16 0) = 0 := by decide
  unfold halfV sumP bareK
  rw [List.take_left' ht, List.drop_left' ht, hz, Int.add_zero, num_append, num_bytesOf, show num [0] = 0 by decide, Int.mul_zero, Int.add_zero]
  generalize hV : polyV (num (trimL (l.take 16))) x 0 = V
  have hr := polyV_range (num (trimL (l.take 16))) x
  rw [hV] at hr
  rw [Int.emod_eq_of_lt hr.1 hr.2]
  apply bytesOf_mod
  rw [show (256 : Int) ^ 16 = 340282366920938463463374607431768211456 by decide]
  unfold q130 at hr ⊢
  omega

theorem polyHalves_ok : FnOk Tryd.prog gl 18 (FASB 32) := by
  refine fasb_run (C := mkh (hint2 49 49) polyWF) (C' := mkh (hint2 49 49) polyWF) (mkh_ok polyWF_ok) (mkh_ok polyWF_ok) rfl rfl rfl rfl Tryd.func18 (by kernel_rfl) rfl (by kernel_rfl) (fun l hl hw => ?_) (fun l x t hl hx hx' hw _ => ?_)
  · have run := polyHalves_run0 l
    rw [tab_eq 32 l hl] at run
    exact ⟨600, _, run, Holds.one (decide_eq_true (halves_same hl _))⟩
  · have run := polyHalves_run l x x.length t
    rw [tab_eq 32 l hl, sub_all] at run
    refine ⟨600, _, run, fun p hp => ?_⟩
    simp only [List.mem_cons, List.not_mem_nil, or_false] at hp
    rcases hp with rfl | rfl | rfl
    · exact ⟨by omega, hx⟩
    · exact ⟨by omega, hx⟩
    · exact decide_eq_true (halves_same hl _)

end Go.Proofs.YtbdmahidobjaoaaDoor.Sx
