/-
  The law Steps: a text of one piece more.
-/
import Derived.Test.YtbdmahidobjaoaaDoorPolyLaw
namespace Go.Proofs.YtbdmahidobjaoaaDoor.Sx
open Go
set_option maxRecDepth 100000

noncomputable abbrev stepsF : List (FuncId × (List A → List Blk → Option Res)) :=
  (22, FSo blkA) :: (31, fAdd) :: (27, fMul) :: polyWF
theorem stepsF_ok : ∀ p ∈ stepsF, FnOk Tryd.prog gl p.1 p.2 := by
  intro p hp
  rcases List.mem_cons.1 hp with rfl | hp
  · exact blockRefO_ok
  rcases List.mem_cons.1 hp with rfl | hp
  · exact addRef_ok
  rcases List.mem_cons.1 hp with rfl | hp
  · exact mulRef_ok
  exact polyWF_ok p hp

/-- 0: no last piece; 1: one of 16 bytes at most; 2: a longer one. -/
def hintQ (c : Nat) (t : Tmp) : Option Bool :=
  match t with
  | 21 => match c with
    | 0 => none
    | 1 => some false
    | _ => some true
  | 23 => some true
  | 62 => match c with
    | 0 => none
    | _ => some true
  | 78 => some false
  | 80 => match c with
    | 0 => none
    | _ => some true
  | 85 => some true
  | _ => none

noncomputable abbrev qC (c : Nat) : Ctx := mkh (hintQ c) stepsF
theorem qC_ok (c : Nat) : (qC c).Ok := mkh_ok stepsF_ok

/-- The value behind the first piece. -/
def one1 (l f : List Int) : Int := num (tab 17 (blk f)) * num (byL l) % q130
def two1 (l f y : List Int) : Int := num (bytesOf 17 ((num (bytesOf 17 (one1 l f)) + num (tab 17 (blk y))) % q130)) * num (byL l) % q130
def lowV (v : Int) : List Int := bytesOf 16 (num (bytesOf 17 v) % q130 + num (List.replicate 16 0))

theorem steps_run0 (l f : List Int) : callRes (qC 0) Tryd.f17 600 [.agg .u8 (tab 32 l), .agg .u8 (tab 16 f), .slc 0 0 0 0] [] =
    some ⟨.bool true, [], none, [0 + 16 ≤ 16 ∧ 1 ≤ 16, 0 + 16 ≤ 16 ∧ 1 ≤ 16 ∧ 16 * 1 ≤ 281474976710656 ∧ 16 < 9223372036854775808, 0 + 16 ≤ 16 ∧ 1 ≤ 16,
      decide (sumP (bareK (tab 32 l)) (tab 16 f) = lowV (one1 (tab 32 l) (tab 16 f))) = true]⟩ := by kernel_rfl

theorem steps_run1 (l f x : List Int) (n : Nat) (t : TypeId) : callRes (qC 1) Tryd.f17 600 [.agg .u8 (tab 32 l), .agg .u8 (tab 16 f), .slc 1 0 n n] [⟨.u8, t, x, false⟩] =
    some ⟨.bool true, [some ⟨.u8, t, x, false⟩], none, [decide ((n : Int) > 16) = false, 0 + 16 ≤ 16 ∧ 1 ≤ 16, decide ((n : Int) > 0) = true, 0 + n ≤ x.length ∧ 1 ≤ n,
      0 + 16 ≤ 16 ∧ 1 ≤ 16 ∧ 16 * 1 ≤ 281474976710656 ∧ 16 < 9223372036854775808, 0 + n * 1 ≤ x.length ∧ 1 ≤ n ∧ 16 = 16 * 1 ∧ (16 + n) * 1 ≤ 140737488355328 ∧ 16 + n < 9223372036854775808,
      0 + (16 + n) ≤ (tab 16 f ++ sub x 0 (n * 1)).length ∧ 1 ≤ 16 + n,
      decide (sumP (bareK (tab 32 l)) (sub (tab 16 f ++ sub x 0 (n * 1)) 0 (16 + n)) = lowV (two1 (tab 32 l) (tab 16 f) (sub x 0 n))) = true]⟩ := by kernel_rfl

theorem steps_run2 (l f x : List Int) (n : Nat) (t : TypeId) : callRes (qC 2) Tryd.f17 600 [.agg .u8 (tab 32 l), .agg .u8 (tab 16 f), .slc 1 0 n n] [⟨.u8, t, x, false⟩] =
    some ⟨.bool true, [some ⟨.u8, t, x, false⟩], none, [decide ((n : Int) > 16) = true, 0 ≤ (0 : Int) ∧ (0 : Int) ≤ 16 ∧ (16 : Int) ≤ (n : Int), 0 + 16 ≤ 16 ∧ 1 ≤ 16, decide (((16 : Nat) : Int) > 0) = true, 0 + 16 ≤ x.length ∧ 1 ≤ 16,
      0 + 16 ≤ 16 ∧ 1 ≤ 16 ∧ 16 * 1 ≤ 281474976710656 ∧ 16 < 9223372036854775808, 0 + 16 * 1 ≤ x.length ∧ 1 ≤ 16 ∧ 16 = 16 * 1 ∧ (16 + 16) * 1 ≤ 140737488355328 ∧ 16 + 16 < 9223372036854775808,
      0 + (16 + 16) ≤ (tab 16 f ++ sub x 0 (16 * 1)).length ∧ 1 ≤ 16 + 16,
      decide (sumP (bareK (tab 32 l)) (sub (tab 16 f ++ sub x 0 (16 * 1)) 0 (16 + 16)) = lowV (two1 (tab 32 l) (tab 16 f) (sub x 0 16))) = true]⟩ := by kernel_rfl

/-! ### The law -/

theorem polyV_two (r : Int) (f y : List Int) (hf : f.length = 16) : polyV r (f ++ y) 0 = polyV r y (stepP r 0 f) := by
  rw [polyV_step r (f ++ y) 0 (by rw [List.length_append]; omega), List.drop_left' hf, List.take_left' hf]

theorem polyV_one (r a : Int) (y : List Int) (h1 : 1 ≤ y.length) (h : y.length ≤ 16) : polyV r y a = stepP r a y := by
  rw [polyV_step r y a h1, List.drop_eq_nil_of_le h, List.take_of_length_le h, polyV_nil]

theorem one1_eq (l f : List Int) : one1 l f = stepP (num (byL l)) 0 f := by
  unfold one1 stepP
  rw [tab_eq 17 _ (blk_length f), Int.zero_add, Int.mul_emod (num (blk f) % q130), Int.emod_emod, ← Int.mul_emod]

theorem two1_eq (l f y : List Int) : two1 l f y = stepP (num (byL l)) (one1 l f) y := by
  have h : 0 ≤ one1 l f ∧ one1 l f < q130 := mod130 _
  unfold two1 stepP
  rw [num_bytes17 _ h, num_q, tab_eq 17 _ (blk_length y)]

theorem sumP_bare {l : List Int} (hl : l.length = 32) (y : List Int) : sumP (bareK l) y = lowV (polyV (num (byL l)) y 0) := by
  have ht : (l.take 16).length = 16 := by rw [List.length_take]; omega
  have hr := polyV_range (num (byL l)) y
  unfold sumP lowV bareK
  rw [List.take_left' ht, List.drop_left' ht, byL_num, num_bytes17 _ (by rw [← byL_num]; exact hr)]

theorem steps_law0 {l f : List Int} (hl : l.length = 32) (hf : f.length = 16) : sumP (bareK l) f = lowV (one1 l f) := by
  have := polyV_two (num (byL l)) f [] hf
  rw [List.append_nil, polyV_nil] at this
  rw [sumP_bare hl, this, one1_eq]

theorem steps_law1 {l f y : List Int} (hl : l.length = 32) (hf : f.length = 16) (h1 : 1 ≤ y.length) (h : y.length ≤ 16) : sumP (bareK l) (f ++ y) = lowV (two1 l f y) := by
  rw [sumP_bare hl, polyV_two _ f y hf, polyV_one _ _ y h1 h, two1_eq, one1_eq]

/-! ### The contract -/

/-- A law of two arrays and a slice that is not too long: true. -/
def FST1 (q : Nat → Bool) : List A → List Blk → Option Res
  | [.agg k l, .agg k' f, .slc i 0 m c], [b] => match decide (k = .u8) && Nat.beq l.length 32 && decide (k' = .u8) && Nat.beq f.length 16 && Nat.beq i 1 && Nat.beq m b.l.length && Nat.beq c m && Nat.ble 1 m && decide (b.k = .u8) && !b.rw && Nat.ble m 140737488355300 && q m with
    | true => some ⟨.bool true, [none], none, []⟩
    | false => none
  | _, _ => none
def FST0 : List A → List Blk → Option Res
  | [.agg k l, .agg k' f, .slc 0 0 0 0], [] => match decide (k = .u8) && Nat.beq l.length 32 && decide (k' = .u8) && Nat.beq f.length 16 with
    | true => some ⟨.bool true, [], none, []⟩
    | false => none
  | _, _ => none
def FST (args : List A) (mem : List Blk) : Option Res :=
  match FST1 (fun m => Nat.ble m 16) args mem with
  | some r => some r
  | none => match FST1 (fun m => Nat.ble 17 m) args mem with
    | some r => some r
    | none => FST0 args mem

theorem fst1_run {C : Ctx} {q : Nat → Bool} (hC : C.Ok) (hP : C.P = Tryd.prog) (hgl : C.gl = gl) {g : FuncId} {fn : Func} {c : Code} (hf : Tryd.prog.funcs[g]? = some fn) (hname : (fn.name == "runtime.NumGoroutine") = false) (hb : fn.body = some c) (ht : Nat.ble 3 fn.ntmps = true)
    (h : ∀ (l f x : List Int) (t : TypeId), l.length = 32 → f.length = 16 → 1 ≤ x.length → x.length ≤ 140737488355300 → q x.length = true → ∃ fuel ob, callRes C fn fuel [.agg .u8 l, .agg .u8 f, .slc 1 0 x.length x.length] [⟨.u8, t, x, false⟩] = some ⟨.bool true, [some ⟨.u8, t, x, false⟩], none, ob⟩ ∧ Holds ob) : FnOk Tryd.prog gl g (FST1 q) := by
  rw [← hP, ← hgl]
  refine fnOk_run hC (by rw [hP]; exact hf) hname hb (fun args mem r hr _ => ?_)
  unfold FST1 at hr
  split at hr
  · rename_i k l k' f i m c b
    split at hr
    · rename_i hc
      simp only [Option.some.injEq] at hr
      subst hr
      simp only [Bool.and_eq_true] at hc
      obtain ⟨⟨⟨⟨⟨⟨⟨⟨⟨⟨⟨hk, hl⟩, hk2⟩, hf2⟩, hi⟩, hm⟩, hcm⟩, h1⟩, hbk⟩, hrw⟩, hlim⟩, hq⟩ := hc
      have hk' := of_decide_eq_true hk
      have hk2' := of_decide_eq_true hk2
      have hl' := Nat.eq_of_beq_eq_true hl
      have hf' := Nat.eq_of_beq_eq_true hf2
      have hi' := Nat.eq_of_beq_eq_true hi
      have hm' := Nat.eq_of_beq_eq_true hm
      have hc' := Nat.eq_of_beq_eq_true hcm
      have hbk' := of_decide_eq_true hbk
      have hlim' := Nat.le_of_ble_eq_true hlim
      obtain ⟨kb, t, x, rw⟩ := b
      simp only at hbk' hm' hrw
      subst hk' hk2' hi' hc' hm' hbk'
      have hrw' : rw = false := by cases rw <;> simp_all
      subst hrw'
      refine ⟨beq_le ht, fun j b hj => ?_, fun b hb => (by cases hb), fun _ _ => ?_⟩
      · match j, hj with
        | 0, hj => simp at hj
        | j + 1, hj => simp at hj
      · obtain ⟨fuel, ob, hr, hob⟩ := h l f x t hl' hf' (beq_le h1) hlim' hq
        refine ⟨fuel, _, hr, hob, ⟨rfl, rfl, fun j hj => ?_⟩⟩
        match j, hj with
        | 0, hj => rfl
        | j + 1, hj => simp at hj
    · cases hr
  · cases hr

theorem fst0_ok : FnOk Tryd.prog gl 17 FST0 := by
  refine fnOk_run (C := qC 0) (qC_ok 0) Tryd.func17 (by kernel_rfl) rfl (fun args mem r hr _ => ?_)
  unfold FST0 at hr
  split at hr
  · rename_i k l k' f
    split at hr
    · rename_i hc
      simp only [Option.some.injEq] at hr
      subst hr
      simp only [Bool.and_eq_true] at hc
      have hk' := of_decide_eq_true hc.1.1.1
      have hl' := Nat.eq_of_beq_eq_true hc.1.1.2
      have hk2' := of_decide_eq_true hc.1.2
      have hf' := Nat.eq_of_beq_eq_true hc.2
      subst hk' hk2'
      refine ⟨beq_le (by kernel_rfl), fun j b hj => (by simp at hj), fun b hb => (by cases hb), fun _ _ => ?_⟩
      have run := steps_run0 l f
      rw [tab_eq 32 l hl', tab_eq 16 f hf'] at run
      refine ⟨600, _, run, fun p hp => ?_, ⟨rfl, rfl, fun j hj => by simp at hj⟩⟩
      simp only [List.mem_cons, List.not_mem_nil, or_false] at hp
      rcases hp with rfl | rfl | rfl | rfl
      · exact ⟨by omega, by omega⟩
      · exact ⟨by omega, by omega, by omega, by omega⟩
      · exact ⟨by omega, by omega⟩
      · exact decide_eq_true (steps_law0 hl' hf')
    · cases hr
  · cases hr

theorem fst1a_ok : FnOk Tryd.prog gl 17 (FST1 (fun m => Nat.ble m 16)) := by
  refine fst1_run (C := qC 1) (qC_ok 1) rfl rfl Tryd.func17 (by kernel_rfl) rfl (by kernel_rfl) (fun l f x t hl hf hx hlim hq => ?_)
  have h16 := Nat.le_of_ble_eq_true hq
  have run := steps_run1 l f x x.length t
  rw [tab_eq 32 l hl, tab_eq 16 f hf, Nat.mul_one x.length, sub_all] at run
  have hlen : (f ++ x).length = 16 + x.length := by rw [List.length_append, hf]
  rw [show sub (f ++ x) 0 (16 + x.length) = f ++ x by rw [← hlen]; exact sub_all _] at run
  refine ⟨600, _, run, fun p hp => ?_⟩
  simp only [List.mem_cons, List.not_mem_nil, or_false] at hp
  rcases hp with rfl | rfl | rfl | rfl | rfl | rfl | rfl | rfl
  · exact decide_eq_false (by omega)
  · exact ⟨by omega, by omega⟩
  · exact decide_eq_true (by omega)
  · exact ⟨by omega, hx⟩
  · exact ⟨by omega, by omega, by omega, by omega⟩
  · exact ⟨by omega, hx, by first | omega | trivial, by omega, by omega⟩
  · exact ⟨by omega, by omega⟩
  · exact decide_eq_true (steps_law1 hl hf hx h16)

theorem fst1b_ok : FnOk Tryd.prog gl 17 (FST1 (fun m => Nat.ble 17 m)) := by
  refine fst1_run (C := qC 2) (qC_ok 2) rfl rfl Tryd.func17 (by kernel_rfl) rfl (by kernel_rfl) (fun l f x t hl hf hx hlim hq => ?_)
  have h17 := Nat.le_of_ble_eq_true hq
  have run := steps_run2 l f x x.length t
  have hs : (sub x 0 16).length = 16 := by rw [sub_eq, List.length_take, List.length_drop]; omega
  rw [tab_eq 32 l hl, tab_eq 16 f hf, Nat.mul_one] at run
  have hlen : (f ++ sub x 0 16).length = 16 + 16 := by rw [List.length_append, hf, hs]
  rw [show sub (f ++ sub x 0 16) 0 (16 + 16) = f ++ sub x 0 16 by rw [← hlen]; exact sub_all _] at run
  refine ⟨600, _, run, fun p hp => ?_⟩
  simp only [List.mem_cons, List.not_mem_nil, or_false] at hp
  rcases hp with rfl | rfl | rfl | rfl | rfl | rfl | rfl | rfl | rfl
  · exact decide_eq_true (by omega)
  · exact ⟨by omega, by omega, by omega⟩
  · exact ⟨by omega, by omega⟩
  · exact decide_eq_true (by omega)
  · exact ⟨by omega, by omega⟩
  · exact ⟨by omega, by omega, by omega, by omega⟩
  · exact ⟨by omega, by first | omega | trivial, by first | omega | trivial, by first | omega | trivial, by first | omega | trivial⟩
  · exact ⟨by omega, by omega⟩
  · exact decide_eq_true (steps_law1 hl hf (by rw [hs]; decide) (by rw [hs]; decide))

theorem polySteps_ok : FnOk Tryd.prog gl 17 FST := by
  refine ⟨fst0_ok.1, fun args mem r hr hob => ?_⟩
  unfold FST at hr
  split at hr
  · rename_i r' e
    simp only [Option.some.injEq] at hr
    subst hr
    exact fst1a_ok.2 _ _ _ e hob
  · split at hr
    · rename_i r' e
      simp only [Option.some.injEq] at hr
      subst hr
      exact fst1b_ok.2 _ _ _ e hob
    · exact fst0_ok.2 _ _ _ hr hob

end Go.Proofs.YtbdmahidobjaoaaDoor.Sx
