/-
  The contracts of the inner functions of the two packages: load, store, fold, canon, Mul64.
-/
import Derived.Test.YtbdmahidobjaoaaDoorClampBase
import Derived.Test.YtbdmahidobjaoaaDoorW64
namespace Go.Proofs.YtbdmahidobjaoaaDoor.Sx
open Go

theorem list3 {l : List Int} (h : l.length = 3) : ∃ a b c, l = [a, b, c] := by
  match l, h with
  | [a, b, c], _ => exact ⟨a, b, c, rfl⟩

theorem list17 {l : List Int} (h : l.length = 17) : ∃ a0 a1 a2 a3 a4 a5 a6 a7 a8 a9 a10 a11 a12 a13 a14 a15 a16, l = [a0, a1, a2, a3, a4, a5, a6, a7, a8, a9, a10, a11, a12, a13, a14, a15, a16] := by
  match l, h with
  | [a0, a1, a2, a3, a4, a5, a6, a7, a8, a9, a10, a11, a12, a13, a14, a15, a16], _ => exact ⟨a0, a1, a2, a3, a4, a5, a6, a7, a8, a9, a10, a11, a12, a13, a14, a15, a16, rfl⟩

theorem list16 {l : List Int} (h : l.length = 16) : ∃ a0 a1 a2 a3 a4 a5 a6 a7 a8 a9 a10 a11 a12 a13 a14 a15, l = [a0, a1, a2, a3, a4, a5, a6, a7, a8, a9, a10, a11, a12, a13, a14, a15] := by
  match l, h with
  | [a0, a1, a2, a3, a4, a5, a6, a7, a8, a9, a10, a11, a12, a13, a14, a15], _ => exact ⟨a0, a1, a2, a3, a4, a5, a6, a7, a8, a9, a10, a11, a12, a13, a14, a15, rfl⟩

/-- A contract for a function of one array: its numbers in, an array out. -/
def F1 (k k' : IntKind) (n : Nat) (f : List Int → List Int) : List A → List Blk → Option Res
  | [.agg k0 l], [] => match decide (k0 = k) && Nat.beq l.length n with
    | true => some ⟨.agg k' (f l), [], none, []⟩
    | false => none
  | _, _ => none

def F2 (k k1 k' : IntKind) (n n1 : Nat) (f : List Int → List Int → List Int) : List A → List Blk → Option Res
  | [.agg k0 l, .agg k2 m], [] => match decide (k0 = k) && decide (k2 = k1) && Nat.beq l.length n && Nat.beq m.length n1 with
    | true => some ⟨.agg k' (f l m), [], none, []⟩
    | false => none
  | _, _ => none

def FW2 (f : Int → Int → A) : List A → List Blk → Option Res
  | [.int .u64 x, .int .u64 y], [] => some ⟨f x y, [], none, []⟩
  | _, _ => none

section
variable {C : Ctx}

theorem fnOk_F1 (hC : C.Ok) {f : FuncId} {fn : Func} {c : Code} {k k' : IntKind} {n : Nat} {g : List Int → List Int} (hf : C.P.funcs[f]? = some fn) (hname : (fn.name == "runtime.NumGoroutine") = false) (hb : fn.body = some c) (ht : Nat.ble 1 fn.ntmps = true)
    (h : ∀ l : List Int, l.length = n → (∀ x ∈ l, wf k x) → ∃ fuel v, plainRun C fn fuel [.agg k l] = some (.agg k' v, []) ∧ v = g l) : FnOk C.P C.gl f (F1 k k' n g) := by
  refine fnOk_plain hC hf hname hb (fun args mem r hr _ => ?_)
  unfold F1 at hr
  split at hr
  · rename_i k0 l
    split at hr
    · rename_i hc
      simp only [Bool.and_eq_true] at hc
      have e1 := of_decide_eq_true hc.1
      have e2 := Nat.eq_of_beq_eq_true hc.2
      subst e1
      simp only [Option.some.injEq] at hr
      subst hr
      refine ⟨rfl, rfl, rfl, beq_le ht, fun hw => ?_⟩
      obtain ⟨fuel, v, hrun, hv⟩ := h l e2 (hw (.agg k0 l) (by simp))
      exact ⟨fuel, [], by rw [hrun, hv], Holds.nil⟩
    · cases hr
  · cases hr

theorem fnOk_F2 (hC : C.Ok) {f : FuncId} {fn : Func} {c : Code} {k k1 k' : IntKind} {n n1 : Nat} {g : List Int → List Int → List Int} (hf : C.P.funcs[f]? = some fn) (hname : (fn.name == "runtime.NumGoroutine") = false) (hb : fn.body = some c) (ht : Nat.ble 2 fn.ntmps = true)
    (h : ∀ l m : List Int, l.length = n → m.length = n1 → (∀ x ∈ l, wf k x) → (∀ x ∈ m, wf k1 x) → ∃ fuel v, plainRun C fn fuel [.agg k l, .agg k1 m] = some (.agg k' v, []) ∧ v = g l m) : FnOk C.P C.gl f (F2 k k1 k' n n1 g) := by
  refine fnOk_plain hC hf hname hb (fun args mem r hr _ => ?_)
  unfold F2 at hr
  split at hr
  · rename_i k0 l k2 m
    split at hr
    · rename_i hc
      simp only [Bool.and_eq_true] at hc
      have e0 := of_decide_eq_true hc.1.1.1
      have e1 := of_decide_eq_true hc.1.1.2
      have e2 := Nat.eq_of_beq_eq_true hc.1.2
      have e3 := Nat.eq_of_beq_eq_true hc.2
      subst e0; subst e1
      simp only [Option.some.injEq] at hr
      subst hr
      refine ⟨rfl, rfl, rfl, beq_le ht, fun hw => ?_⟩
      obtain ⟨fuel, v, hrun, hv⟩ := h l m e2 e3 (hw (.agg k0 l) (by simp)) (hw (.agg k2 m) (by simp))
      exact ⟨fuel, [], by rw [hrun, hv], Holds.nil⟩
    · cases hr
  · cases hr

theorem fnOk_FW2 (hC : C.Ok) {f : FuncId} {fn : Func} {c : Code} {g : Int → Int → A} (hf : C.P.funcs[f]? = some fn) (hname : (fn.name == "runtime.NumGoroutine") = false) (hb : fn.body = some c) (ht : Nat.ble 2 fn.ntmps = true)
    (h : ∀ x y : Int, 0 ≤ x → x < 18446744073709551616 → 0 ≤ y → y < 18446744073709551616 → ∃ fuel v, plainRun C fn fuel [.int .u64 x, .int .u64 y] = some (v, []) ∧ v = g x y) : FnOk C.P C.gl f (FW2 g) := by
  refine fnOk_plain hC hf hname hb (fun args mem r hr _ => ?_)
  unfold FW2 at hr
  split at hr
  · rename_i x y
    simp only [Option.some.injEq] at hr
    subst hr
    refine ⟨rfl, rfl, rfl, beq_le ht, fun hw => ?_⟩
    have wx := wf_u64.1 (hw (.int .u64 x) (by simp))
    have wy := wf_u64.1 (hw (.int .u64 y) (by simp))
    obtain ⟨fuel, v, hrun, hv⟩ := h x y wx.1 wx.2 wy.1 wy.2
    exact ⟨fuel, [], by rw [hrun, hv], Holds.nil⟩
  · cases hr
end

noncomputable abbrev mk (l : List (FuncId × (List A → List Blk → Option Res))) : Ctx := mkC Tryd.prog gl 45 46 (fun _ => none) l

theorem mk_ok {l : List (FuncId × (List A → List Blk → Option Res))} (hl : ∀ p ∈ l, FnOk Tryd.prog gl p.1 p.2) : (mk l).Ok := mkC_ok base _ l hl

set_option maxRecDepth 100000

/-! ### bits.Mul64 -/

def fMul64 : List A → List Blk → Option Res := FW2 fun x y => .pair (.int .u64 (x * y / b64)) (.int .u64 (x * y % b64))

/-- As the library's text reckons it. -/
def mulHiR (x y : Int) : Int :=
  let w (n : Int) := IntKind.u64.wrap n
  let x0 := bits .and .u64 x 4294967295
  let x1 := x.fdiv (2 ^ 32)
  let y0 := bits .and .u64 y 4294967295
  let y1 := y.fdiv (2 ^ 32)
  let w0 := w (x0 * y0)
  let t := w (w (x1 * y0) + w0.fdiv (2 ^ 32))
  let w1 := bits .and .u64 t 4294967295
  let w2 := t.fdiv (2 ^ 32)
  let w1' := w (w1 + w (x0 * y1))
  w (w (w (x1 * y1) + w2) + w1'.fdiv (2 ^ 32))

theorem mul64_run (x y : Int) : plainRun (mk []) Tryd.f44 100 [.int .u64 x, .int .u64 y] = some (.pair (.int .u64 (mulHiR x y)) (.int .u64 (IntKind.u64.wrap (x * y))), []) := by kernel_rfl

theorem u64wm (n : Int) : IntKind.u64.wrap n = n % 18446744073709551616 := by
  simp [IntKind.wrap, IntKind.bits, IntKind.signed]

theorem fdiv32 (n : Int) : n.fdiv (2 ^ 32) = n / 4294967296 := by
  rw [show (2 : Int) ^ 32 = 4294967296 by decide, Int.fdiv_eq_ediv_of_nonneg _ (by decide)]

theorem mul64_ok : FnOk Tryd.prog gl 44 fMul64 := by
  refine fnOk_FW2 (C := mk []) (mk_ok (by simp)) Tryd.func44 (by kernel_rfl) rfl (by kernel_rfl) (fun x y hx hx1 hy hy1 => ⟨100, _, mul64_run x y, ?_⟩)
  have h := mul64_arith x y hx hx1 hy hy1
  have a1 := and_low32 x hx hx1
  have a2 := and_low32 y hy hy1
  congr 2
  · unfold mulHiR b64
    simp only [u64wm, fdiv32, a1, a2]
    rw [and_low32 _ (by omega) (by omega)]
    rw [← h]

/-! ### load, store -/

def fLoad : List A → List Blk → Option Res := F1 .u8 .u64 17 fun l => wordsOf 3 (num l)

theorem load_run (a0 a1 a2 a3 a4 a5 a6 a7 a8 a9 a10 a11 a12 a13 a14 a15 a16 : Int) : plainRun (mk []) Tryd.f40 300 [.agg .u8 [a0, a1, a2, a3, a4, a5, a6, a7, a8, a9, a10, a11, a12, a13, a14, a15, a16]] =
    some (.agg .u64 [orW 0 0 [a0, a1, a2, a3, a4, a5, a6, a7], orW 0 0 [a8, a9, a10, a11, a12, a13, a14, a15], orW 0 0 [a16]], []) := by kernel_rfl

theorem num_append : ∀ (l m : List Int), num (l ++ m) = num l + 256 ^ l.length * num m
  | [], m => by simp [num]
  | x :: l, m => by
    simp only [List.cons_append, num, num_append l m, List.length_cons, Int.pow_succ]
    rw [Int.mul_add, Int.mul_comm (256 ^ l.length) 256, Int.mul_assoc]
    omega

theorem load_ok : FnOk Tryd.prog gl 40 fLoad := by
  refine fnOk_F1 (C := mk []) (mk_ok (by simp)) Tryd.func40 (by kernel_rfl) rfl (by kernel_rfl) (fun l hl hw => ?_)
  obtain ⟨a0, a1, a2, a3, a4, a5, a6, a7, a8, a9, a10, a11, a12, a13, a14, a15, a16, rfl⟩ := list17 hl
  refine ⟨300, _, load_run .., ?_⟩
  have hb : ∀ x ∈ [a0, a1, a2, a3, a4, a5, a6, a7, a8, a9, a10, a11, a12, a13, a14, a15, a16], 0 ≤ x ∧ x < 256 := fun x hx => wf_u8.1 (hw x hx)
  have e : ([a0, a1, a2, a3, a4, a5, a6, a7, a8, a9, a10, a11, a12, a13, a14, a15, a16] : List Int) = [a0, a1, a2, a3, a4, a5, a6, a7] ++ ([a8, a9, a10, a11, a12, a13, a14, a15] ++ [a16]) := rfl
  have b1 : ∀ x ∈ [a0, a1, a2, a3, a4, a5, a6, a7], 0 ≤ x ∧ x < 256 := fun x hx => hb x (by rw [e]; exact List.mem_append_left _ hx)
  have b2 : ∀ x ∈ [a8, a9, a10, a11, a12, a13, a14, a15], 0 ≤ x ∧ x < 256 := fun x hx => hb x (by rw [e]; exact List.mem_append_right _ (List.mem_append_left _ hx))
  have b3 : ∀ x ∈ [a16], 0 ≤ x ∧ x < 256 := fun x hx => hb x (by rw [e]; exact List.mem_append_right _ (List.mem_append_right _ hx))
  rw [e, num_append, num_append, orW_num _ 0 0 (by simp) b1 (by decide) (by decide), orW_num _ 0 0 (by simp) b2 (by decide) (by decide), orW_num _ 0 0 (by simp) b3 (by decide) (by decide)]
  have r1 := num_range _ b1
  have r2 := num_range _ b2
  have r3 := num_range _ b3
  simp only [List.length_cons, List.length_nil] at r1 r2 r3 ⊢
  generalize num [a0, a1, a2, a3, a4, a5, a6, a7] = p at *
  generalize num [a8, a9, a10, a11, a12, a13, a14, a15] = q at *
  generalize num [a16] = r at *
  have h8 : (256 : Int) ^ (0 + 1 + 1 + 1 + 1 + 1 + 1 + 1 + 1) = 18446744073709551616 := by decide
  have h1 : (256 : Int) ^ (0 + 1) = 256 := by decide
  rw [h8] at r1 r2 ⊢
  rw [h1] at r3
  simp only [wordsOf, wordsFrom]
  have p0 : (18446744073709551616 : Int) ^ 0 = 1 := by decide
  have p1 : (18446744073709551616 : Int) ^ (0 + 1) = 18446744073709551616 := by decide
  have p2 : (18446744073709551616 : Int) ^ (0 + 1 + 1) = 340282366920938463463374607431768211456 := by decide
  have p3 : (2 : Int) ^ (8 * 0) = 1 := by decide
  rw [p0, p1, p2, p3]
  congr 1
  · omega
  · congr 1
    · omega
    · congr 1
      omega

def fStore : List A → List Blk → Option Res := F1 .u64 .u8 3 fun l => bytesOf 17 (wnum l)

theorem store_run (a b c : Int) : plainRun (mk []) Tryd.f38 300 [.agg .u64 [a, b, c]] = some (.agg .u8 (stFrom a 0 8 ++ (stFrom b 0 8 ++ stFrom c 0 1)), []) := by kernel_rfl

theorem store_ok : FnOk Tryd.prog gl 38 fStore := by
  refine fnOk_F1 (C := mk []) (mk_ok (by simp)) Tryd.func38 (by kernel_rfl) rfl (by kernel_rfl) (fun l hl hw => ?_)
  obtain ⟨a, b, c, rfl⟩ := list3 hl
  refine ⟨300, _, store_run .., ?_⟩
  have ha := wf_u64.1 (hw a (by simp))
  have hb := wf_u64.1 (hw b (by simp))
  simp only [stFrom_bytes, wnum]
  rw [show (17 : Nat) = 8 + (8 + 1) by rfl, bytesOf_word _ _ _ ha.1 ha.2, bytesOf_word _ _ _ hb.1 hb.2]
  simp [bytesOf]

/-! ### fold, canon -/

/-- What stands from 2^130 on, five times below. -/
def fold1 (n : Int) : Int := n % 1361129467683753853853498429727072845824 + 5 * (n / 1361129467683753853853498429727072845824)

def fFold : List A → List Blk → Option Res := F1 .u64 .u64 3 fun l => wordsOf 3 (fold1 (fold1 (wnum l)))

def foldR (w : List Int) : List Int :=
  match w with
  | [w0, w1, w2] =>
    let ab := w2.fdiv (2 ^ 2)
    let v2 := bits .and .u64 w2 3
    let lo := ab * 5 % b64
    let hi := ab * 5 / b64
    let c1 := carry w0 lo false
    let c2 := carry w1 hi c1
    [addc w0 lo false, addc w1 hi c1, IntKind.u64.wrap (v2 + bi c2)]
  | _ => []

theorem fold_run (a b c : Int) : plainRun (mk [(44, fMul64)]) Tryd.f43 300 [.agg .u64 [a, b, c]] = some (.agg .u64 (foldR (foldR [a, b, c])), []) := by kernel_rfl

theorem fdiv4 (n : Int) : n.fdiv (2 ^ 2) = n / 4 := by
  rw [show (2 : Int) ^ 2 = 4 by decide, Int.fdiv_eq_ediv_of_nonneg _ (by decide)]

theorem foldR_eq (a b c : Int) (ha : 0 ≤ a ∧ a < 18446744073709551616) (hb : 0 ≤ b ∧ b < 18446744073709551616) (hc : 0 ≤ c ∧ c < 18446744073709551616) :
    ∃ a' b' c', foldR [a, b, c] = [a', b', c'] ∧ (0 ≤ a' ∧ a' < 18446744073709551616) ∧ (0 ≤ b' ∧ b' < 18446744073709551616) ∧ (0 ≤ c' ∧ c' ≤ 4) ∧ wnum [a', b', c'] = fold1 (wnum [a, b, c]) := by
  refine ⟨_, _, _, rfl, ?_⟩
  have m := and_mask 2 (by decide) c hc.1 hc.2
  rw [show (2 : Int) ^ 2 - 1 = 3 by decide, show (2 : Int) ^ 2 = 4 by decide] at m
  simp only [fdiv4, m]
  have e1 := addc_split a (c / 4 * 5 % b64) false ha.1 ha.2 (by unfold b64; omega) (by unfold b64; omega)
  have e2 := addc_split b (c / 4 * 5 / b64) (carry a (c / 4 * 5 % b64) false) hb.1 hb.2 (by unfold b64; omega) (by unfold b64; omega)
  rw [show bi false = 0 from rfl] at e1
  have k1 := bi_range (carry a (c / 4 * 5 % b64) false)
  have k2 := bi_range (carry b (c / 4 * 5 / b64) (carry a (c / 4 * 5 % b64) false))
  generalize addc a (c / 4 * 5 % b64) false = a' at *
  generalize addc b (c / 4 * 5 / b64) (carry a (c / 4 * 5 % b64) false) = b' at *
  generalize bi (carry b (c / 4 * 5 / b64) (carry a (c / 4 * 5 % b64) false)) = k2' at *
  generalize bi (carry a (c / 4 * 5 % b64) false) = k1' at *
  rw [u64w _ (by omega) (by omega)]
  refine ⟨e1.2, e2.2, by omega, ?_⟩
  simp only [wnum, fold1]
  unfold b64 at *
  have d1 : (a + 18446744073709551616 * (b + 18446744073709551616 * (c + 18446744073709551616 * 0))) / 1361129467683753853853498429727072845824 = c / 4 := by omega
  have d2 : (a + 18446744073709551616 * (b + 18446744073709551616 * (c + 18446744073709551616 * 0))) % 1361129467683753853853498429727072845824 = a + 18446744073709551616 * (b + 18446744073709551616 * (c % 4)) := by omega
  rw [d1, d2]
  omega

theorem fold_ok : FnOk Tryd.prog gl 43 fFold := by
  refine fnOk_F1 (C := mk [(44, fMul64)]) (mk_ok (by intro p hp; rw [List.mem_singleton.1 hp]; exact mul64_ok)) Tryd.func43 (by kernel_rfl) rfl (by kernel_rfl) (fun l hl hw => ?_)
  obtain ⟨a, b, c, rfl⟩ := list3 hl
  refine ⟨300, _, fold_run .., ?_⟩
  have ha := wf_u64.1 (hw a (by simp))
  have hb := wf_u64.1 (hw b (by simp))
  have hc := wf_u64.1 (hw c (by simp))
  obtain ⟨a', b', c', e1, ha', hb', hc', e2⟩ := foldR_eq a b c ha hb hc
  obtain ⟨a2, b2, c2, e3, ha2, hb2, hc2, e4⟩ := foldR_eq a' b' c' ha' hb' ⟨hc'.1, by omega⟩
  rw [e1, e3, ← e2, ← e4]
  have := wordsOf_wnum [a2, b2, c2] (fun x hx => by
    simp only [List.mem_cons, List.not_mem_nil, or_false] at hx
    rcases hx with rfl | rfl | rfl
    · exact ha2
    · exact hb2
    · exact ⟨hc2.1, by omega⟩)
  exact this.symm

end Go.Proofs.YtbdmahidobjaoaaDoor.Sx
