/-
  What the contracts of the curve's and the ladder's functions share: functions of arrays of bytes and words, bits.Mul64, laws.
-/
import Derived.Test.YtechbdggjfahhaaDoorBase
import Derived.Test.YtechbdggjfahhaaDoorSxTail
import Derived.Test.YtechbdggjfahhaaDoorW64
namespace Go.Proofs.YtechbdggjfahhaaDoor.Sx
open Go

/-- How many globals; the heap that they are; their numbers. -/
abbrev gn : Nat := gl.length
abbrev glz : Hp := gl.zipIdx.map fun p => (p.2, p.1)
abbrev gks : List Nat := List.range gn

theorem list16 {l : List Int} (h : l.length = 16) : ∃ a0 a1 a2 a3 a4 a5 a6 a7 a8 a9 a10 a11 a12 a13 a14 a15, l = [a0, a1, a2, a3, a4, a5, a6, a7, a8, a9, a10, a11, a12, a13, a14, a15] := by
  match l, h with
  | [a0, a1, a2, a3, a4, a5, a6, a7, a8, a9, a10, a11, a12, a13, a14, a15], _ => exact ⟨a0, a1, a2, a3, a4, a5, a6, a7, a8, a9, a10, a11, a12, a13, a14, a15, rfl⟩

theorem list32 {l : List Int} (h : l.length = 32) : ∃ k0 k1 k2 k3 k4 k5 k6 k7 k8 k9 k10 k11 k12 k13 k14 k15 k16 k17 k18 k19 k20 k21 k22 k23 k24 k25 k26 k27 k28 k29 k30 k31, l = [k0, k1, k2, k3, k4, k5, k6, k7, k8, k9, k10, k11, k12, k13, k14, k15, k16, k17, k18, k19, k20, k21, k22, k23, k24, k25, k26, k27, k28, k29, k30, k31] := by
  match l, h with
  | [k0, k1, k2, k3, k4, k5, k6, k7, k8, k9, k10, k11, k12, k13, k14, k15, k16, k17, k18, k19, k20, k21, k22, k23, k24, k25, k26, k27, k28, k29, k30, k31], _ => exact ⟨k0, k1, k2, k3, k4, k5, k6, k7, k8, k9, k10, k11, k12, k13, k14, k15, k16, k17, k18, k19, k20, k21, k22, k23, k24, k25, k26, k27, k28, k29, k30, k31, rfl⟩

/-- A contract for a function of one array: its numbers in, an array out. -/
def F1 (k k' : IntKind) (n : Nat) (f : List Int → List Int) : List A → List Blk → Option Res
  | [.agg k0 l], [] => match decide (k0 = k) && Nat.beq l.length n with
    | true => some ⟨.agg k' (f l), [], none, []⟩
    | false => none
  | _, _ => none

def F2 (k k1 k' : IntKind) (n n1 : Nat) (f : List Int → List Int → List Int) : List A → List Blk → Option Res
  | [.agg k0 l, .agg k2 m], [] => match decide (k0 = k) && decide (k2 = k1) && Nat.beq l.length n && Nat.beq m.length n1 with
    | true => some ⟨.agg k' (f l m), [], none, []⟩
    | false => none
  | _, _ => none

def FW2 (f : Int → Int → A) : List A → List Blk → Option Res
  | [.int .u64 x, .int .u64 y], [] => some ⟨f x y, [], none, []⟩
  | _, _ => none

section
variable {C : Ctx}

theorem fnOk_F1 (hC : C.Ok) {f : FuncId} {fn : Func} {c : Code} {k k' : IntKind} {n : Nat} {g : List Int → List Int} (hf : C.P.funcs[f]? = some fn) (hname : (fn.name == "runtime.NumGoroutine") = false) (hb : fn.body = some c) (ht : Nat.ble 1 fn.ntmps = true)
    (h : ∀ l : List Int, l.length = n → (∀ x ∈ l, wf k x) → ∃ fuel v, plainRun C fn fuel [.agg k l] = some (.agg k' v, []) ∧ v = g l) : FnOk C.P C.gl f (F1 k k' n g) := by
  refine fnOk_plain hC hf hname hb (fun args mem r hr _ => ?_)
  unfold F1 at hr
  split at hr
  · rename_i k0 l
    split at hr
    · rename_i hc
      simp only [Bool.and_eq_true] at hc
      have e1 := of_decide_eq_true hc.1
      have e2 := Nat.eq_of_beq_eq_true hc.2
      subst e1
      simp only [Option.some.injEq] at hr
      subst hr
      refine ⟨rfl, rfl, rfl, beq_le ht, fun hw => ?_⟩
      obtain ⟨fuel, v, hrun, hv⟩ := h l e2 (hw (.agg k0 l) (by simp))
      exact ⟨fuel, [], by rw [hrun, hv], Holds.nil⟩
    · cases hr
  · cases hr

theorem fnOk_F2 (hC : C.Ok) {f : FuncId} {fn : Func} {c : Code} {k k1 k' : IntKind} {n n1 : Nat} {g : List Int → List Int → List Int} (hf : C.P.funcs[f]? = some fn) (hname : (fn.name == "runtime.NumGoroutine") = false) (hb : fn.body = some c) (ht : Nat.ble 2 fn.ntmps = true)
    (h : ∀ l m : List Int, l.length = n → m.length = n1 → (∀ x ∈ l, wf k x) → (∀ x ∈ m, wf k1 x) → ∃ fuel v, plainRun C fn fuel [.agg k l, .agg k1 m] = some (.agg k' v, []) ∧ v = g l m) : FnOk C.P C.gl f (F2 k k1 k' n n1 g) := by
  refine fnOk_plain hC hf hname hb (fun args mem r hr _ => ?_)
  unfold F2 at hr
  split at hr
  · rename_i k0 l k2 m
    split at hr
    · rename_i hc
      simp only [Bool.and_eq_true] at hc
      have e0 := of_decide_eq_true hc.1.1.1
      have e1 := of_decide_eq_true hc.1.1.2
      have e2 := Nat.eq_of_beq_eq_true hc.1.2
      have e3 := Nat.eq_of_beq_eq_true hc.2
      subst e0; subst e1
      simp only [Option.some.injEq] at hr
      subst hr
      refine ⟨rfl, rfl, rfl, beq_le ht, fun hw => ?_⟩
      obtain ⟨fuel, v, hrun, hv⟩ := h l m e2 e3 (hw (.agg k0 l) (by simp)) (hw (.agg k2 m) (by simp))
      exact ⟨fuel, [], by rw [hrun, hv], Holds.nil⟩
    · cases hr
  · cases hr

theorem fnOk_FW2 (hC : C.Ok) {f : FuncId} {fn : Func} {c : Code} {g : Int → Int → A} (hf : C.P.funcs[f]? = some fn) (hname : (fn.name == "runtime.NumGoroutine") = false) (hb : fn.body = some c) (ht : Nat.ble 2 fn.ntmps = true)
    (h : ∀ x y : Int, 0 ≤ x → x < 18446744073709551616 → 0 ≤ y → y < 18446744073709551616 → ∃ fuel v, plainRun C fn fuel [.int .u64 x, .int .u64 y] = some (v, []) ∧ v = g x y) : FnOk C.P C.gl f (FW2 g) := by
  refine fnOk_plain hC hf hname hb (fun args mem r hr _ => ?_)
  unfold FW2 at hr
  split at hr
  · rename_i x y
    simp only [Option.some.injEq] at hr
    subst hr
    refine ⟨rfl, rfl, rfl, beq_le ht, fun hw => ?_⟩
    have wx := wf_u64.1 (hw (.int .u64 x) (by simp))
    have wy := wf_u64.1 (hw (.int .u64 y) (by simp))
    obtain ⟨fuel, v, hrun, hv⟩ := h x y wx.1 wx.2 wy.1 wy.2
    exact ⟨fuel, [], by rw [hrun, hv], Holds.nil⟩
  · cases hr
end

noncomputable abbrev mk (l : List (FuncId × (List A → List Blk → Option Res))) : Ctx := mkC Tryd.prog gl 45 47 (fun _ => none) l

theorem mk_ok {l : List (FuncId × (List A → List Blk → Option Res))} (hl : ∀ p ∈ l, FnOk Tryd.prog gl p.1 p.2) : (mk l).Ok := mkC_ok base _ l hl

set_option maxRecDepth 100000

/-! ### bits.Mul64 -/

def fMul64 : List A → List Blk → Option Res := FW2 fun x y => .pair (.int .u64 (x * y / b64)) (.int .u64 (x * y % b64))

/-- As the library's text reckons it. -/
def mulHiR (x y : Int) : Int :=
  let w (n : Int) := IntKind.u64.wrap n
  let x0 := bits .and .u64 x 4294967295
  let x1 := x.fdiv (2 ^ 32)
  let y0 := bits .and .u64 y 4294967295
  let y1 := y.fdiv (2 ^ 32)
  let w0 := w (x0 * y0)
  let t := w (w (x1 * y0) + w0.fdiv (2 ^ 32))
  let w1 := bits .and .u64 t 4294967295
  let w2 := t.fdiv (2 ^ 32)
  let w1' := w (w1 + w (x0 * y1))
  w (w (w (x1 * y1) + w2) + w1'.fdiv (2 ^ 32))

theorem mul64_run (x y : Int) : plainRun (mk []) Tryd.f48 100 [.int .u64 x, .int .u64 y] = some (.pair (.int .u64 (mulHiR x y)) (.int .u64 (IntKind.u64.wrap (x * y))), []) := by kernel_rfl

theorem u64wm (n : Int) : IntKind.u64.wrap n = n % 18446744073709551616 := by
  simp [IntKind.wrap, IntKind.bits, IntKind.signed]

theorem fdiv32 (n : Int) : n.fdiv (2 ^ 32) = n / 4294967296 := by
  rw [show (2 : Int) ^ 32 = 4294967296 by decide, Int.fdiv_eq_ediv_of_nonneg _ (by decide)]

theorem mul64_ok : FnOk Tryd.prog gl 48 fMul64 := by
  refine fnOk_FW2 (C := mk []) (mk_ok (by simp)) Tryd.func48 (by kernel_rfl) rfl (by kernel_rfl) (fun x y hx hx1 hy hy1 => ⟨100, _, mul64_run x y, ?_⟩)
  have h := mul64_arith x y hx hx1 hy hy1
  have a1 := and_low32 x hx hx1
  have a2 := and_low32 y hy hy1
  congr 2
  · unfold mulHiR b64
    simp only [u64wm, fdiv32, a1, a2]
    rw [and_low32 _ (by omega) (by omega)]
    rw [← h]

theorem num_append : ∀ (l m : List Int), num (l ++ m) = num l + 256 ^ l.length * num m
  | [], m => by simp [num]
  | x :: l, m => by
    simp only [List.cons_append, num, num_append l m, List.length_cons, Int.pow_succ]
    rw [Int.mul_add, Int.mul_comm (256 ^ l.length) 256, Int.mul_assoc]
    omega

noncomputable abbrev mkh (hint : Tmp → Option Bool) (l : List (FuncId × (List A → List Blk → Option Res))) : Ctx := mkC Tryd.prog gl 45 47 hint l

theorem mkh_ok {hint : Tmp → Option Bool} {l : List (FuncId × (List A → List Blk → Option Res))} (hl : ∀ p ∈ l, FnOk Tryd.prog gl p.1 p.2) : (mkh hint l).Ok := mkC_ok base _ l hl

def hintAt (d : Nat) (b : Bool) (t : Tmp) : Option Bool :=
  match Nat.beq t d with
  | true => some b
  | false => none
/-- A function of nothing but plain values: one case. -/
def FC (v : A) : List A → List Blk → Option Res
  | [], [] => some ⟨v, [], none, []⟩
  | _, _ => none

theorem fnOk_FC {C : Ctx} (hC : C.Ok) {f : FuncId} {fn : Func} {c : Code} {v : A} (hf : C.P.funcs[f]? = some fn) (hname : (fn.name == "runtime.NumGoroutine") = false) (hb : fn.body = some c) {fuel : Nat} {ob : List Prop}
    (h : plainRun C fn fuel [] = some (v, ob)) (hob : Holds ob) : FnOk C.P C.gl f (FC v) := by
  refine fnOk_plain hC hf hname hb (fun args mem r hr _ => ?_)
  unfold FC at hr
  split at hr
  · simp only [Option.some.injEq] at hr
    subst hr
    exact ⟨rfl, rfl, rfl, Nat.zero_le _, fun _ => ⟨fuel, ob, h, hob⟩⟩
  · cases hr

/-- The arguments are arrays of bytes of such lengths. -/
def shapeOk : List Nat → List A → Bool
  | [], [] => true
  | n :: ns, .agg k l :: r => decide (k = .u8) && Nat.beq l.length n && shapeOk ns r
  | _, _ => false

/-- True for all arguments of such lengths. -/
def FT (ns : List Nat) : List A → List Blk → Option Res
  | args, [] => match shapeOk ns args with
    | true => some ⟨.bool true, [], none, []⟩
    | false => none
  | _, _ => none

theorem shapeOk_spec : ∀ (ns : List Nat) (args : List A), shapeOk ns args = true → (∀ x ∈ args, wfA x) → ∃ ls : List (List Int), ls.map List.length = ns ∧ args = ls.map (A.agg .u8) ∧ ∀ l ∈ ls, ∀ x ∈ l, wf .u8 x
  | [], [], _, _ => ⟨[], rfl, rfl, by simp⟩
  | n :: ns, .agg k l :: r, h, hw => by
    simp only [shapeOk, Bool.and_eq_true] at h
    obtain ⟨⟨hk, hl⟩, hr⟩ := h
    have hk' := of_decide_eq_true hk
    subst hk'
    obtain ⟨ls, h1, h2, h3⟩ := shapeOk_spec ns r hr (fun x hx => hw x (by simp [hx]))
    refine ⟨l :: ls, by simp [h1, Nat.eq_of_beq_eq_true hl], by simp [h2], fun m hm => ?_⟩
    rcases List.mem_cons.1 hm with rfl | hm
    · exact hw (.agg .u8 m) (by simp)
    · exact h3 m hm
  | [], _ :: _, h, _ => by simp [shapeOk] at h
  | _ :: _, [], h, _ => by simp [shapeOk] at h
  | n :: ns, .any :: _, h, _ => by simp [shapeOk] at h
  | n :: ns, .undef :: _, h, _ => by simp [shapeOk] at h
  | n :: ns, .bool _ :: _, h, _ => by simp [shapeOk] at h
  | n :: ns, .int _ _ :: _, h, _ => by simp [shapeOk] at h
  | n :: ns, .bit _ :: _, h, _ => by simp [shapeOk] at h
  | n :: ns, .str _ :: _, h, _ => by simp [shapeOk] at h
  | n :: ns, .ptr _ _ :: _, h, _ => by simp [shapeOk] at h
  | n :: ns, .slc _ _ _ _ :: _, h, _ => by simp [shapeOk] at h
  | n :: ns, .emp :: _, h, _ => by simp [shapeOk] at h
  | n :: ns, .pair _ _ :: _, h, _ => by simp [shapeOk] at h

theorem shapeOk_length : ∀ (ns : List Nat) (args : List A), shapeOk ns args = true → args.length = ns.length
  | [], [], _ => rfl
  | n :: ns, x :: r, h => by
    cases x <;> simp only [shapeOk, Bool.and_eq_true, Bool.false_eq_true] at h
    simp [shapeOk_length ns r h.2]
  | [], _ :: _, h => by simp [shapeOk] at h
  | _ :: _, [], h => by simp [shapeOk] at h

theorem fnOk_FT {C : Ctx} (hC : C.Ok) {f : FuncId} {fn : Func} {c : Code} {ns : List Nat} (hf : C.P.funcs[f]? = some fn) (hname : (fn.name == "runtime.NumGoroutine") = false) (hb : fn.body = some c) (ht : Nat.ble ns.length fn.ntmps = true)
    (h : ∀ ls : List (List Int), ls.map List.length = ns → (∀ l ∈ ls, ∀ x ∈ l, wf .u8 x) → ∃ fuel ob, plainRun C fn fuel (ls.map (A.agg .u8)) = some (.bool true, ob) ∧ Holds ob) : FnOk C.P C.gl f (FT ns) := by
  refine fnOk_plain hC hf hname hb (fun args mem r hr _ => ?_)
  unfold FT at hr
  split at hr
  · split at hr
    · rename_i hs
      simp only [Option.some.injEq] at hr
      subst hr
      refine ⟨rfl, rfl, rfl, by rw [shapeOk_length _ _ hs]; exact beq_le ht, fun hw => ?_⟩
      obtain ⟨ls, h1, rfl, h3⟩ := shapeOk_spec _ _ hs hw
      exact h ls h1 h3
    · cases hr
  · cases hr

theorem emm (a b q : Int) : a % q * b % q = a * b % q := by
  rw [Int.mul_emod, Int.emod_emod, ← Int.mul_emod]

theorem mem (a b q : Int) : a * (b % q) % q = a * b % q := by
  rw [Int.mul_emod, Int.emod_emod, ← Int.mul_emod]

theorem map1 {ls : List (List Int)} {a : Nat} (h : ls.map List.length = [a]) : ∃ l, ls = [l] ∧ l.length = a := by
  match ls, h with
  | [l], h => exact ⟨l, rfl, by simpa using h⟩
theorem map2 {ls : List (List Int)} {a b : Nat} (h : ls.map List.length = [a, b]) : ∃ l m, ls = [l, m] ∧ l.length = a ∧ m.length = b := by
  match ls, h with
  | [l, m], h => exact ⟨l, m, rfl, by simpa using h⟩
theorem map3 {ls : List (List Int)} {a b c : Nat} (h : ls.map List.length = [a, b, c]) : ∃ l m n, ls = [l, m, n] ∧ l.length = a ∧ m.length = b ∧ n.length = c := by
  match ls, h with
  | [l, m, n], h => exact ⟨l, m, n, rfl, by simpa using h⟩

theorem dT {p : Prop} [Decidable p] (h : p) : decide p = true := decide_eq_true h

theorem holds2 {p q : Prop} (h1 : p) (h2 : q) : Holds [p, q] := fun r hr => by
  rcases List.mem_cons.1 hr with rfl | hr
  · exact h1
  · rw [List.mem_singleton.1 hr]; exact h2


theorem list4 {l : List Int} (h : l.length = 4) : ∃ a b c d, l = [a, b, c, d] := by
  match l, h with
  | [a, b, c, d], _ => exact ⟨a, b, c, d, rfl⟩

theorem list8 {l : List Int} (h : l.length = 8) : ∃ a b c d e f g i, l = [a, b, c, d, e, f, g, i] := by
  match l, h with
  | [a, b, c, d, e, f, g, i], _ => exact ⟨a, b, c, d, e, f, g, i, rfl⟩

theorem hcons {p : Prop} {l : List Prop} (h : p) (h' : Holds l) : Holds (p :: l) := fun q hq => by
  rcases List.mem_cons.1 hq with rfl | hq
  · exact h
  · exact h' q hq

/-! ### A list of a plain length -/

def tabFrom (l : List Int) : Nat → Nat → List Int
  | _, 0 => []
  | i, m + 1 => l.getD i 0 :: tabFrom l (i + 1) m

def tab (m : Nat) (l : List Int) : List Int := tabFrom l 0 m

theorem tabFrom_eq : ∀ (m i : Nat) (l : List Int), l.length = i + m → tabFrom l i m = l.drop i
  | 0, i, l, h => by rw [List.drop_eq_nil_of_le (by omega)]; rfl
  | m + 1, i, l, h => by
    unfold tabFrom
    rw [tabFrom_eq m (i + 1) l (by omega), List.drop_eq_getElem_cons (show i < l.length by omega), List.getD, List.getElem?_eq_getElem (show i < l.length by omega)]
    rfl

theorem tab_eq (m : Nat) (l : List Int) (h : l.length = m) : tab m l = l := by
  unfold tab
  rw [tabFrom_eq m 0 l (by omega), List.drop_zero]

/-- A uint64 that is 0 or 1, as a number. -/
def unbit : A → A
  | .bit b => .int .u64 (bi b)
  | x => x

theorem VR.unbit {loc : Loc} {lk : Lk} {x : A} {v : Value} (h : VR loc lk x v) : VR loc lk (Sx.unbit x) v := by
  cases x with
  | bit b => exact ⟨h, wf_u64.2 (by cases b <;> exact ⟨by decide, by decide⟩)⟩
  | _ => exact h

theorem VRs.unbit {loc : Loc} {lk : Lk} : ∀ {l : List A} {vs : List Value}, VRs loc lk l vs → VRs loc lk (l.map Sx.unbit) vs
  | _, _, .nil => .nil
  | _, _, .cons h r => .cons (VR.unbit h) (VRs.unbit r)

theorem fnOk_unbit {P : Program} {gl : List Blk} {f : FuncId} {F : List A → List Blk → Option Res} (h : FnOk P gl f F) : FnOk P gl f (fun args mem => F (args.map unbit) mem) :=
  ⟨h.1, fun args mem r hr hob => by
    obtain ⟨h1, h2, h3⟩ := h.2 (args.map unbit) mem r hr hob
    exact ⟨h1, h2, fun loc W vals hV => h3 loc W vals (VRs.unbit hV)⟩⟩

/-- A function of plain values alone; for each argument another context. -/
theorem fnOk_plainH {f : FuncId} {fn : Func} {c : Code} {F : List A → List Blk → Option Res} (hf : Tryd.prog.funcs[f]? = some fn) (hname : (fn.name == "runtime.NumGoroutine") = false) (hb : fn.body = some c)
    (h : ∀ args mem r, F args mem = some r → Holds r.ob → mem = [] ∧ r.new = none ∧ r.mem = [] ∧ args.length ≤ fn.ntmps ∧
      ((∀ x ∈ args, wfA x) → ∃ hint l fuel ob, (∀ p ∈ l, FnOk Tryd.prog gl p.1 p.2) ∧ plainRun (mkh hint l) fn fuel args = some (r.val, ob) ∧ Holds ob)) : FnOk Tryd.prog gl f F := by
  refine fnOk_of_tri (C := mk []) hf hname hb (fun args mem r hr hob => ?_)
  obtain ⟨rfl, h2, h3, h4, h5⟩ := h args mem r hr hob
  refine ⟨h4, fun j b hj => (by rw [h3] at hj; simp at hj), fun b hb' => (by rw [h2] at hb'; cases hb'), fun hw _ => ?_⟩
  obtain ⟨hint, l, fuel, ob, hl, hrun, hob'⟩ := h5 hw
  unfold plainRun callRun at hrun
  rw [hb] at hrun
  simp only at hrun
  split at hrun
  · rename_i v s' hq
    split at hrun
    · rename_i hids
      simp only [Option.some.injEq, Prod.mk.injEq] at hrun
      obtain ⟨rfl, rfl⟩ := hrun
      split at hq
      · cases hq
      · rename_i ex s1 hne he
        split at hq
        · rename_i v' hv
          simp only [Option.some.injEq, Prod.mk.injEq] at hq
          obtain ⟨rfl, rfl⟩ := hq
          refine tri_ctx (tri_exec (mkh_ok hl) fuel he hob' ⟨?_, _, hv, ⟨?_, ?_, fun j hj => by simp at hj⟩⟩)
          · cases ex with
            | normal => exact Or.inl rfl
            | ret => exact Or.inr rfl
            | exit id => exact (hne id rfl).elim
          · rw [renA_plain _ _ hids]
          · rw [h2, hids]; rfl
        · cases hq
      · cases hq
    · cases hrun
  · cases hrun

/-- A Bool out of a function of two arrays. -/
def FB2 (k k1 : IntKind) (n n1 : Nat) (f : List Int → List Int → Bool) : List A → List Blk → Option Res
  | [.agg k0 l, .agg k2 m], [] => match decide (k0 = k) && decide (k2 = k1) && Nat.beq l.length n && Nat.beq m.length n1 with
    | true => some ⟨.bool (f l m), [], none, []⟩
    | false => none
  | _, _ => none

theorem fnOk_FB2 {C : Ctx} (hC : C.Ok) {f : FuncId} {fn : Func} {c : Code} {k k1 : IntKind} {n n1 : Nat} {g : List Int → List Int → Bool} (hf : C.P.funcs[f]? = some fn) (hname : (fn.name == "runtime.NumGoroutine") = false) (hb : fn.body = some c) (ht : Nat.ble 2 fn.ntmps = true)
    (h : ∀ l m : List Int, l.length = n → m.length = n1 → (∀ x ∈ l, wf k x) → (∀ x ∈ m, wf k1 x) → ∃ fuel v, plainRun C fn fuel [.agg k l, .agg k1 m] = some (.bool v, []) ∧ v = g l m) : FnOk C.P C.gl f (FB2 k k1 n n1 g) := by
  refine fnOk_plain hC hf hname hb (fun args mem r hr _ => ?_)
  unfold FB2 at hr
  split at hr
  · rename_i k0 l k2 m
    split at hr
    · rename_i hc
      simp only [Bool.and_eq_true] at hc
      have e0 := of_decide_eq_true hc.1.1.1
      have e1 := of_decide_eq_true hc.1.1.2
      have e2 := Nat.eq_of_beq_eq_true hc.1.2
      have e3 := Nat.eq_of_beq_eq_true hc.2
      subst e0; subst e1
      simp only [Option.some.injEq] at hr
      subst hr
      refine ⟨rfl, rfl, rfl, beq_le ht, fun hw => ?_⟩
      obtain ⟨fuel, v, hrun, hv⟩ := h l m e2 e3 (hw (.agg k0 l) (by simp)) (hw (.agg k2 m) (by simp))
      exact ⟨fuel, [], by rw [hrun, hv], Holds.nil⟩
    · cases hr
  · cases hr

end Go.Proofs.YtechbdggjfahhaaDoor.Sx
