/-
  One operation: what the shadow answers the model answers ('op1_sound').
-/
import Derived.Test.YtbdmahidobjaoaaDoorSxRel
import Derived.ChangeKeysEq
import Derived.Laws.BytesString
import Derived.ArgAppend
namespace Go.Proofs.YtbdmahidobjaoaaDoor.Sx
open Go

/-! ### Types -/

theorem tInt_ok {P : Program} {t : TypeId} {k : IntKind} (h : tInt P t = some k) :
    P.underlying t = some (.int k) ∧ ∃ i, P.info? t = some i ∧ i.size = 1 ∧ i.zero = some (.int k 0) := by
  unfold tInt at h
  split at h
  · rename_i k0 hu
    split at h
    · rename_i i hi
      split at h
      · rename_i hs
        split at h
        · rename_i k' hz
          split at h
          · rename_i hd
            have e := of_decide_eq_true hd
            simp only [Option.some.injEq] at h
            subst h; subst e
            exact ⟨hu, i, hi, hs, hz⟩
          · cases h
        · cases h
      · cases h
    · cases h
  · cases h

theorem zeroB_ok {z : Value} {k : IntKind} {n : Nat} (h : zeroB z k n = true) : z = .agg ((List.replicate n (0 : Int)).map (Value.int k)).toArray := by
  unfold zeroB at h
  split at h
  · rename_i cs
    simp only [Bool.and_eq_true] at h
    have hn := Nat.eq_of_beq_eq_true h.1
    congr 1
    apply Array.ext'
    simp only [List.map_replicate]
    rw [List.eq_replicate_iff]
    refine ⟨hn, fun v hv => ?_⟩
    have := List.all_eq_true.1 h.2 v hv
    split at this
    · rename_i k'
      have e := of_decide_eq_true this
      rw [e]
    · cases this
  · cases h

theorem tArr_ok {P : Program} {t e : TypeId} {n : Nat} {k : IntKind} (h : tArr P t = some (n, k, e)) :
    P.underlying t = some (.array n e) ∧ tInt P e = some k ∧ ∃ i, P.info? t = some i ∧ i.size = n ∧ i.zero = some (.agg ((List.replicate n (0 : Int)).map (Value.int k)).toArray) := by
  unfold tArr at h
  split at h
  · rename_i n0 e0 hu
    split at h
    · rename_i k0 hk
      split at h
      · rename_i i hi
        split at h
        · rename_i z hz
          split at h
          · rename_i hb
            simp only [Bool.and_eq_true] at hb
            have hn := Nat.eq_of_beq_eq_true hb.1
            have hz' := zeroB_ok hb.2
            simp only [Option.some.injEq, Prod.mk.injEq] at h
            obtain ⟨rfl, rfl, rfl⟩ := h
            exact ⟨hu, hk, i, hi, hn, by rw [hz, hz']⟩
          · cases h
        · cases h
      · cases h
    · cases h
  · cases h

theorem tRow_ok {P : Program} {t : TypeId} {n : Nat} {k : IntKind} (h : tRow P t = some (k, n)) :
    ∃ i z, P.info? t = some i ∧ i.size = n ∧ i.zero = some z ∧ z.cells = ((List.replicate n (0 : Int)).map (Value.int k)).toArray := by
  unfold tRow at h
  split at h
  · rename_i k0 hk
    simp only [Option.some.injEq, Prod.mk.injEq] at h
    obtain ⟨rfl, rfl⟩ := h
    obtain ⟨_, i, hi, hs, hz⟩ := tInt_ok hk
    exact ⟨i, _, hi, hs, hz, rfl⟩
  · split at h
    · rename_i n0 k0 e0 hk
      simp only [Option.some.injEq, Prod.mk.injEq] at h
      obtain ⟨rfl, rfl⟩ := h
      obtain ⟨_, _, i, hi, hs, hz⟩ := tArr_ok hk
      exact ⟨i, _, hi, hs, hz, rfl⟩
    · cases h

theorem tSlc_ok {P : Program} {t e : TypeId} {n bytes : Nat} {k : IntKind} (h : tSlc P t = some (k, e, n, bytes)) :
    P.underlying t = some (.slice e) ∧ tRow P e = some (k, n) ∧ ∃ i, P.info? e = some i ∧ i.bytes = bytes := by
  unfold tSlc at h
  split at h
  · rename_i e0 hu
    split at h
    · rename_i k0 n0 hk
      split at h
      · rename_i i hi
        simp only [Option.some.injEq, Prod.mk.injEq] at h
        obtain ⟨rfl, rfl, rfl, rfl⟩ := h
        exact ⟨hu, hk, i, hi, rfl⟩
      · cases h
    · cases h
  · cases h

section
variable {P : Program} {w : World}

theorem run_typeInfo' {t : TypeId} {i : TypeInfo} (h : P.info? t = some i) : (typeInfo t).run P w = .ok i w := by simp [typeInfo, h]
theorem run_sizeOf' {t : TypeId} {i : TypeInfo} (h : P.info? t = some i) : (sizeOf t).run P w = .ok i.size w := by simp [sizeOf, typeInfo, h]
theorem run_zeroValue' {t : TypeId} {i : TypeInfo} {z : Value} (h : P.info? t = some i) (hz : i.zero = some z) : (zeroValue t).run P w = .ok z w := by
  simp [zeroValue, typeInfo, h, hz]

theorem wrap_mod (k : IntKind) (n : Int) : k.wrap n % 2 ^ k.bits = n % 2 ^ k.bits := by
  unfold IntKind.wrap
  simp only []
  split
  · simp
  · simp

theorem wrap_congr (k : IntKind) (x y : Int) (h : x % 2 ^ k.bits = y % 2 ^ k.bits) : k.wrap x = k.wrap y := by
  unfold IntKind.wrap
  simp only [h]

theorem wf_wrap' (k : IntKind) (n : Int) : wf k (k.wrap n) := wrap_congr k _ _ (wrap_mod k n)

theorem wf_between {k : IntKind} {x y : Int} (h : wf k x) (hy : (0 ≤ y ∧ y ≤ x) ∨ (x ≤ y ∧ y ≤ 0)) : wf k y := by
  unfold wf IntKind.wrap at *
  cases k <;> simp only [IntKind.bits, IntKind.signed, Bool.true_and, Bool.false_and, Bool.false_eq_true, if_false, decide_eq_true_eq, ge_iff_le] at h ⊢ <;> (try split at h) <;> (try split) <;> omega

theorem tmod_between (x y : Int) : (0 ≤ x.tmod y ∧ x.tmod y ≤ x) ∨ (x ≤ x.tmod y ∧ x.tmod y ≤ 0) := by
  have h := Int.natAbs_tmod x y
  have h1 := Nat.mod_le x.natAbs y.natAbs
  rcases Int.le_total 0 x with hx | hx
  · have := Int.tmod_nonneg y hx
    omega
  · have := Int.tmod_nonneg y (show 0 ≤ -x by omega)
    rw [Int.neg_tmod] at this
    omega

theorem fdiv_between (x : Int) (n : Nat) : (0 ≤ x.fdiv (2 ^ n) ∧ x.fdiv (2 ^ n) ≤ x) ∨ (x ≤ x.fdiv (2 ^ n) ∧ x.fdiv (2 ^ n) ≤ 0) := by
  have hp : (0 : Int) < 2 ^ n := Int.pow_pos (by decide)
  rw [Int.fdiv_eq_ediv_of_nonneg x (by omega)]
  rcases Int.lt_or_le x 0 with hx | hx
  · right
    refine ⟨?_, ?_⟩
    · apply (Int.le_ediv_iff_mul_le hp).2
      have : x * 2 ^ n ≤ x * 1 := Int.mul_le_mul_of_nonpos_left (by omega) (by omega)
      omega
    · have := Int.ediv_le_ediv hp (show x ≤ 0 by omega)
      simpa using this
  · left
    exact ⟨Int.ediv_nonneg hx (by omega), Int.ediv_le_self _ hx⟩

theorem wf_u64 {n : Int} : wf .u64 n ↔ 0 ≤ n ∧ n < 18446744073709551616 := by
  unfold wf IntKind.wrap
  simp only [IntKind.bits, IntKind.signed, Bool.false_and, Bool.false_eq_true, if_false]
  omega

theorem wf_i64 {n : Int} : wf .i64 n ↔ -9223372036854775808 ≤ n ∧ n < 9223372036854775808 := by
  unfold wf
  rw [IntKind.wrap_i64]
  omega

theorem wf_zero (k : IntKind) : wf k 0 := by unfold wf; cases k <;> decide

theorem wf_bit (b : Bool) : wf .u64 (bi b) := by cases b <;> (unfold wf; decide)

theorem asI_ok {loc : Loc} {lk : Lk} {x : A} {v : Value} {k : IntKind} {n : Int} (hv : VR loc lk x v) (h : asI x = some (k, n)) : v = .int k n ∧ wf k n := by
  cases x <;> simp only [asI, Option.some.injEq, Prod.mk.injEq, reduceCtorEq] at h
  · obtain ⟨rfl, rfl⟩ := h; exact hv
  · obtain ⟨rfl, rfl⟩ := h; exact ⟨hv, wf_bit _⟩

theorem asBit_ok {loc : Loc} {lk : Lk} {x : A} {v : Value} {b : Bool} (hv : VR loc lk x v) (h : asBit x = some b) : v = .int .u64 (bi b) := by
  unfold asBit at h
  split at h
  · simp only [Option.some.injEq] at h; subst h; exact hv
  · simp only [Option.some.injEq] at h; subst h; exact hv.1
  · simp only [Option.some.injEq] at h; subst h; exact hv.1
  · cases h

end

/-- What an operation comes to: a value, nothing, or a call that ends in a value. -/
def Does (P : Program) (o : Oper) (a : Act) (w : World) (post : Value → World → Prop) : Prop :=
  (∃ v w', (execOp a.eval o).run P w = .ok (.value v) w' ∧ post v w') ∨
  (∃ w', (execOp a.eval o).run P w = .ok .skip w' ∧ post Go.undef w') ∨
  (∃ f args w', (execOp a.eval o).run P w = .ok (.enter f args) w' ∧ Calls P f args w' fun e w'' => ∃ v, e = .returned v ∧ post v w'')

theorem Does.wp {P : Program} {o : Oper} {a : Act} {w : World} {post : Value → World → Prop} {K : Act → World → Prop} {Q : Exit → Act → World → Prop}
    (h : Does P o a w post) (hK : ∀ v w', post v w' → K (a.put o.dst v) w') : o.wp P a w K Q := by
  unfold Oper.wp
  rcases h with ⟨v, w', hr, hp⟩ | ⟨w', hr, hp⟩ | ⟨f, args, w', hr, hp⟩
  · rw [hr]; exact hK _ _ hp
  · rw [hr]; exact hK _ _ hp
  · rw [hr, Oper.upon_enter]
    exact hp.mono fun e w'' ⟨v, he, hq⟩ => by subst he; exact hK _ _ hq

/-- bits.Sub64 as the model has it. -/
def sub64Entry : Array Value → Sem Value := fun args => do
  let (x, y, b) ← Extern.MathBitsCarry.three "Sub64" args
  pure (Extern.MathBitsCarry.pair ((x + Extern.MathBitsCarry.m64 - y - b) % Extern.MathBitsCarry.m64) (if x < y + b then 1 else 0))

/-- The contracts are kept. 'inLk': the blocks as a callee knows them. -/
def inLk (gl mem : List Blk) : Lk := fun i => if i < gl.length then gl[i]? else mem[i - gl.length]?

def orElse (d : Option Blk) : Option (Option Blk) → Option Blk
  | some (some b) => some b
  | _ => d

def outLk (gl mem : List Blk) (r : Res) : Lk := fun i =>
  if i < gl.length then gl[i]?
  else if i - gl.length < mem.length then orElse mem[i - gl.length]? r.mem[i - gl.length]?
  else if i = gl.length + mem.length then r.new else none

inductive VRs (loc : Loc) (lk : Lk) : List A → List Value → Prop
  | nil : VRs loc lk [] []
  | cons {x v xs vs} : VR loc lk x v → VRs loc lk xs vs → VRs loc lk (x :: xs) (v :: vs)

def fxIn (gl : List Blk) (loc : Loc) (mem : List Blk) : List Fx :=
  mem.zipIdx.map fun p => ⟨gl.length + p.2, (loc (gl.length + p.2)).1, (loc (gl.length + p.2)).2, p.1.rw, (loc (gl.length + p.2)).3⟩

/-- One function's contract: from values and blocks to a value and blocks. -/
def FnOk (P : Program) (gl : List Blk) (f : FuncId) (F : List A → List Blk → Option Res) : Prop :=
  (∃ fn, P.funcs[f]? = some fn ∧ (fn.name == "runtime.NumGoroutine") = false ∧ fn.body.isNone = false) ∧
  ∀ args mem r, F args mem = some r → Holds r.ob →
    (∀ (j : Nat) (b : Blk), r.mem[j]? = some (some b) → ∃ b0, mem[j]? = some b0 ∧ b.rw = b0.rw) ∧ (∀ b : Blk, r.new = some b → b.rw = true) ∧
    ∀ (loc : Loc) (W : World) (vals : List Value), VRs loc (inLk gl mem) args vals → HRel loc (inLk gl mem) W → (∀ g, g < gl.length → loc g = ⟨g, 0, 0, false⟩) → (∀ i, i < gl.length + mem.length → (loc i).4 = false) → (∀ (g : Nat) (b : Blk), gl[g]? = some b → b.rw = false) →
      Calls P f vals.toArray W fun e w' => ∃ v loc', e = .returned v ∧ VR loc' (outLk gl mem r) r.val v ∧ HRel loc' (outLk gl mem r) w' ∧
        (∀ i, i < gl.length + mem.length → loc' i = loc i) ∧ (∀ b, r.new = some b → W.heap.size ≤ (loc' (gl.length + mem.length)).1) ∧ Fr W (fxIn gl loc mem) w'

structure Ctx.Ok (C : Ctx) : Prop where
  glro : ∀ (g : Nat) (b : Blk), C.gl[g]? = some b → b.rw = false
  mixed : C.P.follows .mixedOrders = true
  add : ∀ f, C.ext f = 1 → ∀ args w, (callFunc f args).run C.P w = ((add64Entry args).run C.P w).andThen fun v w' => .ok (.value v) w'
  sub : ∀ f, C.ext f = 2 → ∀ args w, (callFunc f args).run C.P w = ((sub64Entry args).run C.P w).andThen fun v w' => .ok (.value v) w'
  fn : ∀ f, C.ext f = 0 → ∀ args mem r, C.fn f args mem = some r → FnOk C.P C.gl f (C.fn f)

section
variable {C : Ctx} {n nid : Nat} {W w : World} {fx : List Fx} {loc : Loc} {tm : Nat → A} {lk : Lk} {a : Act} {o : Oper}

/-- What stands behind one operation. -/
def Post (C : Ctx) (W : World) (fx : List Fx) (n : Nat) (tm : Nat → A) (lk : Lk) (a : Act) (dst : Option Tmp) (e : Eff) (v : Value) (w' : World) : Prop :=
  ∃ loc', RelL C.gl W fx loc' n (setT n tm dst e.val) (updL lk e.puts) (a.put dst v) w'

theorem does_pure (h : RelL C.gl W fx loc n tm lk a w) {x : Value} {v : A} {ob : List Prop} (hr : (execOp a.eval o).run C.P w = .ok (.value x) w) (hv : VR loc lk v x) :
    Does C.P o a w (Post C W fx n tm lk a o.dst ⟨v, [], ob⟩) :=
  Or.inl ⟨x, w, hr, loc, h.val o.dst hv⟩

theorem does_new (h : RelL C.gl W fx loc n tm lk a w) {ob : List Prop} (hn : lk nid = none) (k : IntKind) (t : TypeId) (l : List Int) (hl : ∀ x ∈ l, wf k x) (v : A) (x : Value)
    (hr : (execOp a.eval o).run C.P w = .ok (.value x) (w.alloc (.cells (l.map (Value.int k)).toArray t)))
    (hv : ∀ (loc' : Loc) (lk' : Lk), loc' nid = ⟨w.heap.size, 0, l.length, true⟩ → (lk' nid).isSome = true → VR loc' lk' v x) :
    Does C.P o a w (Post C W fx n tm lk a o.dst ⟨v, [(nid, ⟨k, t, l, true⟩)], ob⟩) := by
  obtain ⟨loc', e1, e2, h'⟩ := h.alloc hn k t l hl
  exact Or.inl ⟨x, _, hr, loc', h'.val o.dst (hv loc' _ e1 (by simp))⟩

theorem arith_ok {op : BinOp} {k : IntKind} {x y : Int} {v : A} (hs : isShift op = false) (hx : wf k x) (h : arith op k x y = some v) (t : TypeId) (w : World) :
    ∃ u, (binOp op t (.int k x) (.int k y)).run C.P w = .ok u w ∧ VR loc lk v u := by
  cases op <;> simp only [arith, isShift, reduceCtorEq] at h hs
  case quo =>
    split at h
    · cases h
    · rename_i hd
      have hd' : ¬ y = 0 := of_decide_eq_false hd
      simp only [Option.some.injEq] at h
      subst h
      exact ⟨_, by simp [binOp, Op.intDiv, hd'], rfl, wf_wrap' _ _⟩
  case rem =>
    split at h
    · cases h
    · rename_i hd
      have hd' : ¬ y = 0 := of_decide_eq_false hd
      simp only [Option.some.injEq] at h
      subst h
      exact ⟨_, by simp [binOp, Op.intDiv, hd'], rfl, wf_between hx (tmod_between x y)⟩
  all_goals
    simp only [Option.some.injEq] at h
    subst h
    first
      | (refine ⟨_, ?_, rfl⟩; simp [binOp, Op.intCmp]; done)
      | (refine ⟨_, ?_, rfl, wf_wrap' _ _⟩; simp [binOp, Op.intArith]; done)
      | (refine ⟨_, ?_, rfl, wf_wrap' _ _⟩; simp [binOp, intBits_and, intBits_or, intBits_xor, intBits_andNot]; done)

theorem shiftA_ok {op : BinOp} {k k' : IntKind} {x y : Int} {v : A} (hs : isShift op = true) (hx : wf k x) (h : shiftA op k x y = some v) (t : TypeId) (w : World) :
    ∃ u, (binOp op t (.int k x) (.int k' y)).run C.P w = .ok u w ∧ VR loc lk v u := by
  unfold shiftA at h
  split at h
  · cases h
  · rename_i hd
    have hd' : ¬ y < 0 := of_decide_eq_false hd
    cases op <;> simp only [isShift, reduceCtorEq] at h hs
    · simp only [Option.some.injEq] at h
      subst h
      exact ⟨_, by simp [binOp, Op.shift, hd'], rfl, wf_wrap' _ _⟩
    · simp only [Option.some.injEq] at h
      subst h
      exact ⟨_, by simp [binOp, Op.shift, hd'], rfl, wf_between hx (fdiv_between _ _)⟩

theorem part_int {e : TypeId} {k : IntKind} (hk : tInt C.P e = some k) (q : List Int) (j : Nat) (hj : j < q.length) (w : World) : (part e (q.map (Value.int k)).toArray j).run C.P w = .ok (.int k q[j]) w := by
  obtain ⟨hue, _⟩ := tInt_ok hk
  simp [part, isAgg, run_underlying hue, hj]

theorem eqItems_int {e : TypeId} {k : IntKind} (hk : tInt C.P e = some k) (d : Nat) (l l' : List Int) (hl : l.length = l'.length) (w : World) : ∀ (is : List Nat), (∀ j ∈ is, j < l.length) →
    (Op.eqItems (d + 1) e 1 (l.map (Value.int k)).toArray (l'.map (Value.int k)).toArray is).run C.P w = .ok (is.all fun j => l.getD j 0 == l'.getD j 0) w
  | [], _ => by simp [Op.eqItems]
  | j :: is, h => by
    have h1 := h j (by simp)
    have h2 : j < l'.length := by omega
    obtain ⟨hue, _⟩ := tInt_ok hk
    have ih := eqItems_int hk d l l' hl w is (fun i hi => h i (by simp [hi]))
    simp only [Op.eqItems, Sem.run_bind, Nat.mul_one, part_int hk l j h1, part_int hk l' j h2, Result.andThen_ok, run_equalIn_int w d e k k l[j] l'[j] hue, Sem.run_ite, ih, List.all_cons]
    cases hq : (l[j] == l'[j]) <;> simp_all

theorem equal_agg {t e : TypeId} {m : Nat} {k : IntKind} (ha : tArr C.P t = some (m, k, e)) (l l' : List Int) (hl : l.length = m) (hl' : l'.length = m) (w : World) :
    (Op.equal t (.agg (l.map (Value.int k)).toArray) (.agg (l'.map (Value.int k)).toArray)).run C.P w = .ok (decide (l = l')) w := by
  obtain ⟨hu, hk, i, hi, hs, hz⟩ := tArr_ok ha
  obtain ⟨hue, ie, hie, hse, hze⟩ := tInt_ok hk
  have hc : C.P.cellsOf e = 1 := by simp [Program.cellsOf, hie, hse]
  show (Op.equalIn (9999 + 1) t _ _).run C.P w = _
  rw [run_equalIn_array w 9999 _ _ hu hie, hc]
  rw [eqItems_int hk 9998 l l' (by omega) w (List.range m) (fun j hj => by have := List.mem_range.1 hj; omega)]
  congr 1
  rw [Bool.eq_iff_iff, List.all_eq_true, decide_eq_true_eq]
  constructor
  · intro h
    apply List.ext_getElem (by omega)
    intro j h1 h2
    have := h j (List.mem_range.2 (by omega))
    simpa [List.getD, h1, h2] using this
  · intro h j hj
    subst h
    simp

theorem asI_none_of {x : A} (h : asI x = none) : (∀ k n, x ≠ .int k n) ∧ ∀ b, x ≠ .bit b := by
  cases x <;> simp_all [asI]

theorem binA_ok (h : RelL C.gl W fx loc n tm lk a w) {op : BinOp} {t t' : TypeId} {x y : Operand} {e : Eff} (ho : o.op = .binOp op t x y t')
    (he : binA C op t o.dst (ev C.gl.length tm x) (ev C.gl.length tm y) = some e) (hob : Holds e.ob) : Does C.P o a w (Post C W fx n tm lk a o.dst e) := by
  have hx := h.ev x
  have hy := h.ev y
  generalize ev C.gl.length tm x = X at *
  generalize ev C.gl.length tm y = Y at *
  have base : ∀ (v : A) (u : Value) (ob : List Prop), (binOp op t (a.eval x) (a.eval y)).run C.P w = .ok u w → VR loc lk v u → (eqGuard op t x y (a.eval x) (a.eval y)).run C.P w = .ok () w →
      Does C.P o a w (Post C W fx n tm lk a o.dst ⟨v, [], ob⟩) := by
    intro v u ob hr hv hg
    refine does_pure h (x := u) ?_ hv
    simp [execOp, ho, hg, hr]
  have hinted : ∀ (v : A) (u : Value), hintV C o.dst v = e → (binOp op t (a.eval x) (a.eval y)).run C.P w = .ok u w → VR loc lk v u → (eqGuard op t x y (a.eval x) (a.eval y)).run C.P w = .ok () w →
      Does C.P o a w (Post C W fx n tm lk a o.dst e) := by
    intro v u hh hr hv hg
    unfold hintV at hh
    split at hh
    · rename_i c d hd
      split at hh
      · rename_i b hb
        subst hh
        have e1 : c = b := hob _ (List.mem_singleton.2 rfl)
        subst e1
        exact base _ u _ hr hv hg
      · subst hh
        exact base _ u _ hr hv hg
    · subst hh
      exact base _ u _ hr hv hg
  have ints : (match asI X, asI Y with
    | some (k, a), some (k', b) => match isShift op with
      | true => (shiftA op k a b).map fun v => (⟨v, [], []⟩ : Eff)
      | false => match decide (k = k') with
        | true => (arith op k a b).map (hintV C o.dst)
        | false => none
    | _, _ => none) = some e → Does C.P o a w (Post C W fx n tm lk a o.dst e) := by
    intro he
    split at he
    · rename_i k p k' q hX hY
      obtain ⟨ex, wx⟩ := asI_ok hx hX
      obtain ⟨ey, wy⟩ := asI_ok hy hY
      split at he
      · rename_i hs
        rw [Option.map_eq_some_iff] at he
        obtain ⟨v, hv, rfl⟩ := he
        obtain ⟨u, hr, hu⟩ := shiftA_ok (C := C) (loc := loc) (lk := lk) (k' := k') hs wx hv t w
        exact base v u _ (by rw [ex, ey]; exact hr) hu (by rw [ex]; simp [eqGuard_at_int])
      · rename_i hs
        split at he
        · rename_i hd
          have hkk := of_decide_eq_true hd
          subst hkk
          rw [Option.map_eq_some_iff] at he
          obtain ⟨v, hv, hh⟩ := he
          obtain ⟨u, hr, hu⟩ := arith_ok (C := C) (loc := loc) (lk := lk) hs wx hv t w
          exact hinted v u hh (by rw [ex, ey]; exact hr) hu (by rw [ex]; simp [eqGuard_at_int])
        · cases he
    · cases he
  unfold binA at he
  split at he
  · rename_i k l k' l'
    obtain ⟨ex, wx⟩ := hx
    obtain ⟨ey, wy⟩ := hy
    unfold aggEq at he
    split at he
    · rename_i m k2 e2 hm
      split at he
      · rename_i hb
        simp only [Bool.and_eq_true, Bool.not_eq_true'] at hb
        obtain ⟨⟨⟨⟨b1, b2⟩, b3⟩, b4⟩, b5⟩ := hb
        have e1 := of_decide_eq_true b1
        have e2' := of_decide_eq_true b2
        subst e1; subst e2'
        have l1 := Nat.eq_of_beq_eq_true b3
        have l2 := Nat.eq_of_beq_eq_true b4
        have hg : (eqGuard .eql t x y (a.eval x) (a.eval y)).run C.P w = .ok () w := by rw [ex, ey]; exact run_eqGuard_agg w _ t x y _ _ b5
        have hr : (binOp .eql t (a.eval x) (a.eval y)).run C.P w = .ok (.bool (decide (l = l'))) w := by
          rw [ex, ey]
          simp [binOp, equal_agg hm l l' l1 l2 w]
        simp only [Option.some.injEq] at he
        exact hinted _ _ he hr rfl hg
      · cases he
    · cases he
  · rename_i p q
    split at he
    · rename_i hu
      simp only [Option.some.injEq] at he
      have hx' : a.eval x = .bool p := hx
      have hy' : a.eval y = .bool q := hy
      exact hinted _ (.bool (p == q)) he (by rw [hx', hy']; exact run_eql_bool w t p q hu) rfl (by rw [hx']; simp [eqGuard_at_bool])
    · cases he
  · rename_i p q
    split at he
    · simp only [Option.some.injEq] at he
      have hx' : a.eval x = .string p := hx
      have hy' : a.eval y = .string q := hy
      exact hinted _ (.bool (p.toList == q.toList)) he (by rw [hx', hy']; simp [binOp, Op.stringOp]) rfl (by rw [hx']; simp [eqGuard_at_string])
    · cases he
  · exact ints he
theorem beq_le {a b : Nat} (h : Nat.ble a b = true) : a ≤ b := Nat.le_of_ble_eq_true h

theorem loadVar_ok (h : RelL C.gl W fx loc n tm lk a w) {t : TypeId} {X : A} {x : Value} {v : A} (hx : VR loc lk X x) (he : loadA C lk t X = some v) :
    ∃ ad u, x = .pointer (some ad) ∧ (loadVar t ad).run C.P w = .ok u w ∧ VR loc lk v u := by
  unfold loadA at he
  split at he
  · rename_i id off
    split at he
    · rename_i b hb
      obtain ⟨ex, _⟩ := hx
      have B := h.heap id b hb
      split at he
      · rename_i k hk
        split at he
        · rename_i hc
          simp only [Bool.and_eq_true] at hc
          have e1 := of_decide_eq_true hc.1
          have hlt : off < b.l.length := beq_le hc.2
          simp only [Option.some.injEq] at he
          subst he
          obtain ⟨hu, i, hi, hs, hz⟩ := tInt_ok hk
          have hcell := B.cell off b.l[off] (by simp [hlt])
          refine ⟨_, .int k b.l[off], ex, ?_, ?_⟩
          · simp [loadVar, isAgg, run_underlying hu, hcell, e1]
          · refine ⟨by simp [hlt], ?_⟩
            have := B.wfs b.l[off] (by simp)
            rw [e1]
            simpa [hlt] using this
        · cases he
      · split at he
        · rename_i m k e2 hk
          split at he
          · rename_i hc
            simp only [Bool.and_eq_true] at hc
            have e1 := of_decide_eq_true hc.1
            have hlt : off + m ≤ b.l.length := beq_le hc.2
            simp only [Option.some.injEq] at he
            subst he
            obtain ⟨hu, _, i, hi, hs, hz⟩ := tArr_ok hk
            have hlen : (sub b.l off m).length = m := by rw [sub_eq]; simp; omega
            have hl := run_loadCells_list (P := C.P) w ⟨(loc id).1, (loc id).2 + off, none⟩ ((sub b.l off m).map (Value.int k)) (fun j u hj => by
              rw [List.getElem?_map, Option.map_eq_some_iff] at hj
              obtain ⟨y, hy, rfl⟩ := hj
              rw [sub_eq, List.getElem?_take] at hy
              split at hy
              · rw [List.getElem?_drop] at hy
                have := B.cell (off + j) y hy
                rw [Addr.add_lit, Nat.add_assoc, e1]
                exact this
              · cases hy)
            rw [List.length_map, hlen] at hl
            refine ⟨_, .agg ((sub b.l off m).map (Value.int k)).toArray, ex, ?_, rfl, fun y hy => ?_⟩
            · simp [loadVar, isAgg, run_underlying hu, run_sizeOf' hi, hs, hl]
            · rw [sub_eq] at hy
              rw [e1]
              exact B.wfs y (List.mem_of_mem_drop (List.mem_of_mem_take hy))
          · cases he
        · cases he
    · cases he
  · cases he

theorem loadA_ok (h : RelL C.gl W fx loc n tm lk a w) {t : TypeId} {x : Operand} {v : A} (ho : o.op = .load t x) (he : loadA C lk t (ev C.gl.length tm x) = some v) :
    Does C.P o a w (Post C W fx n tm lk a o.dst ⟨v, [], []⟩) := by
  obtain ⟨ad, u, ex, hr, hv⟩ := loadVar_ok h (h.ev x) he
  exact does_pure h (x := u) (by simp [execOp, ho, ex, Instr.loadAt, Instr.sureAddr, hr]) hv

theorem run_storeVar_list {t : TypeId} {i : TypeInfo} (hi : C.P.info? t = some i) (b o : Nat) (v : Value) (x : List Int) (k : IntKind) (hv : v.cells = (x.map (Value.int k)).toArray) (hs : i.size = x.length)
    (hc : ∀ j, j < x.length → (w.cell? ⟨b, o + j, none⟩).isSome = true) (hf : ∀ j, j < x.length → w.frozen? ⟨b, o + j, none⟩ = false) :
    (storeVar t ⟨b, o, none⟩ v).run C.P w = .ok () (w.setCells b o (x.map (Value.int k))) := by
  have hst := run_storeCells_cells (P := C.P) b o (x.map (Value.int k)) 0 w (by simpa using hc) (by simpa using hf) (fun u hu => by
    obtain ⟨y, _, rfl⟩ := List.mem_map.1 hu
    rfl)
  simp [storeVar, run_sizeOf' hi, hv, hs, hst]

theorem Free.not {m : Nat} {fz : Nat × Nat} (h : Free m fz) {j : Nat} (hj : j < m) : (decide (fz.1 ≤ j) && decide (j < fz.2)) = false := by
  unfold Free at h
  rw [Bool.and_eq_false_iff, decide_eq_false_iff_not, decide_eq_false_iff_not]
  omega

theorem does_store (h : RelL C.gl W fx loc n tm lk a w) {t : TypeId} {x y : Operand} (ho : o.op = .store t x y) {id off : Nat} {b : Blk} (hb : lk id = some b) (hrw : b.rw = true)
    (ex : a.eval x = .pointer (some ⟨(loc id).1, (loc id).2 + off, none⟩)) {i : TypeInfo} (hi : C.P.info? t = some i) (l : List Int) (hv : (a.eval y).cells = (l.map (Value.int b.k)).toArray) (hs : i.size = l.length)
    (hfit : off + l.length ≤ b.l.length) (hl : ∀ q ∈ l, wf b.k q) (l' : List Int) (hl' : l' = over b.l off l) :
    Does C.P o a w (Post C W fx n tm lk a o.dst ⟨.undef, [(id, { b with l := l' })], []⟩) := by
  have B := h.heap id b hb
  obtain ⟨o1, ⟨cs, fz, o2, o3⟩, o4⟩ := B.own hrw
  have hst := run_storeVar_list (C := C) (w := w) hi (loc id).1 off (a.eval y) l b.k hv hs
    (fun j hj => by
      have := B.cell (off + j) b.l[off + j] (by simp)
      rw [o1, Nat.zero_add] at this
      simp [this])
    (fun j hj => by
      simp only [World.frozen?, o2]
      exact (o3.1.le (B.len o1 o2)).not (by omega))
  have := h.store hb hrw off l hfit hl
  subst hl'
  refine Or.inr (Or.inl ⟨_, ?_, loc, this.val o.dst rfl⟩)
  simp [execOp, ho, ex, o1, Instr.storeAt, Instr.sureAddr, hst]

theorem storeA_ok (h : RelL C.gl W fx loc n tm lk a w) {t : TypeId} {x y : Operand} {e : Eff} (ho : o.op = .store t x y) (he : storeA C lk t (ev C.gl.length tm x) (ev C.gl.length tm y) = some e) :
    Does C.P o a w (Post C W fx n tm lk a o.dst e) := by
  have hx := h.ev x
  have hy := h.ev y
  generalize ev C.gl.length tm x = X at *
  generalize ev C.gl.length tm y = Y at *
  unfold storeA at he
  split at he
  · rename_i id off
    split at he
    · rename_i b hb
      obtain ⟨ex, _⟩ := hx
      split at he
      · rename_i hrw
        split at he
        · rename_i k v hI
          obtain ⟨ey, wy⟩ := asI_ok hy hI
          split at he
          · rename_i k' hk
            split at he
            · rename_i hc
              simp only [Bool.and_eq_true] at hc
              have e1 := of_decide_eq_true hc.1.1
              have hlt : off < b.l.length := beq_le hc.2
              simp only [Option.some.injEq] at he
              subst he
              obtain ⟨hu, i, hi, hs, hz⟩ := tInt_ok hk
              subst e1
              exact does_store h ho hb hrw ex hi [v] (by rw [ey]; rfl) hs (by simp; omega) (by simpa using wy) _ (set_eq_over _ _ _ hlt)
            · cases he
          · cases he
        · split at he
          · rename_i k l m k' e2 hk hI0
            split at he
            · rename_i hc
              simp only [Bool.and_eq_true] at hc
              have e1 := of_decide_eq_true hc.1.1.1
              have hm := Nat.eq_of_beq_eq_true hc.1.2
              have hlt : off + m ≤ b.l.length := beq_le hc.2
              simp only [Option.some.injEq] at he
              subst he
              obtain ⟨hu, _, i, hi, hs, hz⟩ := tArr_ok hk
              obtain ⟨ey, wy⟩ := hy
              subst e1
              exact does_store h ho hb hrw ex hi l (by rw [ey]; rfl) (by omega) (by omega) wy _ (splice_eq _ _ _)
            · cases he
          · cases he
      · cases he
    · cases he
  · cases he

theorem inside_ok {j : Int} {m : Nat} (h : inside j m = true) : 0 ≤ j ∧ j < m := by
  simp only [inside, Bool.and_eq_true] at h
  exact ⟨of_decide_eq_true h.1, of_decide_eq_true h.2⟩

theorem indexAddrA_ok (h : RelL C.gl W fx loc n tm lk a w) {t : TypeId} {x i : Operand} {v : A} (ho : o.op = .indexAddr t x i) (he : indexAddrA C t (ev C.gl.length tm x) (ev C.gl.length tm i) = some v) :
    Does C.P o a w (Post C W fx n tm lk a o.dst ⟨v, [], []⟩) := by
  have hx := h.ev x
  have hy := h.ev i
  generalize ev C.gl.length tm x = X at *
  generalize ev C.gl.length tm i = Y at *
  unfold indexAddrA at he
  split at he
  · rename_i kk j hI
    obtain ⟨ey, wy⟩ := asI_ok hy hI
    split at he
    · rename_i m k e2 id off hk
      obtain ⟨ex, px⟩ := hx
      split at he
      · rename_i hin
        have hj := inside_ok hin
        simp only [Option.some.injEq] at he
        subst he
        obtain ⟨hu, hk2, i2, hi2, hs2, hz2⟩ := tArr_ok hk
        obtain ⟨hue, ie, hie, hse, hze⟩ := tInt_ok hk2
        refine does_pure h (x := .pointer (some ⟨(loc id).1, (loc id).2 + (off + j.toNat), none⟩)) ?_ ⟨rfl, px⟩
        simp [execOp, ho, ex, ey, Instr.indexAt, asIntOf, run_underlying hu, Instr.sureAddr, hj, run_sizeOf' hie, hse, Addr.add_lit, Nat.add_assoc]
      · cases he
    · rename_i id off len cap hk
      split at he
      · rename_i kk2 e2 m bt hk2
        split at he
        · rename_i hin
          have hj := inside_ok hin
          simp only [Option.some.injEq] at he
          subst he
          obtain ⟨hu, hr, i2, hi2, hs2⟩ := tSlc_ok hk2
          obtain ⟨i3, z, hi3, hs3, hz3, hc3⟩ := tRow_ok hr
          obtain ⟨⟨hlc, hcb⟩, ad, c, ex, hcap, had⟩ := hx
          obtain ⟨rfl, px⟩ := had (by omega)
          refine does_pure h (x := .pointer (some ⟨(loc id).1, (loc id).2 + (off + j.toNat * m), none⟩)) ?_ ⟨rfl, px⟩
          simp [execOp, ho, ex, ey, Instr.indexAt, asIntOf, run_underlying hu, hj, run_sizeOf' hi3, hs3, Addr.add_lit, Nat.add_assoc]
        · cases he
      · cases he
    · cases he
  · cases he

theorem indexA_ok (h : RelL C.gl W fx loc n tm lk a w) {t : TypeId} {x i : Operand} {v : A} (ho : o.op = .index t x i) (he : indexA C t (ev C.gl.length tm x) (ev C.gl.length tm i) = some v) :
    Does C.P o a w (Post C W fx n tm lk a o.dst ⟨v, [], []⟩) := by
  have hx := h.ev x
  have hy := h.ev i
  generalize ev C.gl.length tm x = X at *
  generalize ev C.gl.length tm i = Y at *
  unfold indexA at he
  split at he
  · rename_i kk j k l hI
    obtain ⟨ey, wy⟩ := asI_ok hy hI
    obtain ⟨ex, wx⟩ := hx
    split at he
    · rename_i m k' e2 hk
      split at he
      · rename_i hc
        simp only [Bool.and_eq_true] at hc
        have hj := inside_ok hc.1.1
        have hm := Nat.eq_of_beq_eq_true hc.1.2
        have e1 := of_decide_eq_true hc.2
        subst e1
        simp only [Option.some.injEq] at he
        subst he
        obtain ⟨hu, hk2, i2, hi2, hs2, hz2⟩ := tArr_ok hk
        obtain ⟨hue, ie, hie, hse, hze⟩ := tInt_ok hk2
        have hlt : j.toNat < l.length := by omega
        refine does_pure h (x := .int k' l[j.toNat]) ?_ ⟨by simp [hlt], ?_⟩
        · have := part_int (C := C) hk2 l j.toNat hlt w
          simp [execOp, ho, ex, ey, Instr.index, asIntOf, run_underlying hu, hj, run_sizeOf' hie, hse, this]
        · have := wx l[j.toNat] (by simp)
          simpa [hlt] using this
      · cases he
    · cases he
  · rename_i kk j s hI
    obtain ⟨ey, wy⟩ := asI_ok hy hI
    have ex : a.eval x = .string s := hx
    split at he
    · rename_i hu
      split at he
      · rename_i hin
        have hj := inside_ok hin
        simp only [Option.some.injEq] at he
        subst he
        have hlt : j.toNat < s.size := by omega
        refine does_pure h (x := .int .u8 (s[j.toNat].toNat : Int)) ?_ ⟨?_, ?_⟩
        · simp [execOp, ho, ex, ey, Instr.index, asIntOf, run_underlying hu, hj.1, hlt]
        · have h2 : j.toNat < s.data.toList.length := by simpa using hlt
          simp only [List.getD, List.getElem?_eq_getElem h2, Option.getD_some]
          rfl
        · have h2 : j.toNat < s.data.toList.length := by simpa using hlt
          simp only [List.getD, List.getElem?_eq_getElem h2, Option.getD_some]
          have := (s.data.toList[j.toNat]).toNat_lt
          unfold wf IntKind.wrap
          simp only [IntKind.bits, IntKind.signed, Bool.false_and, Bool.false_eq_true, if_false]
          omega
      · cases he
    · cases he
  · cases he

theorem unA_ok (h : RelL C.gl W fx loc n tm lk a w) {op : UnOp} {t : TypeId} {x : Operand} {v : A} (ho : o.op = .unOp op t x) (he : unA op (ev C.gl.length tm x) = some v) :
    Does C.P o a w (Post C W fx n tm lk a o.dst ⟨v, [], []⟩) := by
  have hx := h.ev x
  generalize ev C.gl.length tm x = X at *
  unfold unA at he
  split at he
  · rename_i b
    have ex : a.eval x = .bool b := hx
    simp only [Option.some.injEq] at he
    subst he
    exact does_pure h (x := .bool (!b)) (by simp [execOp, ho, ex, Op.unary]) rfl
  · split at he
    · rename_i k m hI
      obtain ⟨ex, wx⟩ := asI_ok hx hI
      simp only [Option.some.injEq] at he
      subst he
      exact does_pure h (x := .int k (k.wrap (0 - m))) (by simp [execOp, ho, ex, Op.unary, Op.intArith]) ⟨rfl, wf_wrap' _ _⟩
    · cases he
  · split at he
    · rename_i k m hI
      obtain ⟨ex, wx⟩ := asI_ok hx hI
      simp only [Option.some.injEq] at he
      subst he
      exact does_pure h (x := .int k (bits .xor k (if k.signed then -1 else k.max) m)) (by simp [execOp, ho, ex, Op.unary, intBits_xor]) ⟨rfl, by unfold bits; exact wf_wrap' _ _⟩
    · cases he
  · cases he

theorem convA_ok (h : RelL C.gl W fx loc n tm lk a w) {s t : TypeId} {x : Operand} {v : A} (ho : o.op = .convert s t x) (he : convA C s t (ev C.gl.length tm x) = some v) :
    Does C.P o a w (Post C W fx n tm lk a o.dst ⟨v, [], []⟩) := by
  have hx := h.ev x
  generalize ev C.gl.length tm x = X at *
  unfold convA at he
  split at he
  · rename_i k0 m hI
    obtain ⟨ex, wx⟩ := asI_ok hx hI
    split at he
    · rename_i k1 k hs hd
      simp only [Option.some.injEq] at he
      subst he
      exact does_pure h (x := .int k (k.wrap m)) (by simp [execOp, ho, ex, convert, run_underlying hs, run_underlying hd, Conv.intToInt]) ⟨rfl, wf_wrap' _ _⟩
    · cases he
  · cases he

theorem fill_int (k : IntKind) (i : Nat) (m : Int) (cells : Array Value) (rest : List (Nat × Value)) (h : i < cells.size) :
    Instr.fill (fun i => some (i * 1, 1)) cells ((i, .int k m) :: rest) = Instr.fill (fun i => some (i * 1, 1)) (cells.setIfInBounds i (.int k m)) rest := by
  have h' : ¬ cells.size < i + 1 := by omega
  simp [Instr.fill, Value.cells, h']

theorem fillA_ok {k : IntKind} {ρ : Operand → A} {a : Act} (hρ : ∀ x, VR loc lk (ρ x) (a.eval x)) : ∀ (ps : List (Nat × Operand)) (l l' : List Int), fillA l k (ps.map fun p => (p.1, ρ p.2)) = some l' → (∀ x ∈ l, wf k x) →
    Instr.fill (fun i => some (i * 1, 1)) (l.map (Value.int k)).toArray (ps.map fun p => (p.1, a.eval p.2)) = some (l'.map (Value.int k)).toArray ∧ (∀ x ∈ l', wf k x) ∧ l'.length = l.length
  | [], l, l', he, hl => by
    simp only [List.map_nil, fillA, Option.some.injEq] at he
    subst he
    exact ⟨rfl, hl, rfl⟩
  | (i, x) :: ps, l, l', he, hl => by
    simp only [List.map_cons, fillA] at he
    split at he
    · rename_i k' m hI
      obtain ⟨ex, wx⟩ := asI_ok (hρ x) hI
      split at he
      · rename_i hc
        simp only [Bool.and_eq_true] at hc
        have e1 := of_decide_eq_true hc.1
        have hlt : i < l.length := beq_le hc.2
        subst e1
        obtain ⟨h1, h2, h3⟩ := fillA_ok hρ ps _ l' he (fun y hy => by
          rcases List.mem_or_eq_of_mem_set hy with hy | hy
          · exact hl y hy
          · subst hy; exact wx)
        refine ⟨?_, h2, by simpa using h3⟩
        simp only [List.map_cons, ex]
        rw [fill_int _ _ _ _ _ (by simpa using hlt), ← h1]
        congr 1
        simp
      · cases he
    · cases he

theorem RelL.freeze (h : RelL C.gl W fx loc n tm lk a w) {i : Nat} {b : Blk} (hb : lk i = some b) (hrw : b.rw = true) {cs : Array Value} {fz : Nat × Nat} (hh : w.heap[(loc i).1]? = some (.cells cs b.t fz)) :
    RelL C.gl W fx loc n tm lk a (w.freeze ⟨(loc i).1, cs.size, none⟩ 1) := by
  obtain ⟨lo, hi⟩ := fz
  have hw : w.freeze ⟨(loc i).1, cs.size, none⟩ 1 = { w with heap := w.heap.modify (loc i).1 fun
      | .cells c elem (lo, hi) => .cells c elem (if lo == hi then (cs.size, cs.size + 1) else (min lo cs.size, max hi (cs.size + 1)))
      | o => o } := by
    simp only [World.freeze, Nat.one_ne_zero, if_false]
    congr 2
  have same : (w.freeze ⟨(loc i).1, cs.size, none⟩ 1).heap[(loc i).1]? = some (.cells cs b.t (if lo == hi then (cs.size, cs.size + 1) else (min lo cs.size, max hi (cs.size + 1)))) := by
    rw [hw]
    simp only [Array.getElem?_modify, if_true, hh, Option.map_some]
  have other : ∀ k, k ≠ (loc i).1 → (w.freeze ⟨(loc i).1, cs.size, none⟩ 1).heap[k]? = w.heap[k]? := fun k hk => by
    rw [hw]
    simp only [Array.getElem?_modify]
    rw [if_neg (fun e => hk e.symm)]
  have hsz : (w.freeze ⟨(loc i).1, cs.size, none⟩ 1).heap.size = w.heap.size := by rw [hw]; simp
  have hcell : ∀ x, (w.freeze ⟨(loc i).1, cs.size, none⟩ 1).cell? x = w.cell? x := fun x => by
    by_cases e : x.block = (loc i).1
    · simp only [World.cell?, e, same, hh]
    · simp only [World.cell?, other _ e]
  have hos : (w.freeze ⟨(loc i).1, cs.size, none⟩ 1).os = w.os := by rw [hw]
  have htp : (w.freeze ⟨(loc i).1, cs.size, none⟩ 1).tape = w.tape := by rw [hw]
  have hop : (w.freeze ⟨(loc i).1, cs.size, none⟩ 1).output = w.output := by rw [hw]
  generalize w.freeze ⟨(loc i).1, cs.size, none⟩ 1 = w' at *
  obtain ⟨a1, a2, a3, a4⟩ := h.heap i b hb
  obtain ⟨o1, ⟨cs2, fz2, o2, o3⟩, o4⟩ := a4 hrw
  rw [hh] at o2
  simp only [Option.some.injEq, Obj.cells.injEq] at o2
  obtain ⟨rfl, _, rfl⟩ := o2
  have hlen : b.l.length ≤ cs.size := by
    rcases Nat.lt_or_ge cs.size b.l.length with hlt | hge
    · have := a3 cs.size b.l[cs.size] (by simp [hlt])
      rw [o1, Nat.zero_add] at this
      simp [World.cell?, hh] at this
    · exact hge
  refine ⟨h.fix, h.glob, h.size, h.tmps, h.far, h.defers, ?_, h.new, h.rwfix, ?_⟩
  · intro j c hc
    obtain ⟨c1, c2, c3, c4⟩ := h.heap j c hc
    refine ⟨c1, by rw [hsz]; exact c2, fun q y hy => by rw [hcell]; exact c3 q y hy, fun hrw' => ?_⟩
    obtain ⟨d1, ⟨cs', fz', d2, d3⟩, d4⟩ := c4 hrw'
    refine ⟨d1, ?_, d4⟩
    by_cases hj : j = i
    · subst hj
      have : c = b := Option.some.inj (hc.symm.trans hb)
      subst this
      refine ⟨cs, _, same, ?_, o3.2⟩
      have o3 := o3.1
      unfold Free at o3 ⊢
      simp only at o3
      by_cases hq : lo = hi
      · simp only [hq, beq_self_eq_true, if_true]
        omega
      · have : (lo == hi) = false := by simpa using hq
        simp only [this, Bool.false_eq_true, if_false]
        right
        omega
    · exact ⟨cs', fz', by rw [other _ (d4 i b (Ne.symm hj) hb (Or.inr hrw) |> Ne.symm)]; exact d2, d3⟩
  · obtain ⟨f1, f2, f3, f4, f5⟩ := h.fr
    refine ⟨hos.trans f1, htp.trans f2, hop.trans f3, by rw [hsz]; exact f4, fun k hk hq => ?_⟩
    rw [other k (fun e => ?_)]
    · exact f5 k hk hq
    · obtain ⟨g1, g2⟩ := h.rwfix i b hb hrw
      by_cases hfx : ∃ p ∈ fx, p.id = i
      · obtain ⟨p, hp, e'⟩ := hfx
        have e2 := (h.fix p hp).1
        rw [e'] at e2
        exact hq p hp (g2 p hp e') (by rw [e, e2])
      · have := h.new i b hb (fun p hp e' => hfx ⟨p, hp, e'⟩) g1
        omega

/-- One bound of a slice expression, as the model asks for it. -/
def bnd (V : Option Value) (top d : Nat) (code : BoundsCode) : Sem Nat :=
  match V with
  | some v => Instr.sliceBound v top code
  | none => pure d

theorem sliceBounds_two (isS : Bool) (len cap : Nat) (lo hi : Option Value) :
    Instr.sliceBounds isS len cap lo hi none = (do
      let h ← bnd hi cap len (if isS then .sliceAcap else .sliceAlen)
      let l ← bnd lo h 0 .sliceB
      pure (l, h, cap)) := by
  unfold Instr.sliceBounds bnd
  cases hi <;> cases lo <;> rfl

theorem bound_ok {top d r : Nat} {X : Option A} {V : Option Value} (hX : ∀ x, X = some x → ∃ v, V = some v ∧ VR loc lk x v) (hN : X = none → V = none) (h : bound top d X = some r) (hd : d ≤ top) :
    r ≤ top ∧ ∀ (top' : Nat) (code : BoundsCode) (w : World), top ≤ top' → (bnd V top' d code).run C.P w = .ok r w := by
  unfold bound at h
  unfold bnd
  split at h
  · simp only [Option.some.injEq] at h
    subst h
    rw [hN rfl]
    exact ⟨hd, fun _ _ _ _ => rfl⟩
  · rename_i x
    obtain ⟨v, rfl, hv⟩ := hX x rfl
    split at h
    · rename_i k i hI
      obtain ⟨ex, wx⟩ := asI_ok hv hI
      split at h
      · rename_i hc
        simp only [Bool.and_eq_true] at hc
        have h1 := of_decide_eq_true hc.1
        have h2 := of_decide_eq_true hc.2
        simp only [Option.some.injEq] at h
        subst h
        refine ⟨by omega, fun top' code w ht => ?_⟩
        have h3 : i ≤ (top' : Int) := by omega
        simp [ex, Instr.sliceBound, asIntOf, h1, h3]
      · cases h
    · cases h

theorem sliceA_ok (h : RelL C.gl W fx loc n tm lk a w) {t : TypeId} {x : Operand} {lo hi : Option Operand} {v : A} (ho : o.op = .slice t x lo hi none)
    (he : sliceA C t (ev C.gl.length tm x) (lo.map (ev C.gl.length tm)) (hi.map (ev C.gl.length tm)) = some v) :
    Does C.P o a w (Post C W fx n tm lk a o.dst ⟨v, [], []⟩) := by
  have hx := h.ev x
  have hb : ∀ (q : Option Operand), (∀ y, q.map (ev C.gl.length tm) = some y → ∃ u, q.map a.eval = some u ∧ VR loc lk y u) ∧ (q.map (ev C.gl.length tm) = none → q.map a.eval = none) := fun q => by
    cases q with
    | none => exact ⟨fun y hy => (by cases hy), fun _ => rfl⟩
    | some q => exact ⟨fun y hy => (by simp only [Option.map_some, Option.some.injEq] at hy; subst hy; exact ⟨_, rfl, h.ev q⟩), fun hy => (by cases hy)⟩
  have hlo := hb lo
  have hhi := hb hi
  generalize ev C.gl.length tm x = X at *
  generalize lo.map (ev C.gl.length tm) = LO at *
  generalize hi.map (ev C.gl.length tm) = HI at *
  unfold sliceA at he
  split at he
  · rename_i m k e2 id off hk
    obtain ⟨ex, px⟩ := hx
    obtain ⟨hu, hk2, i2, hi2, hs2, hz2⟩ := tArr_ok hk
    obtain ⟨hue, ie, hie, hse, hze⟩ := tInt_ok hk2
    split at he
    case h_2 => cases he
    rename_i hbig
    have hbig' : m ≤ 16777216 := beq_le hbig
    split at he
    · rename_i hh hhb
      obtain ⟨b1, b2⟩ := bound_ok (C := C) hhi.1 hhi.2 hhb (Nat.le_refl _)
      split at he
      · rename_i ll hlb
        obtain ⟨c1, c2⟩ := bound_ok (C := C) hlo.1 hlo.2 hlb (Nat.zero_le _)
        simp only [Option.some.injEq] at he
        subst he
        have hsb : (Instr.sliceBounds false m m (lo.map a.eval) (hi.map a.eval) none).run C.P w = .ok (ll, hh, m) w := by
          have B := b2 m .sliceAlen w (Nat.le_refl _)
          have Cc := c2 hh .sliceB w (Nat.le_refl _)
          simp [sliceBounds_two, B, Cc]
        refine does_pure h (x := .slice (some (if m = ll then ⟨(loc id).1, (loc id).2 + off, none⟩ else (Addr.add ⟨(loc id).1, (loc id).2 + off, none⟩ ll))) (hh - ll) (m - ll)) ?_ ⟨⟨by omega, by omega⟩, _, m - ll, rfl, Nat.le_refl _, fun hpos => ⟨?_, px⟩⟩
        · simp [execOp, ho, ex, Instr.sliceAt, run_underlying hu, Instr.sureAddr, hsb, run_sizeOf' hie, hse]
        · rw [if_neg (by omega), Addr.add_lit, Nat.add_assoc]
      · cases he
    · cases he
  · rename_i id off len cap hk
    split at he
    · rename_i kk2 e2 m bt hk2
      obtain ⟨hu, hr, i2, hi2, hs2⟩ := tSlc_ok hk2
      obtain ⟨i3, z, hi3, hs3, hz3, hc3⟩ := tRow_ok hr
      obtain ⟨⟨hlc, hcb⟩, ad, c, ex, hcap, had⟩ := hx
      split at he
      · rename_i hh hhb
        obtain ⟨b1, b2⟩ := bound_ok (C := C) hhi.1 hhi.2 hhb hlc
        split at he
        · rename_i ll hlb
          obtain ⟨c1, c2⟩ := bound_ok (C := C) hlo.1 hlo.2 hlb (Nat.zero_le _)
          simp only [Option.some.injEq] at he
          subst he
          have hsb : (Instr.sliceBounds true len c (lo.map a.eval) (hi.map a.eval) none).run C.P w = .ok (ll, hh, c) w := by
            have B := b2 c .sliceAcap w hcap
            have Cc := c2 hh .sliceB w (Nat.le_refl _)
            simp [sliceBounds_two, B, Cc]
          refine does_pure h (x := .slice (if c = ll then ad else ad.map (·.add (ll * m))) (hh - ll) (c - ll)) ?_ ⟨⟨by omega, by omega⟩, _, c - ll, rfl, by omega, fun hpos => ?_⟩
          · simp [execOp, ho, ex, Instr.sliceAt, run_underlying hu, Instr.slice, hsb, run_sizeOf' hi3, hs3]
          · obtain ⟨rfl, px⟩ := had (by omega)
            refine ⟨?_, px⟩
            rw [if_neg (by omega)]
            simp [Addr.add_lit, Nat.add_assoc]
        · cases he
      · cases he
    · cases he
  · cases he

theorem convS_ok (h : RelL C.gl W fx loc n tm lk a w) {s t : TypeId} {x : Operand} {i off l c : Nat} {e : Eff} (ho : o.op = .convert s t x) (hX : ev C.gl.length tm x = .slc i off l c)
    (he : (match Nat.beq s t && Nat.ble 1 c, tSlc C.P t, lk i with
      | true, some (_, e, _, _), some b => match tInt C.P e, b.rw with
        | some .u8, true => some (⟨.slc i off l c, [], []⟩ : Eff)
        | _, _ => none
      | _, _, _ => none) = some e) : Does C.P o a w (Post C W fx n tm lk a o.dst e) := by
  have hx := h.ev x
  rw [hX] at hx
  split at he
  · rename_i k2 e2 m2 bt b hb hk hlk
    split at he
    · rename_i hi8 hrw
      simp only [Option.some.injEq] at he
      subst he
      simp only [Bool.and_eq_true] at hb
      have hst := Nat.eq_of_beq_eq_true hb.1
      have hc1 : 0 < c := beq_le hb.2
      subst hst
      obtain ⟨hu, hr, i2, hi2, hs2⟩ := tSlc_ok hk
      obtain ⟨hd, _⟩ := tInt_ok hi8
      have B := h.heap i b hlk
      obtain ⟨o1, ⟨cs, fz, o2, o3⟩, o4⟩ := B.own hrw
      have hx0 := hx
      obtain ⟨⟨hlc, hcb⟩, ad, cc, ex, hcap, had⟩ := hx
      obtain ⟨rfl, px⟩ := had hc1
      have h' := h.freeze hlk hrw o2
      refine Or.inl ⟨_, _, ?_, loc, h'.val o.dst (v := .slc i off l c) hx0⟩
      simp [execOp, ho, ex, convert, run_underlying hu, run_underlying hd, markStringish, World.shape?, o2]
    · cases he
  · cases he

theorem strA_ok (h : RelL C.gl W fx loc n tm lk a w) {s t : TypeId} {x : Operand} {ne : Bool} {i off l : Nat} {e : Eff} (ho : o.op = .convert s t x) (hu : C.P.underlying t = some .string)
    (hx : ∃ ad c, a.eval x = .slice ad l c ∧ (0 < l → ad = some ⟨(loc i).1, (loc i).2 + off, none⟩)) (he : strA C lk ne s i off l = some e) (hob : Holds e.ob) : Does C.P o a w (Post C W fx n tm lk a o.dst e) := by
  obtain ⟨ad, c, ex, had⟩ := hx
  unfold strA at he
  split at he
  · rename_i k2 e2 n2 bt hk
    obtain ⟨hus, hr, i2, hi2, hs2⟩ := tSlc_ok hk
    split at he
    · rename_i hi8
      obtain ⟨hue, _⟩ := tInt_ok hi8
      split at he
      · split at he
        · rename_i b hlk
          split at he
          · rename_i hkk
            have hkk' := of_decide_eq_true hkk
            simp only [Option.some.injEq] at he
            subst he
            obtain ⟨q1, q2⟩ := hob _ (List.mem_singleton.2 rfl)
            obtain rfl := had (by omega)
            have B := h.heap i b hlk
            have hlen : (sub b.l off l).length = l := by rw [sub_eq, List.length_take, List.length_drop]; omega
            have hcells : (loadCells (⟨(loc i).1, (loc i).2 + off, none⟩ : Addr) l).run C.P w = .ok ((sub b.l off l).map (Value.int .u8)).toArray w := by
              have := run_loadCells_list (P := C.P) w (⟨(loc i).1, (loc i).2 + off, none⟩ : Addr) ((sub b.l off l).map (Value.int .u8)) (fun j v hj => by
                rw [List.getElem?_map, Option.map_eq_some_iff] at hj
                obtain ⟨y, hy, rfl⟩ := hj
                rw [sub_eq, List.getElem?_take] at hy
                split at hy
                · rw [List.getElem?_drop] at hy
                  have := B.cell _ y hy
                  rw [Addr.add_lit, Nat.add_assoc, ← hkk']
                  exact this
                · cases hy)
              rw [List.length_map, hlen] at this
              exact this
            refine does_pure h (x := .string (baOf (sub b.l off l))) ?_ rfl
            simp [execOp, ho, ex, run_convert_bytes_string w s t e2 _ _ _ hus hue hu, run_bytesToString w _ _ c _ hcells, baOf]
          · cases he
        · cases he
      · split at he
        · rename_i h0
          have e0 := Nat.eq_of_beq_eq_true h0
          subst e0
          simp only [Option.some.injEq] at he
          subst he
          refine does_pure h (x := .string (baOf [])) ?_ rfl
          cases ad with
          | none => simp [execOp, ho, ex, run_convert_bytes_string w s t e2 _ _ _ hus hue hu, Conv.bytesToString, baOf]
          | some b0 =>
            have hl0 : (loadCells b0 0).run C.P w = .ok (([] : List Int).map (Value.int .u8)).toArray w := run_loadCells_list (P := C.P) w b0 [] (by simp)
            simp [execOp, ho, ex, run_convert_bytes_string w s t e2 _ _ _ hus hue hu, run_bytesToString w _ _ c _ hl0, baOf]
        · cases he
    · cases he
  · cases he

theorem does_call {f : FuncId} {c : Call} (ho : o.op = .call c) (hc : c.callee = .value (.func f)) :
    (execOp a.eval o).run C.P w = (callFunc f (c.args.map a.eval)).run C.P w := by
  simp [execOp, ho, resolve, hc, Act.eval, Deferred.ofValue, invoke]

theorem args3 {ρ : Operand → A} {args : Array Operand} {X Y Z : A} (he : args.toList.map ρ = [X, Y, Z]) : ∃ x y z : Operand, args = #[x, y, z] ∧ ρ x = X ∧ ρ y = Y ∧ ρ z = Z := by
  obtain ⟨l⟩ := args
  match l, he with
  | [x, y, z], he =>
    simp only [List.map_cons, List.map_nil, List.cons.injEq, and_true] at he
    exact ⟨x, y, z, rfl, he.1, he.2.1, he.2.2⟩

theorem args2 {ρ : Operand → A} {args : Array Operand} {X Y : A} (he : args.toList.map ρ = [X, Y]) : ∃ x y : Operand, args = #[x, y] ∧ ρ x = X ∧ ρ y = Y := by
  obtain ⟨l⟩ := args
  match l, he with
  | [x, y], he =>
    simp only [List.map_cons, List.map_nil, List.cons.injEq, and_true] at he
    exact ⟨x, y, rfl, he.1, he.2⟩

theorem args1 {ρ : Operand → A} {args : Array Operand} {X : A} (he : args.toList.map ρ = [X]) : ∃ x : Operand, args = #[x] ∧ ρ x = X := by
  obtain ⟨l⟩ := args
  match l, he with
  | [x], he =>
    simp only [List.map_cons, List.map_nil, List.cons.injEq, and_true] at he
    exact ⟨x, rfl, he⟩

theorem bi_range (b : Bool) : 0 ≤ bi b ∧ bi b ≤ 1 := by cases b <;> decide

theorem addA_ok {X Y Z v : A} {x y z : Value} (hx : VR loc lk X x) (hy : VR loc lk Y y) (hz : VR loc lk Z z) (he : addA X Y Z = some v) (w : World) :
    ∃ u, (add64Entry #[x, y, z]).run C.P w = .ok u w ∧ VR loc lk v u := by
  unfold addA at he
  split at he
  · rename_i p q d hX hY hZ
    obtain ⟨rfl, wx⟩ := asI_ok hx hX
    obtain ⟨rfl, wy⟩ := asI_ok hy hY
    have := asBit_ok hz hZ
    subst this
    simp only [Option.some.injEq] at he
    subst he
    have h1 := wf_u64.1 wx
    have h2 := wf_u64.1 wy
    have h3 := bi_range d
    refine ⟨_, run_add64 p q (bi d) h1.1 h2.1 h3.1 h3.2 w, _, _, rfl, ⟨rfl, ?_⟩, ?_⟩
    · rw [wf_u64]; unfold b64; omega
    · show Value.int _ _ = Value.int _ _
      congr 1
      unfold b64
      by_cases hc : 18446744073709551616 ≤ p + q + bi d
      · have e : (p + q + bi d) / 18446744073709551616 = 1 := by omega
        rw [decide_eq_true hc, e]; rfl
      · have e : (p + q + bi d) / 18446744073709551616 = 0 := by omega
        rw [decide_eq_false hc, e]; rfl
  · cases he

theorem run_sub64 {P : Program} (x y c : Int) (hx : 0 ≤ x) (hy : 0 ≤ y) (hy' : y < 18446744073709551616) (hc0 : 0 ≤ c) (hc : c ≤ 1) (w : World) :
    (sub64Entry #[.int .u64 x, .int .u64 y, .int .u64 c]).run P w =
      .ok (.tuple #[.int .u64 ((x + 18446744073709551616 - y - c) % 18446744073709551616), .int .u64 (if x < y + c then 1 else 0)]) w := by
  have key : ∀ k : Nat, k ≤ 1 → (sub64Entry #[.int .u64 x, .int .u64 y, .int .u64 (k : Int)]).run P w =
      .ok (Extern.MathBitsCarry.pair ((x.toNat + Extern.MathBitsCarry.m64 - y.toNat - k) % Extern.MathBitsCarry.m64) (if x.toNat < y.toNat + k then 1 else 0)) w := by
    intro k hk
    have : k = 0 ∨ k = 1 := by omega
    rcases this with rfl | rfl <;> rfl
  obtain ⟨k, rfl⟩ := Int.eq_ofNat_of_zero_le hc0
  rw [key k (by omega)]
  obtain ⟨X, rfl⟩ := Int.eq_ofNat_of_zero_le hx
  obtain ⟨Y, rfl⟩ := Int.eq_ofNat_of_zero_le hy
  simp only [Extern.MathBitsCarry.pair, Extern.MathBitsCarry.m64, Int.toNat_natCast]
  congr 4
  · simp; omega
  · by_cases h : X < Y + k
    · rw [if_pos h, if_pos (by omega)]; rfl
    · rw [if_neg h, if_neg (by omega)]; rfl

theorem subA_ok {X Y Z v : A} {x y z : Value} (hx : VR loc lk X x) (hy : VR loc lk Y y) (hz : VR loc lk Z z) (he : subA X Y Z = some v) (w : World) :
    ∃ u, (sub64Entry #[x, y, z]).run C.P w = .ok u w ∧ VR loc lk v u := by
  unfold subA at he
  split at he
  · rename_i p q d hX hY hZ
    obtain ⟨rfl, wx⟩ := asI_ok hx hX
    obtain ⟨rfl, wy⟩ := asI_ok hy hY
    have := asBit_ok hz hZ
    subst this
    simp only [Option.some.injEq] at he
    subst he
    have h1 := wf_u64.1 wx
    have h2 := wf_u64.1 wy
    have h3 := bi_range d
    refine ⟨_, run_sub64 p q (bi d) h1.1 h2.1 h2.2 h3.1 h3.2 w, _, _, rfl, ⟨rfl, ?_⟩, ?_⟩
    · rw [wf_u64]; unfold b64; omega
    · show Value.int _ _ = Value.int _ _
      congr 1
      by_cases hc : p < q + bi d
      · rw [decide_eq_true hc, if_pos hc]; rfl
      · rw [decide_eq_false hc, if_neg hc]; rfl
  · cases he

theorem extA_ok (hC : C.Ok) (h : RelL C.gl W fx loc n tm lk a w) {f : FuncId} {c : Call} {v : A} (ho : o.op = .call c) (hc : c.callee = .value (.func f))
    (he : extA (C.ext f) (c.args.toList.map (ev C.gl.length tm)) = some v) : Does C.P o a w (Post C W fx n tm lk a o.dst ⟨v, [], []⟩) := by
  unfold extA at he
  split at he
  · rename_i X Y Z hf hl
    obtain ⟨x, y, z, ha, rfl, rfl, rfl⟩ := args3 hl
    obtain ⟨u, hu, hv⟩ := addA_ok (C := C) (h.ev x) (h.ev y) (h.ev z) he w
    refine does_pure h (x := u) ?_ hv
    rw [does_call ho hc, hC.add f hf, ha]
    simp [hu]
  · rename_i X Y Z hf hl
    obtain ⟨x, y, z, ha, rfl, rfl, rfl⟩ := args3 hl
    obtain ⟨u, hu, hv⟩ := subA_ok (C := C) (h.ev x) (h.ev y) (h.ev z) he w
    refine does_pure h (x := u) ?_ hv
    rw [does_call ho hc, hC.sub f hf, ha]
    simp [hu]
  · cases he

theorem getD_replicate_zero (k : IntKind) (m : Nat) : ∀ x ∈ List.replicate m (0 : Int), wf k x := fun x hx => by
  rw [List.mem_replicate] at hx
  rw [hx.2]
  exact wf_zero k

theorem alloc_ok (h : RelL C.gl W fx loc n tm lk a w) {t : TypeId} {k : IntKind} {m : Nat} (hn : lk nid = none) (ho : o.op = .alloc t) (ht : tRow C.P t = some (k, m)) :
    Does C.P o a w (Post C W fx n tm lk a o.dst ⟨.ptr nid 0, [(nid, ⟨k, t, List.replicate m 0, true⟩)], []⟩) := by
  obtain ⟨i, z, hi, hs, hz, hc⟩ := tRow_ok ht
  refine does_new h hn k t _ (getD_replicate_zero k m) _ (.pointer (some ⟨w.heap.size, 0, none⟩)) ?_ (fun loc' lk' e1 e2 => ⟨by rw [e1], e2⟩)
  simp [execOp, ho, Instr.alloc, run_zeroValue' hi hz, newVar, newRow, hc]

theorem box_ok (h : RelL C.gl W fx loc n tm lk a w) {t : TypeId} {x : Operand} {k : IntKind} {l : List Int} (hn : lk nid = none) (ho : o.op = .box t x) (hx : (a.eval x).cells = (l.map (Value.int k)).toArray) (hl : ∀ y ∈ l, wf k y) :
    Does C.P o a w (Post C W fx n tm lk a o.dst ⟨.ptr nid 0, [(nid, ⟨k, t, l, true⟩)], []⟩) := by
  refine does_new h hn k t _ hl _ (.pointer (some ⟨w.heap.size, 0, none⟩)) ?_ (fun loc' lk' e1 e2 => ⟨by rw [e1], e2⟩)
  simp [execOp, ho, Instr.box, newVar, newRow, hx]

theorem build_ok (h : RelL C.gl W fx loc n tm lk a w) {t e2 : TypeId} {k : IntKind} {m : Nat} {ps : Array (Nat × Operand)} {l : List Int} (ho : o.op = .build t ps) (ht : tArr C.P t = some (m, k, e2))
    (hf : fillA (List.replicate m 0) k (ps.toList.map fun p => (p.1, ev C.gl.length tm p.2)) = some l) :
    Does C.P o a w (Post C W fx n tm lk a o.dst ⟨.agg k l, [], []⟩) := by
  obtain ⟨hu, hk2, i, hi, hs, hz⟩ := tArr_ok ht
  obtain ⟨hue, ie, hie, hse, hze⟩ := tInt_ok hk2
  obtain ⟨f1, f2, f3⟩ := fillA_ok (a := a) (fun x => h.ev x) ps.toList _ l hf (getD_replicate_zero k m)
  refine does_pure h (x := .agg (l.map (Value.int k)).toArray) ?_ ⟨rfl, f2⟩
  simp only [execOp, ho, Instr.build, Sem.run_bind, run_zeroValue' hi hz, Result.andThen_ok, run_underlying hu, run_sizeOf' hie, hse, Value.cells, Array.toList_map, f1]
  rfl

theorem buildSlice_ok (h : RelL C.gl W fx loc n tm lk a w) {t e2 : TypeId} {k : IntKind} {m bt : Nat} {ps : Array (Nat × Operand)} {l : List Int} (ho : o.op = .buildSlice t m ps) (ht : tSlc C.P t = some (k, e2, 1, bt)) (hm : m ≤ 16777216)
    (hf : fillA (List.replicate m 0) k (ps.toList.map fun p => (p.1, ev C.gl.length tm p.2)) = some l) :
    (execOp a.eval o).run C.P w = .ok (.value (.slice (some ⟨w.heap.size, 0, none⟩) m m)) (w.alloc (.cells (l.map (Value.int k)).toArray e2)) ∧ ∀ x ∈ l, wf k x := by
  obtain ⟨hu, hr, i2, hi2, hs2⟩ := tSlc_ok ht
  obtain ⟨i3, z, hi3, hs3, hz3, hc3⟩ := tRow_ok hr
  obtain ⟨f1, f2, f3⟩ := fillA_ok (a := a) (fun x => h.ev x) ps.toList _ l hf (getD_replicate_zero k m)
  refine ⟨?_, f2⟩
  have hz : ((Array.range (m * 1)).map fun j => z.cells[j % z.cells.size]!) = ((List.replicate m (0 : Int)).map (Value.int k)).toArray := by
    rw [hc3]
    apply Array.ext'
    simp only [Array.toList_map, Array.toList_range, Nat.mul_one]
    apply List.ext_getElem (by simp)
    intro j h1 h2
    simp [Nat.mod_one]
  have hlim : ¬ (m * 1 > 2 ^ 24) := by omega
  by_cases h0 : m * 1 = 0
  · have hm0 : m = 0 := by omega
    subst hm0
    have f0 : Instr.fill (fun i => some (i * 1, 1)) #[] (ps.toList.map fun p => (p.1, a.eval p.2)) = some (l.map (Value.int k)).toArray := f1
    simp only [execOp, ho, Instr.buildSlice, Sem.run_bind, run_underlying hu, Result.andThen_ok, run_sizeOf' hi3, hs3, if_neg hlim, Sem.run_pure, Nat.mul_one, if_true, Array.range_zero', Array.toList_map, Array.map_empty]
    simp only [Nat.mul_one] at f0
    simp only [f0]
    simp [newRow]
  · simp only [execOp, ho, Instr.buildSlice, Sem.run_bind, run_underlying hu, Result.andThen_ok, run_sizeOf' hi3, hs3, if_neg hlim, Sem.run_pure, if_neg h0, run_zeroValue' hi3 hz3, hz, Array.toList_map, f1]
    simp [newRow]

theorem foldSet (off : Nat) : ∀ (vs : List Value) (j0 : Nat) (cs : Array Value), off + j0 + vs.length ≤ cs.size →
    ((vs.zipIdx j0).foldl (fun cs (p : Value × Nat) => cs.setIfInBounds (off + p.2) p.1) cs).toList = cs.toList.take (off + j0) ++ vs ++ cs.toList.drop (off + j0 + vs.length)
  | [], j0, cs, _ => by simp
  | v :: vs, j0, cs, h => by
    simp only [List.length_cons] at h
    rw [List.zipIdx_cons, List.foldl_cons, foldSet off vs (j0 + 1) _ (by simp; omega)]
    have hlt : off + j0 < cs.toList.length := by simp; omega
    have e1 : (cs.setIfInBounds (off + j0) v).toList = cs.toList.set (off + j0) v := by simp
    have e2 : (cs.toList.set (off + j0) v).take (off + j0 + 1) = cs.toList.take (off + j0) ++ [v] := by
      rw [List.take_add_one, List.getElem?_set_self hlt, List.take_set_of_le (Nat.le_refl _)]
      rfl
    have e3 : (cs.toList.set (off + j0) v).drop (off + j0 + 1 + vs.length) = cs.toList.drop (off + j0 + 1 + vs.length) := List.drop_set_of_lt (by omega)
    rw [e1, show off + (j0 + 1) = off + j0 + 1 by omega, e2, e3, List.length_cons, show off + j0 + (vs.length + 1) = off + j0 + 1 + vs.length by omega]
    simp

theorem fill_row (s i : Nat) (cs : Array Value) (vs : List Value) (rest : List (Nat × Value)) (hl : vs.length = s) (hfit : i * s + s ≤ cs.size) :
    Instr.fill (fun i => some (i * s, s)) cs ((i, .agg vs.toArray) :: rest) = Instr.fill (fun i => some (i * s, s)) (cs.toList.take (i * s) ++ vs ++ cs.toList.drop (i * s + s)).toArray rest := by
  have hc : ¬ (vs.toArray.size ≠ s ∨ i * s + vs.toArray.size > cs.size) := by simp; omega
  have := foldSet (i * s) vs 0 cs (by omega)
  simp only [Nat.add_zero, hl] at this
  have e : (vs.toArray.zipIdx.foldl (fun cs (p : Value × Nat) => cs.setIfInBounds (i * s + p.2) p.1) cs) = (cs.toList.take (i * s) ++ vs ++ cs.toList.drop (i * s + s)).toArray := by
    apply Array.toList_inj.1
    rw [← this]
    simp
  rw [← e]
  simp [Instr.fill, Value.cells, hl, Nat.not_lt.2 hfit]

theorem fillR_ok {k : IntKind} {ρ : Operand → A} {a : Act} (hρ : ∀ x, VR loc lk (ρ x) (a.eval x)) (s : Nat) : ∀ (ps : List (Nat × Operand)) (l l' : List Int), fillR l k s (ps.map fun p => (p.1, ρ p.2)) = some l' → (∀ x ∈ l, wf k x) →
    Instr.fill (fun i => some (i * s, s)) (l.map (Value.int k)).toArray (ps.map fun p => (p.1, a.eval p.2)) = some (l'.map (Value.int k)).toArray ∧ (∀ x ∈ l', wf k x) ∧ l'.length = l.length
  | [], l, l', he, hl => by
    simp only [List.map_nil, fillR, Option.some.injEq] at he
    subst he
    exact ⟨rfl, hl, rfl⟩
  | (i, x) :: ps, l, l', he, hl => by
    simp only [List.map_cons] at he
    unfold fillR at he
    split at he
    · rename_i e0
      cases e0
    · rename_i i' k' m r e0
      simp only [List.cons.injEq, Prod.mk.injEq] at e0
      obtain ⟨⟨rfl, hX⟩, rfl⟩ := e0
      have hx := hρ x
      rw [hX] at hx
      obtain ⟨ex, wx⟩ := hx
      split at he
      · rename_i hc
        simp only [Bool.and_eq_true] at hc
        have e1 := of_decide_eq_true hc.1.1
        have e2 := Nat.eq_of_beq_eq_true hc.1.2
        have e3 := Nat.le_of_ble_eq_true hc.2
        subst e1
        rw [splice_eq] at he
        have hfit : i * s + m.length ≤ l.length := by omega
        obtain ⟨h1, h2, h3⟩ := fillR_ok hρ s ps _ l' he (fun y hy => by
          simp only [over, List.mem_append] at hy
          rcases hy with (hy | hy) | hy
          · exact hl y (List.mem_of_mem_take hy)
          · exact wx y hy
          · exact hl y (List.mem_of_mem_drop hy))
        refine ⟨?_, h2, by rw [h3]; exact over_length _ _ _ hfit⟩
        rw [← h1]
        simp only [List.map_cons, ex]
        rw [fill_row s i _ (m.map (Value.int k')) _ (by simpa using e2) (by simpa using e3), over, List.map_append, List.map_append, List.map_take, List.map_drop, e2]
      · cases he
    · cases he

theorem buildRow_ok (h : RelL C.gl W fx loc n tm lk a w) {t e2 : TypeId} {k : IntKind} {m s bt : Nat} {ps : Array (Nat × Operand)} {l : List Int} (ho : o.op = .buildSlice t m ps) (ht : tSlc C.P t = some (k, e2, s, bt)) (hm : m * s ≤ 16777216) (h1 : 1 ≤ m * s)
    (hf : fillR (List.replicate (m * s) 0) k s (ps.toList.map fun p => (p.1, ev C.gl.length tm p.2)) = some l) :
    (execOp a.eval o).run C.P w = .ok (.value (.slice (some ⟨w.heap.size, 0, none⟩) m m)) (w.alloc (.cells (l.map (Value.int k)).toArray e2)) ∧ (∀ x ∈ l, wf k x) ∧ l.length = m * s := by
  obtain ⟨hu, hr, i2, hi2, hs2⟩ := tSlc_ok ht
  obtain ⟨i3, z, hi3, hs3, hz3, hc3⟩ := tRow_ok hr
  obtain ⟨f1, f2, f3⟩ := fillR_ok (a := a) (fun x => h.ev x) s ps.toList _ l hf (getD_replicate_zero k (m * s))
  refine ⟨?_, f2, by simpa using f3⟩
  have hs : 1 ≤ s := by
    rcases Nat.eq_zero_or_pos s with e | e
    · rw [e, Nat.mul_zero] at h1; omega
    · exact e
  have hz : ((Array.range (m * s)).map fun j => z.cells[j % z.cells.size]!) = ((List.replicate (m * s) (0 : Int)).map (Value.int k)).toArray := by
    rw [hc3]
    apply Array.ext'
    simp only [Array.toList_map, Array.toList_range]
    apply List.ext_getElem (by simp)
    intro j g1 g2
    have : j % s < s := Nat.mod_lt _ hs
    simp [this]
  have hlim : ¬ (m * s > 2 ^ 24) := by omega
  have h0 : ¬ (m * s = 0) := by omega
  simp only [execOp, ho, Instr.buildSlice, Sem.run_bind, run_underlying hu, Result.andThen_ok, run_sizeOf' hi3, hs3, if_neg hlim, Sem.run_pure, if_neg h0, run_zeroValue' hi3 hz3, hz, Array.toList_map, f1]
  simp [newRow]

theorem arrayAtA_ok (h : RelL C.gl W fx loc n tm lk a w) {t : TypeId} {x : Operand} {v : A} (ho : o.op = .sliceToArrayPointer t x) (he : arrayAtA C t (ev C.gl.length tm x) = some v) :
    Does C.P o a w (Post C W fx n tm lk a o.dst ⟨v, [], []⟩) := by
  have hx := h.ev x
  generalize ev C.gl.length tm x = X at *
  unfold arrayAtA at he
  split at he
  · rename_i m k e2 id off len cap hk
    split at he
    · rename_i hc
      simp only [Bool.and_eq_true] at hc
      have h1 := beq_le hc.1
      have h2 := beq_le hc.2
      simp only [Option.some.injEq] at he
      subst he
      obtain ⟨hu, hk2, i2, hi2, hs2, hz2⟩ := tArr_ok hk
      obtain ⟨⟨hlc, hcb⟩, ad, c, ex, hcap, had⟩ := hx
      obtain ⟨rfl, px⟩ := had h2
      refine does_pure h (x := .pointer (some ⟨(loc id).1, (loc id).2 + off, none⟩)) ?_ ⟨rfl, px⟩
      simp [execOp, ho, ex, Instr.arrayAt, run_underlying hu, Nat.not_lt.2 h1]
    · cases he
  · cases he

theorem makeA_ok (h : RelL C.gl W fx loc n tm lk a w) {t : TypeId} {x y : Operand} {e : Eff} (ho : o.op = .makeSlice t x y) (he : makeA C nid t (ev C.gl.length tm x) (ev C.gl.length tm y) = some e) (hn : (look e.puts nid).isSome = true → lk nid = none) :
    Does C.P o a w (Post C W fx n tm lk a o.dst e) := by
  have hx := h.ev x
  have hy := h.ev y
  generalize ev C.gl.length tm x = X at *
  generalize ev C.gl.length tm y = Y at *
  unfold makeA at he
  split at he
  · rename_i l c k e2 m bytes hk
    obtain ⟨ex, wx⟩ := hx
    obtain ⟨ey, wy⟩ := hy
    split at he
    · rename_i hc
      simp only [Bool.and_eq_true] at hc
      have h1 := of_decide_eq_true hc.1.1
      have h2 := of_decide_eq_true hc.1.2
      have h3 := of_decide_eq_true hc.2
      simp only [Option.some.injEq] at he
      subst he
      obtain ⟨hu, hr, i2, hi2, hs2⟩ := tSlc_ok hk
      obtain ⟨i3, z, hi3, hs3, hz3, hc3⟩ := tRow_ok hr
      have hi23 : i2 = i3 := Option.some.inj (hi2.symm.trans hi3)
      subst hi23
      have hn' : lk nid = none := hn (by simp [look, Nat.beq_refl])
      refine does_new h hn' k e2 _ (getD_replicate_zero k _) _ (.slice (some ⟨w.heap.size, 0, none⟩) l.toNat c.toNat) ?_ (fun loc' lk' e1 e3 => ⟨⟨by omega, by have := wf_i64.1 wy; omega⟩, _, c.toNat, rfl, Nat.le_refl _, fun _ => ⟨by rw [e1], e3⟩⟩)
      have wl : IntKind.i64.wrap l = l := wx
      have wc : IntKind.i64.wrap c = c := wy
      have hb : (0 : Int) ≤ i2.bytes * l ∧ (i2.bytes : Int) * l ≤ i2.bytes * c := ⟨Int.mul_nonneg (by omega) h1, Int.mul_le_mul_of_nonneg_left h2 (by omega)⟩
      have t1 : ¬ (i2.bytes * c > 2 ^ 48 : Prop) := by rw [hs2]; omega
      have hz : (Array.range (c.toNat * m)).map (fun j => z.cells[j % z.cells.size]!) = ((List.replicate (c.toNat * m) (0 : Int)).map (Value.int k)).toArray := by
        rw [hc3]
        apply Array.ext'
        simp only [Array.toList_map, Array.toList_range]
        apply List.ext_getElem (by simp)
        intro j j1 j2
        have hj : j < c.toNat * m := by simpa using j2
        have hm : 0 < m := by
          rcases Nat.eq_zero_or_pos m with h0 | h0
          · subst h0; omega
          · exact h0
        have := Nat.mod_lt j hm
        simp [this]
      have c0 : ¬ (c < 0) := by omega
      have l0 : ¬ (l < 0) := by omega
      have lc : ¬ (l > c) := by omega
      have hz2 : (Array.range (c.toNat * m)).map (fun j => z.cells[j % z.cells.size]!) = Array.replicate (c.toNat * m) (Value.int k 0) := by
        rw [hz]; simp
      have tl : ((decide (c < 0) || decide ((i2.bytes : Int) * c > 2 ^ 48)) || decide (l < 0) || decide (l > c)) = false := by
        simp only [Bool.or_eq_false_iff, decide_eq_false_iff_not]
        exact ⟨⟨⟨c0, t1⟩, l0⟩, lc⟩
      simp only [execOp, ho, ex, ey, Instr.makeSlice, Sem.run_bind, run_underlying hu, Result.andThen_ok, asInt, asIntOf, Sem.run_pure, run_typeInfo' hi3, wl, wc, tl, Bool.false_eq_true, if_false, run_askRoom, run_sizeOf' hi3, hs3, newRow]
      by_cases h0 : c.toNat * m = 0
      · simp [h0, Array.range_zero']
      · simp [h0, run_zeroValue' hi3 hz3, hz2]
    · cases he
  · cases he

theorem does_builtin {b : Builtin} {c : Call} (ho : o.op = .call c) (hc : c.callee = .builtin b) :
    ∃ consts, (execOp a.eval o).run C.P w = (builtin b c.argTypes o.type consts (c.args.map a.eval)).run C.P w :=
  ⟨_, by simp [execOp, ho, resolve, hc, invoke]; rfl⟩

theorem copyA_ok (h : RelL C.gl W fx loc n tm lk a w) {c : Call} {t : TypeId} {ts : List TypeId} {x y : Operand} {e : Eff} (ho : o.op = .call c) (hc : c.callee = .builtin .copy) (hts : c.argTypes.toList = t :: ts) (ha : c.args = #[x, y])
    (he : copyA C lk t (ev C.gl.length tm x) (ev C.gl.length tm y) = some e) : Does C.P o a w (Post C W fx n tm lk a o.dst e) := by
  have hx := h.ev x
  have hy := h.ev y
  generalize ev C.gl.length tm x = X at *
  generalize ev C.gl.length tm y = Y at *
  obtain ⟨consts, hrun⟩ := does_builtin (C := C) (w := w) (a := a) ho hc
  have hat : c.argTypes = (t :: ts).toArray := by apply Array.ext'; simpa using hts
  unfold copyA at he
  split at he
  · rename_i k e2 m bt i off len cap i' off' len' cap' hk
    obtain ⟨hu, hr, i2, hi2, hs2⟩ := tSlc_ok hk
    obtain ⟨i3, z, hi3, hs3, hz3, hc3⟩ := tRow_ok hr
    obtain ⟨⟨hlc, hcb⟩, ad, cc, ex, hcap, had⟩ := hx
    obtain ⟨⟨hlc', hcb'⟩, ad', cc', ey, hcap', had'⟩ := hy
    split at he
    · rename_i b hb
      split at he
      · rename_i hcond
        simp only [Bool.and_eq_true] at hcond
        obtain ⟨⟨⟨q1, q2⟩, q3⟩, q4⟩ := hcond
        have m1 := Nat.eq_of_beq_eq_true q1
        have e1 := of_decide_eq_true q2
        have hfit : off + min len' len ≤ b.l.length := beq_le q4
        subst m1
        have hsz : (C.P.info? e2).map (·.size) = some 1 := by simp [hi3, hs3]
        split at he
        · rename_i hz0
          have hz0' := Nat.eq_of_beq_eq_true hz0
          simp only [Option.some.injEq] at he
          subst he
          have h0 : min len' len = 0 := by omega
          refine does_pure h (x := goInt 0) ?_ (by rw [h0]; exact ⟨rfl, by unfold wf; decide⟩)
          rw [hrun, ha, hat]
          have := run_copy_none (P := C.P) w t 0 o.type e2 ad ad' len cc len' cc' hu hsz h0
          have hcp : (Builtin.copy_ (t :: ts).toArray o.type #[.slice ad len cc, .slice ad' len' cc']).run C.P w = (Builtin.copy_ #[t, 0] o.type #[.slice ad len cc, .slice ad' len' cc']).run C.P w := rfl
          simp [builtin, ex, ey, hcp, this]
        · rename_i hz0
          split at he
          · rename_i b' hb'
            split at he
            · rename_i hc2
              simp only [Bool.and_eq_true] at hc2
              obtain ⟨⟨r1, r2⟩, r3⟩ := hc2
              have e3 := of_decide_eq_true r1
              have hfit' : off' + min len' len ≤ b'.l.length := beq_le r2
              have hcap1 : 0 < cap := beq_le r3
              have hcap2 : 0 < cap' := by
                rcases Nat.eq_zero_or_pos cap' with h0 | h0
                · subst h0; exact absurd hz0 (by decide)
                · exact h0
              simp only [Option.some.injEq] at he
              subst he
              obtain ⟨rfl, p1⟩ := had hcap1
              obtain ⟨rfl, p2⟩ := had' hcap2
              have B := h.heap i b hb
              have B' := h.heap i' b' hb'
              obtain ⟨o1, ⟨cs, fz, o2, o3⟩, o4⟩ := B.own q3
              have hlen : (sub b'.l off' (min len' len)).length = min len' len := by rw [sub_eq]; simp; omega
              have hcopy := run_copy_cells (P := C.P) w t 0 o.type e2 (loc i).1 off len cc ⟨(loc i').1, (loc i').2 + off', none⟩ len' cc' ((sub b'.l off' (min len' len)).map (Value.int b.k)) hu hsz (by simpa using hlen)
                (fun j u hj => by
                  rw [List.getElem?_map, Option.map_eq_some_iff] at hj
                  obtain ⟨y, hy, rfl⟩ := hj
                  rw [sub_eq, List.getElem?_take] at hy
                  split at hy
                  · rw [List.getElem?_drop] at hy
                    have := B'.cell (off' + j) y hy
                    rw [Addr.add_lit, Nat.add_assoc, ← e3]
                    exact this
                  · cases hy)
                (fun j hj => by
                  have hj' : j < min len' len := by simpa [hlen] using hj
                  have := B.cell (off + j) b.l[off + j] (by simp)
                  rw [o1, Nat.zero_add] at this
                  simp [this])
                (fun j hj => by
                  have hj' : j < min len' len := by simpa [hlen] using hj
                  simp only [World.frozen?, o2]
                  exact (o3.1.le (B.len o1 o2)).not (by omega))
                (fun u hu => by obtain ⟨y, _, rfl⟩ := List.mem_map.1 hu; rfl)
              have h' := h.store hb q3 off (sub b'.l off' (min len' len)) (by omega) (fun q hq => by
                rw [sub_eq] at hq
                have := B'.wfs q (List.mem_of_mem_drop (List.mem_of_mem_take hq))
                rwa [e3] at this)
              rw [splice_eq]
              refine Or.inl ⟨goInt ((min len' len : Nat) : Int), _, ?_, loc, h'.val o.dst (v := .int .i64 ((min len' len : Nat) : Int)) ⟨rfl, ?_⟩⟩
              · rw [hrun, ha, hat]
                have hcp : (Builtin.copy_ (t :: ts).toArray o.type #[.slice (some ⟨(loc i).1, off, none⟩) len cc, .slice (some ⟨(loc i').1, (loc i').2 + off', none⟩) len' cc']).run C.P w =
                    (Builtin.copy_ #[t, 0] o.type #[.slice (some ⟨(loc i).1, off, none⟩) len cc, .slice (some ⟨(loc i').1, (loc i').2 + off', none⟩) len' cc']).run C.P w := rfl
                simp [builtin, ex, ey, o1, hcp, hcopy, hlen]
              · rw [wf_i64]; omega
            · cases he
          · cases he
      · cases he
    · cases he
  · cases he

theorem does_newR (h : RelL C.gl W fx loc n tm lk a w) {ob : List Prop} (hn : lk nid = none) (k : IntKind) (t : TypeId) (l : List Int) (rest : Array Value) (hl : ∀ x ∈ l, wf k x) (v : A) (x : Value)
    (hr : (execOp a.eval o).run C.P w = .ok (.value x) (w.drew.alloc (.cells ((l.map (Value.int k)).toArray ++ rest) t)))
    (hv : ∀ (loc' : Loc) (lk' : Lk), loc' nid = ⟨w.heap.size, 0, l.length + rest.size, true⟩ → (lk' nid).isSome = true → VR loc' lk' v x) :
    Does C.P o a w (Post C W fx n tm lk a o.dst ⟨v, [(nid, ⟨k, t, l, true⟩)], ob⟩) := by
  obtain ⟨loc', e1, e2, h'⟩ := (h.other (w' := w.drew) rfl rfl rfl rfl).allocR hn k t l rest hl
  exact Or.inl ⟨x, _, hr, loc', h'.val o.dst (hv loc' _ e1 (by simp))⟩

theorem slcOr_ok {h : Option Bool} {nid m s c : Nat} {sp : Spot} {lk' : Lk} {loc' : Loc} (hl : loc' nid = sp) (h0 : sp.2 = 0) (hs : sp.4 = true) (hk : (lk' nid).isSome = true) (hm : m ≤ c) (hc : c < 9223372036854775808) (hr : c * s ≤ sp.3) :
    VR loc' lk' (slcOr h nid m s) (.slice (some ⟨sp.1, 0, none⟩) m c) := by
  subst hl
  unfold slcOr
  split
  · exact ⟨c, by rw [h0], hm, hc, hr, hs, hk⟩
  · exact ⟨⟨Nat.le_refl _, by omega⟩, _, c, rfl, hm, fun _ => ⟨by rw [h0], hk⟩⟩

theorem appendE_ok (h : RelL C.gl W fx loc n tm lk a w) {c : Call} {ne : Option Bool} {t t' : TypeId} {i off m cp : Nat} {e : Eff} (ho : o.op = .call c) (hc : c.callee = .builtin .append)
    (hts : c.argTypes.toList = [t, t']) (hargs : c.args.toList.map (ev C.gl.length tm) = [.emp, .slc i off m cp])
    (he : appendE C lk nid ne t t' i off m cp = some e) (hn : (look e.puts nid).isSome = true → lk nid = none) (hob : Holds e.ob) : Does C.P o a w (Post C W fx n tm lk a o.dst e) := by
  obtain ⟨consts, hrun⟩ := does_builtin (C := C) (w := w) (a := a) ho hc
  unfold appendE at he
  obtain ⟨x, y, ha, hX, hY⟩ := args2 hargs
  have hx := h.ev x
  have hy := h.ev y
  rw [hX] at hx
  rw [hY] at hy
  have hat : c.argTypes = #[t, t'] := by apply Array.ext'; simpa using hts
  obtain ⟨ad, ex⟩ := hx
  obtain ⟨⟨hlc, hcb⟩, ad', cc, ey, hcap, had⟩ := hy
  split at he
  · rename_i k e2 bt hh hb hk
    have htt := Nat.eq_of_beq_eq_true hb
    subst htt
    obtain ⟨hu, hr, i2, hi2, hs2⟩ := tSlc_ok hk
    obtain ⟨i3, z, hi3, hs3, hz3, hc3⟩ := tRow_ok hr
    have hii : i2 = i3 := Option.some.inj (hi2.symm.trans hi3)
    subst hii
    split at he
    · rename_i b hlk
      split at he
      · rename_i hkk
        have hkk' := of_decide_eq_true hkk
        simp only [Option.some.injEq] at he
        subst he
        obtain ⟨q1, q2, q3, q4⟩ := hob _ (List.mem_singleton.2 rfl)
        have B := h.heap i b hlk
        obtain ⟨rfl, px⟩ := had (by omega)
        have hnid : lk nid = none := hn (by simp [look, Nat.beq_refl])
        have hl : ∀ v ∈ sub b.l off m, wf k v := by
          intro v hv
          rw [sub_eq] at hv
          rw [← hkk']
          exact B.wfs v (List.mem_of_mem_drop (List.mem_of_mem_take hv))
        have hlen : (sub b.l off m).length = m := by rw [sub_eq, List.length_take, List.length_drop]; omega
        have hnews : ∀ (j : Nat) (v : Value), ((sub b.l off m).map (Value.int k))[j]? = some v → w.cell? ((⟨(loc i).1, (loc i).2 + off, none⟩ : Addr).add j) = some v := by
          intro j v hj
          rw [List.getElem?_map, Option.map_eq_some_iff] at hj
          obtain ⟨y, hy, rfl⟩ := hj
          rw [sub_eq, List.getElem?_take] at hy
          split at hy
          · rw [List.getElem?_drop] at hy
            have := B.cell _ y hy
            rw [Addr.add_lit, Nat.add_assoc, ← hkk']
            exact this
          · cases hy
        have h48 : m * i2.bytes ≤ 281474976710656 := by rw [hs2]; exact q3
        have hml : ((sub b.l off m).map (Value.int k)).length = m * i2.size := by rw [List.length_map, hlen, hs3, Nat.mul_one]
        have hge := grownCap_ge w m 0 e2
        have hle := grownCap_le_maxLen w m 0 e2 (by simp only [maxLen]; omega)
        have hmx : maxLen = 9223372036854775807 := by decide
        refine does_newR h hnid k e2 (sub b.l off m) (Builtin.zeroCells z.cells (grownCap w m 0 e2 - m)) hl _ (.slice (some ⟨w.heap.size, 0, none⟩) m (grownCap w m 0 e2)) ?_ (fun loc' lk' e1 e3 => slcOr_ok e1 rfl rfl e3 hge (by omega) (by
          rw [size_zeroCells, hc3, hlen]
          simp
          omega))
        rw [hrun, ha, hat]
        cases ad with
        | none =>
          have hh := run_append_nil (P := C.P) w t o.type e2 i2 z hu hi3 hz3 _ m cc _ hml hnews (by omega) (by omega) h48
          simp [builtin, ex, ey, hh]
        | some b0 =>
          have hh := run_append_grow (P := C.P) w t o.type e2 i2 z hu hi3 hz3 b0 0 0 [] (by simp) (by simp) _ m cc _ hml hnews (by omega) (by omega) (by rw [Nat.zero_add, nextslicecap_zero (by omega)]; exact h48)
          simp only [Nat.zero_add] at hh
          simp [builtin, ex, ey, hh]
      · cases he
    · cases he
  · rename_i k e2 bt hb hk
    have htt := Nat.eq_of_beq_eq_true hb
    subst htt
    obtain ⟨hu, hr, i2, hi2, hs2⟩ := tSlc_ok hk
    obtain ⟨i3, z, hi3, hs3, hz3, hc3⟩ := tRow_ok hr
    split at he
    · rename_i h0
      simp only [Bool.and_eq_true] at h0
      have e0 := Nat.eq_of_beq_eq_true h0.1
      subst e0
      simp only [Option.some.injEq] at he
      subst he
      refine does_pure h (x := .slice ad 0 0) ?_ ⟨ad, rfl⟩
      rw [hrun, ha, hat]
      have hl0 : ∀ b1 : Addr, (loadCells b1 0).run C.P w = .ok #[] w := fun b1 => run_loadCells_list (P := C.P) w b1 [] (by simp)
      cases ad with
      | none => cases ad' <;> simp [builtin, ex, ey, Builtin.append_, run_underlying hu, run_sizeOf' hi3, Builtin.lenOf, Builtin.firstCells, hl0]
      | some b0 => cases ad' <;> simp [builtin, ex, ey, Builtin.append_, run_underlying hu, run_sizeOf' hi3, Builtin.lenOf, Builtin.firstCells, hl0, storeCells]
    · cases he
  · cases he

theorem appendR_ok (h : RelL C.gl W fx loc n tm lk a w) {c : Call} {ne : Option Bool} {t t' : TypeId} {i len s j off m cp : Nat} {e : Eff} (ho : o.op = .call c) (hc : c.callee = .builtin .append)
    (hts : c.argTypes.toList = [t, t']) (hargs : c.args.toList.map (ev C.gl.length tm) = [.app i len s, .slc j off m cp])
    (he : appendR C lk nid ne t t' i len s j off m = some e) (hn : (look e.puts nid).isSome = true → lk nid = none) (hob : Holds e.ob) : Does C.P o a w (Post C W fx n tm lk a o.dst e) := by
  obtain ⟨consts, hrun⟩ := does_builtin (C := C) (w := w) (a := a) ho hc
  unfold appendR at he
  obtain ⟨x, y, ha, hX, hY⟩ := args2 hargs
  have hx := h.ev x
  have hy := h.ev y
  rw [hX] at hx
  rw [hY] at hy
  have hat : c.argTypes = #[t, t'] := by apply Array.ext'; simpa using hts
  have hx0 := hx
  obtain ⟨cap, ex, x1, x2, x3, x4, x5⟩ := hx
  obtain ⟨⟨hlc, hcb⟩, ad', cc, ey, hcap, had⟩ := hy
  split at he
  · rename_i k e2 s' bt hh hb hk
    have htt := Nat.eq_of_beq_eq_true hb
    subst htt
    obtain ⟨hu, hr, i2, hi2, hs2⟩ := tSlc_ok hk
    obtain ⟨i3, z, hi3, hs3, hz3, hc3⟩ := tRow_ok hr
    have hii : i2 = i3 := Option.some.inj (hi2.symm.trans hi3)
    subst hii
    split at he
    · rename_i b d hlk hlkd
      split at he
      · rename_i hq
        simp only [Bool.and_eq_true] at hq
        obtain ⟨⟨⟨⟨⟨⟨p1, p2⟩, p3⟩, p4⟩, p5⟩, p6⟩, p7⟩ := hq
        have p1' := Nat.eq_of_beq_eq_true p1
        have p2' := beq_le p2
        have p3' := of_decide_eq_true p3
        have p4' := of_decide_eq_true p4
        have p5' := Nat.eq_of_beq_eq_true p5
        have hij : i ≠ j := fun e => by rw [e, Nat.beq_refl] at p7; cases p7
        subst p1' p3' p5'
        simp only [Option.some.injEq] at he
        subst he
        obtain ⟨q1, q2, q3, q4, q5⟩ := hob _ (List.mem_singleton.2 rfl)
        have B := h.heap i b hlk
        have D := h.heap j d hlkd
        obtain ⟨o1, ⟨cs, fz, o2, o3⟩, o4⟩ := B.own p6
        obtain ⟨rfl, px⟩ := had (by omega)
        have hnid : lk nid = none := hn (by simp [look, Nat.beq_refl])
        have hl : ∀ v ∈ sub d.l off (m * s), wf b.k v := by
          intro v hv
          rw [sub_eq] at hv
          rw [← p4']
          exact D.wfs v (List.mem_of_mem_drop (List.mem_of_mem_take hv))
        have hlen : (sub d.l off (m * s)).length = m * s := by rw [sub_eq, List.length_take, List.length_drop]; omega
        have hnews : ∀ (q : Nat) (v : Value), ((sub d.l off (m * s)).map (Value.int b.k))[q]? = some v → w.cell? ((⟨(loc j).1, (loc j).2 + off, none⟩ : Addr).add q) = some v := by
          intro q v hj
          rw [List.getElem?_map, Option.map_eq_some_iff] at hj
          obtain ⟨y, hy, rfl⟩ := hj
          rw [sub_eq, List.getElem?_take] at hy
          split at hy
          · rw [List.getElem?_drop] at hy
            have := D.cell _ y hy
            rw [Addr.add_lit, Nat.add_assoc, ← p4']
            exact this
          · cases hy
        have hml : ((sub d.l off (m * s)).map (Value.int b.k)).length = m * i2.size := by rw [List.length_map, hlen, hs3]
        have hmx : maxLen = 9223372036854775807 := by decide
        rcases Nat.lt_or_ge cap (len + m) with hg | hg
        · -- it grows
          have holds : ∀ (q : Nat) (v : Value), (b.l.map (Value.int b.k))[q]? = some v → w.cell? ((⟨(loc i).1, (loc i).2, none⟩ : Addr).add q) = some v := by
            intro q v hj
            rw [List.getElem?_map, Option.map_eq_some_iff] at hj
            obtain ⟨y, hy, rfl⟩ := hj
            rw [Addr.add_lit]
            exact B.cell _ y hy
          have hh' := run_append_grow (P := C.P) w t o.type b.t i2 z hu hi3 hz3 ⟨(loc i).1, (loc i).2, none⟩ len cap (b.l.map (Value.int b.k)) (by rw [List.length_map, q3, hs3]) holds _ m cc _ hml hnews hg (by omega) (growslice_fits hg (by rw [hs2]; exact q4))
          have hge := grownCap_ge w (len + m) cap b.t
          have hle := grownCap_le_maxLen w (len + m) cap b.t (by omega)
          have hlw : ∀ v ∈ b.l ++ sub d.l off (m * s), wf b.k v := fun v hv => by
            rcases List.mem_append.1 hv with hv | hv
            · exact B.wfs v hv
            · exact hl v hv
          obtain ⟨loc', e1, e2, h'⟩ := (h.other (w' := w.drew) rfl rfl rfl rfl).allocR hnid b.k b.t (b.l ++ sub d.l off (m * s)) (Builtin.zeroCells z.cells (grownCap w (len + m) cap b.t - (len + m))) hlw
          have hin : i ≠ nid := fun e => by rw [e, hnid] at hlk; cases hlk
          have h2 := h'.kill (i := i) (b := b) (by simp only [hin, if_false]; exact hlk) (h.rwfix i b hlk p6).1 b.k b.t
          refine Or.inl ⟨.slice (some ⟨w.heap.size, 0, none⟩) (len + m) (grownCap w (len + m) cap b.t), _, ?_, loc', h2.val o.dst (slcOr_ok e1 rfl rfl (by simp [Ne.symm hin]) hge (by omega) ?_)⟩
          · rw [hrun, ha, hat]
            simp [builtin, ex, ey, hh']
          · rw [size_zeroCells, hc3, List.length_append, hlen, q3]
            simp only [List.size_toArray, List.length_map, List.length_replicate]
            rw [← Nat.add_mul, ← Nat.add_mul]
            exact Nat.mul_le_mul_right _ (by omega)
        · -- in its room
          have hroom : b.l.length + (sub d.l off (m * s)).length ≤ (loc i).3 := by
            rw [q3, hlen, ← Nat.add_mul]
            exact Nat.le_trans (Nat.mul_le_mul_right _ hg) x3
          have hb' : (loc i).2 + len * i2.size = b.l.length := by rw [o1, hs3, q3, Nat.zero_add]
          have hh' := run_append_room_cells (P := C.P) (w := w) t o.type b.t i2 hu hi3 (loc i).1 (loc i).2 len cap ⟨(loc j).1, (loc j).2 + off, none⟩ m cc _ hml hnews (fun u hu => by obtain ⟨y, _, rfl⟩ := List.mem_map.1 hu; rfl) hg
            (fun q hq => by
              rw [hb']
              have : q < (sub d.l off (m * s)).length := by simpa using hq
              simp [World.cell?, o2]
              omega)
            (fun q hq => by
              rw [hb']
              have : q < (sub d.l off (m * s)).length := by simpa using hq
              simp only [World.frozen?, o2]
              exact o3.1.not (by omega))
          obtain ⟨loc', e1, e2, h'⟩ := h.fill hlk p6 x4 hnid (sub d.l off (m * s)) hl hroom
          rw [hb'] at hh'
          have hin : i ≠ nid := fun e => by rw [e, hnid] at hlk; cases hlk
          refine Or.inl ⟨.slice (some ⟨(loc i).1, 0, none⟩) (len + m) cap, _, ?_, loc', h'.val o.dst (slcOr_ok e1 o1 x4 (by simp [updL, Ne.symm hin]) hg x2 x3)⟩
          rw [hrun, ha, hat]
          simp only [o1] at hh' ex
          simp [builtin, ex, ey, hh']
      · cases he
    · cases he
  · rename_i q hb hk
    have htt := Nat.eq_of_beq_eq_true hb
    subst htt
    obtain ⟨k, e2, s', bt⟩ := q
    obtain ⟨hu, hr, i2, hi2, hs2⟩ := tSlc_ok hk
    obtain ⟨i3, z, hi3, hs3, hz3, hc3⟩ := tRow_ok hr
    split at he
    · rename_i h0
      have e0 := Nat.eq_of_beq_eq_true h0
      subst e0
      simp only [Option.some.injEq] at he
      subst he
      refine does_pure h (x := .slice (some ⟨(loc i).1, (loc i).2, none⟩) len cap) ?_ ⟨⟨Nat.le_refl _, by omega⟩, _, cap, rfl, x1, fun _ => ⟨rfl, x5⟩⟩
      rw [hrun, ha, hat]
      have hl0 : ∀ b1 : Addr, (loadCells b1 0).run C.P w = .ok #[] w := fun b1 => run_loadCells_list (P := C.P) w b1 [] (by simp)
      cases ad' <;> simp [builtin, ex, ey, Builtin.append_, run_underlying hu, run_sizeOf' hi3, Builtin.lenOf, Builtin.firstCells, hl0, storeCells, x1]
    · cases he
  · cases he

theorem appendA_ok (h : RelL C.gl W fx loc n tm lk a w) {c : Call} {ne : Option Bool} {e : Eff} (ho : o.op = .call c) (hc : c.callee = .builtin .append)
    (he : appendA C lk nid ne c.argTypes.toList (c.args.toList.map (ev C.gl.length tm)) = some e) (hn : (look e.puts nid).isSome = true → lk nid = none) (hob : Holds e.ob) : Does C.P o a w (Post C W fx n tm lk a o.dst e) := by
  unfold appendA at he
  split at he
  · rename_i hts hargs
    exact appendE_ok h ho hc hts hargs he hn hob
  · rename_i hts hargs
    exact appendR_ok h ho hc hts hargs he hn hob
  · cases he

theorem builtA_ok (h : RelL C.gl W fx loc n tm lk a w) {c : Call} {b : Builtin} {e : Eff} (ho : o.op = .call c) (hc : c.callee = .builtin b)
    (he : builtA C lk b c.argTypes.toList (c.args.toList.map (ev C.gl.length tm)) = some e) : Does C.P o a w (Post C W fx n tm lk a o.dst e) := by
  obtain ⟨consts, hrun⟩ := does_builtin (C := C) (w := w) (a := a) ho hc
  unfold builtA at he
  split at he
  · rename_i X hl
    obtain ⟨x, ha, rfl⟩ := args1 hl
    have hx := h.ev x
    split at he
    · rename_i m t hm hts
      have hat : c.argTypes = #[t] := by apply Array.ext'; simpa using hts
      generalize ev C.gl.length tm x = X at *
      split at he
      · rename_i e2 i off len cap hu
        simp only [Option.some.injEq] at he
        subst he
        simp only [lenA, Option.some.injEq] at hm
        subst hm
        obtain ⟨⟨hlc, hcb⟩, ad, cc, ex, hcap, had⟩ := hx
        refine does_pure h (x := goInt len) ?_ ⟨rfl, by rw [wf_i64]; omega⟩
        rw [hrun, ha, hat]
        simp [builtin, ex, Builtin.len_, run_underlying hu]
      · rename_i e2 hu
        simp only [Option.some.injEq] at he
        subst he
        simp only [lenA, Option.some.injEq] at hm
        subst hm
        obtain ⟨ad, ex⟩ := hx
        refine does_pure h (x := goInt 0) ?_ ⟨rfl, by rw [wf_i64]; omega⟩
        rw [hrun, ha, hat]
        simp [builtin, ex, Builtin.len_, run_underlying hu]
      · rename_i s hu
        simp only [Option.some.injEq] at he
        subst he
        have ex : a.eval x = .string s := hx
        unfold lenA at hm
        simp only at hm
        split at hm
        · rename_i hb
          have hb' : s.size ≤ 16777216 := beq_le hb
          simp only [Option.some.injEq] at hm
          subst hm
          refine does_pure h (x := goInt s.size) ?_ ⟨rfl, by rw [wf_i64]; omega⟩
          rw [hrun, ha, hat]
          simp [builtin, ex, Builtin.len_, run_underlying hu]
        · cases hm
      · cases he
    · cases he
  · rename_i X Y hl
    obtain ⟨x, y, ha, rfl, rfl⟩ := args2 hl
    have hx := h.ev x
    have hy := h.ev y
    rw [Option.map_eq_some_iff] at he
    obtain ⟨v, hv, rfl⟩ := he
    generalize ev C.gl.length tm x = X at *
    generalize ev C.gl.length tm y = Y at *
    unfold minA at hv
    split at hv
    · rename_i k p k' q
      split at hv
      · rename_i hd
        have e1 := of_decide_eq_true hd
        subst e1
        simp only [Option.some.injEq] at hv
        subst hv
        obtain ⟨ex, wx⟩ := hx
        obtain ⟨ey, wy⟩ := hy
        refine does_pure h (x := .int k (if q < p then q else p)) ?_ ⟨rfl, by split <;> assumption⟩
        rw [hrun, ha]
        simp [builtin, ex, ey, run_min_int2]
      · cases hv
    · cases hv
  · rename_i X Y hl
    obtain ⟨x, y, ha, rfl, rfl⟩ := args2 hl
    have hx := h.ev x
    have hy := h.ev y
    rw [Option.map_eq_some_iff] at he
    obtain ⟨v, hv, rfl⟩ := he
    generalize ev C.gl.length tm x = X at *
    generalize ev C.gl.length tm y = Y at *
    unfold maxA at hv
    split at hv
    · rename_i k p k' q
      split at hv
      · rename_i hd
        have e1 := of_decide_eq_true hd
        subst e1
        simp only [Option.some.injEq] at hv
        subst hv
        obtain ⟨ex, wx⟩ := hx
        obtain ⟨ey, wy⟩ := hy
        refine does_pure h (x := .int k (if q > p then q else p)) ?_ ⟨rfl, by split <;> assumption⟩
        rw [hrun, ha]
        simp [builtin, ex, ey, run_max_int2]
      · cases hv
    · cases hv
  · rename_i X Y hl
    obtain ⟨x, y, ha, rfl, rfl⟩ := args2 hl
    split at he
    · rename_i t ts hts
      exact copyA_ok h ho hc hts ha he
    · cases he
  · cases he

/-! ### Calls by contract -/

theorem roots_spec (ng : Nat) : ∀ l : List Nat, (roots ng l).Nodup ∧ ∀ i, i ∈ roots ng l ↔ ng ≤ i ∧ i ∈ l
  | [] => by simp [roots]
  | j :: r => by
    obtain ⟨h1, h2⟩ := roots_spec ng r
    unfold roots
    split
    · rename_i hc
      simp only [Bool.and_eq_true, Bool.not_eq_true'] at hc
      have hj : ng ≤ j := beq_le hc.1
      have hn : j ∉ roots ng r := by
        have := hc.2
        simpa using this
      refine ⟨List.nodup_cons.2 ⟨hn, h1⟩, fun i => ?_⟩
      rw [List.mem_cons, List.mem_cons, h2]
      constructor
      · rintro (rfl | h)
        · exact ⟨hj, Or.inl rfl⟩
        · exact ⟨h.1, Or.inr h.2⟩
      · rintro ⟨h, rfl | h'⟩
        · exact Or.inl rfl
        · exact Or.inr ⟨h, h'⟩
    · rename_i hc
      refine ⟨h1, fun i => ?_⟩
      rw [h2, List.mem_cons]
      constructor
      · rintro ⟨h, h'⟩; exact ⟨h, Or.inr h'⟩
      · rintro ⟨h, rfl | h'⟩
        · have hb : Nat.ble ng i = true := Nat.ble_eq_true_of_le h
          rw [hb] at hc
          simp only [Bool.true_and, Bool.not_eq_false'] at hc
          have : i ∈ roots ng r := by simpa using hc
          exact (h2 i).1 this
        · exact ⟨h, h'⟩

theorem idxOf_spec : ∀ (is : List Nat) (i m j : Nat), idxOf is i m = some j → m ≤ j ∧ is[j - m]? = some i
  | [], _, _, _, h => by cases h
  | q :: r, i, m, j, h => by
    unfold idxOf at h
    split at h
    · rename_i hb
      have := Nat.eq_of_beq_eq_true hb
      simp only [Option.some.injEq] at h
      subst h
      simp [this]
    · obtain ⟨h1, h2⟩ := idxOf_spec r i (m + 1) j h
      refine ⟨by omega, ?_⟩
      rw [show j - m = (j - (m + 1)) + 1 by omega]
      simpa using h2

theorem allSome_spec {α : Type} : ∀ (l : List (Option α)) (r : List α), allSome l = some r → l = r.map some
  | [], r, h => by simp only [allSome, Option.some.injEq] at h; subst h; rfl
  | none :: _, _, h => by cases h
  | some x :: l, r, h => by
    unfold allSome at h
    split at h
    · rename_i q hq
      simp only [Option.some.injEq] at h
      subst h
      rw [allSome_spec l q hq]; rfl
    · cases h

theorem VR.ren {loc' : Loc} {lk' : Lk} {f : Nat → Option Nat} (hf : ∀ i j, f i = some j → (lk i).isSome = true → ((loc' j).1 = (loc i).1 ∧ (loc' j).2 = (loc i).2) ∧ (lk' j).isSome = true) :
    ∀ (x y : A) (v : Value), renA f x = some y → VR loc lk x v → VR loc' lk' y v
  | .any, y, v, h, _ => by simp only [renA, Option.some.injEq] at h; subst h; trivial
  | .undef, y, v, h, hv => by simp only [renA, Option.some.injEq] at h; subst h; exact hv
  | .bool _, y, v, h, hv => by simp only [renA, Option.some.injEq] at h; subst h; exact hv
  | .int _ _, y, v, h, hv => by simp only [renA, Option.some.injEq] at h; subst h; exact hv
  | .bit _, y, v, h, hv => by simp only [renA, Option.some.injEq] at h; subst h; exact hv
  | .str _, y, v, h, hv => by simp only [renA, Option.some.injEq] at h; subst h; exact hv
  | .emp, y, v, h, hv => by simp only [renA, Option.some.injEq] at h; subst h; exact hv
  | .agg _ _, y, v, h, hv => by simp only [renA, Option.some.injEq] at h; subst h; exact hv
  | .app _ _ _, y, v, h, hv => by simp only [renA, reduceCtorEq] at h
  | .ptr i o, y, v, h, hv => by
    simp only [renA, Option.map_eq_some_iff] at h
    obtain ⟨j, hj, rfl⟩ := h
    obtain ⟨h1, h2⟩ := hv
    obtain ⟨e, p⟩ := hf i j hj h2
    exact ⟨by rw [e.1, e.2]; exact h1, p⟩
  | .slc i o l c, y, v, h, hv => by
    simp only [renA, Option.map_eq_some_iff] at h
    obtain ⟨j, hj, rfl⟩ := h
    obtain ⟨h0, ad, cc, h1, h2, h3⟩ := hv
    refine ⟨h0, ad, cc, h1, h2, fun hc => ?_⟩
    obtain ⟨e, p⟩ := hf i j hj (h3 hc).2
    exact ⟨by rw [e.1, e.2]; exact (h3 hc).1, p⟩
  | .pair x1 x2, y, v, h, hv => by
    unfold renA at h
    split at h
    · rename_i y1 y2 h1 h2
      simp only [Option.some.injEq] at h
      subst h
      obtain ⟨u1, u2, e, v1, v2⟩ := hv
      exact ⟨u1, u2, e, VR.ren hf x1 y1 u1 h1 v1, VR.ren hf x2 y2 u2 h2 v2⟩
    · cases h

end

end Go.Proofs.YtbdmahidobjaoaaDoor.Sx
