/-
  Regions (whatever order the model draws), code, functions: the shadow's run ('exec', 'callRun') and that the model keeps to it.
-/
import Derived.Test.YtbdmahidobjaoaaDoorSxCall
import Derived.Orders
namespace Go.Proofs.YtbdmahidobjaoaaDoor.Sx
open Go

/-- One operation of a region run in the order of the text: what it did, what it read and wrote. Names: slot t is 2t, block i is 2i+1. -/
structure Rec where
  dst : Option Tmp
  eff : Eff
  reads : List Nat
  writes : List Nat
  nid : Nat

def tmpName : Operand → List Nat
  | .tmp t => [2 * t]
  | _ => []

def guardTmp (ops : List Oper) (o : Oper) : Option Tmp :=
  match o.guard with
  | some (j, _) => match ops[j]? with
    | some g => g.dst
    | none => none
  | none => none

def blkNames (x : A) : List Nat := (ids x).map fun i => 2 * i + 1

/-- The blocks that an operation looks into. -/
def memReads (ρ : Operand → A) : Op → List Nat
  | .load _ a => blkNames (ρ a)
  | .store _ a _ => blkNames (ρ a)
  | .convert _ _ x => blkNames (ρ x)
  | .call c => match c.callee with
    | .builtin .len => []
    | _ => c.args.toList.flatMap fun x => blkNames (ρ x)
  | _ => []

def dstName : Option Tmp → List Nat
  | some d => [2 * d]
  | none => []

/-- Is the operation wanted? (Its guard.) 'none': not known. -/
def wantA (ops : List Oper) (tm : Nat → A) (o : Oper) : Option Bool :=
  match o.guard with
  | none => some true
  | some (_, want) => match guardTmp ops o with
    | some t => match tm t with
      | .bool b => some (b == want)
      | .undef => some false
      | _ => none
    | none => none

def eff1 (C : Ctx) (ops : List Oper) (tm : Nat → A) (lk : Lk) (nid : Nat) (o : Oper) : Option Eff :=
  match wantA ops tm o with
  | some true => op1 C lk nid (ev C.gl.length tm) o
  | some false => some ⟨.undef, [], []⟩
  | none => none

def tmOf (s : St) : Nat → A := fun t => s.tm.getD t .any

def setL : List A → Option Tmp → A → List A
  | l, some d, v => l.set d v
  | l, none, _ => l

def step1 (C : Ctx) (ops : List Oper) (s : St) (o : Oper) : Option (St × Rec) :=
  let nid := fresh s.h
  match eff1 C ops (tmOf s) (look s.h) nid o with
  | some e => some (⟨setL s.tm o.dst e.val, puts s.h e.puts, s.ob ++ e.ob⟩,
      ⟨o.dst, e, (match guardTmp ops o with | some t => [2 * t] | none => []) ++ o.op.operands.toList.flatMap tmpName ++ memReads (ev C.gl.length (tmOf s)) o.op,
        dstName o.dst ++ e.puts.map (fun p => 2 * p.1 + 1), nid⟩)
  | none => none

def runOps (C : Ctx) (ops : List Oper) : List Oper → St → Option (St × List Rec)
  | [], s => some (s, [])
  | o :: r, s => match step1 C ops s o with
    | some (s', q) => match runOps C ops r s' with
      | some (s'', qs) => some (s'', q :: qs)
      | none => none
    | none => none

/-! ### Orders -/

def predsOf (o : Oper) : List Nat := (o.after.toList.filter (Region.binds .any)).map (·.on)

def maskOf (ms : List Nat) : List Nat → Nat
  | [] => 0
  | p :: r => ((1 <<< p) ||| ms.getD p 0) ||| maskOf ms r

def masks : List Oper → List Nat → List Nat
  | [], ms => ms
  | o :: r, ms => masks r (ms ++ [maskOf ms (predsOf o)])

def memB (x : Nat) : List Nat → Bool
  | [] => false
  | y :: r => match Nat.beq x y with
    | true => true
    | false => memB x r

def conflictB (q r : Rec) : Bool := q.writes.any (fun x => memB x r.reads || memB x r.writes) || q.reads.any (fun x => memB x r.writes)

def okOne (q : Rec) (i : Nat) : List Rec → List Nat → Bool
  | r :: rs, m :: ms => (!(conflictB q r) || m.testBit i) && okOne q i rs ms
  | _, _ => true

def okAll : List Rec → Nat → List Nat → Bool
  | q :: qs, i, _ :: ms => okOne q i qs ms && okAll qs (i + 1) ms
  | _, _, _ => true

def edgesB : List Oper → Nat → Bool
  | [], _ => true
  | o :: r, i => (predsOf o).all (fun p => Nat.ble (p + 1) i) && edgesB r (i + 1)

def orderOk (ops : List Oper) (qs : List Rec) : Bool := edgesB ops 0 && okAll qs 0 (masks ops [])

inductive Ex where
  | normal
  | exit (id : Nat)
  | ret

def execRegion (C : Ctx) (ops : List Oper) (draw : Bool) (s : St) : Option (Ex × St) :=
  match runOps C ops ops s with
  | some (s', qs) => match draw with
    | false => some (.normal, s')
    | true => match orderOk ops qs with
      | true => some (.normal, s')
      | false => none
  | none => none

/-- The shadow's run. -/
def exec (C : Ctx) : Nat → Code → St → Option (Ex × St)
  | 0, _, _ => none
  | f + 1, c, s => match c with
    | .skip => some (.normal, s)
    | .ret => some (.ret, s)
    | .exit id => some (.exit id, s)
    | .region _ ops draw => execRegion C ops.toList draw s
    | .seq x y => match exec C f x s with
      | some (.normal, s') => exec C f y s'
      | r => r
    | .cond c x y => match ev C.gl.length (tmOf s) c with
      | .bool true => exec C f x s
      | .bool false => exec C f y s
      | _ => none
    | .block id b => match exec C f b s with
      | some (.exit j, s') => match Nat.beq j id with
        | true => some (.normal, s')
        | false => some (.exit j, s')
      | r => r
    | .loop b => match exec C f b s with
      | some (.normal, s') => exec C f (.loop b) s'
      | r => r
    | _ => none

/-! ### The model keeps to it -/

theorem fresh_gt : ∀ (h : Hp) (i : Nat), fresh h ≤ i → look h i = none
  | [], _, _ => rfl
  | (j, b) :: h, i, hi => by
    have h1 : j + 1 ≤ i := Nat.le_trans (Nat.le_max_left (j + 1) (fresh h)) hi
    have h2 : fresh h ≤ i := Nat.le_trans (Nat.le_max_right (j + 1) (fresh h)) hi
    unfold look
    split
    · rename_i hb
      have := Nat.eq_of_beq_eq_true hb
      omega
    · exact fresh_gt h i h2

theorem look_put (b : Blk) : ∀ (h : Hp) (i : Nat), look (put h i b) = fun j => if j = i then some b else look h j
  | [], i => by
    funext j
    simp only [put, look]
    split
    · rename_i hb
      rw [if_pos (Nat.eq_of_beq_eq_true hb)]
    · rename_i hb
      rw [if_neg (fun e => by rw [e, Nat.beq_refl] at hb; cases hb)]
  | (q, c) :: h, i => by
    funext j
    unfold put
    split
    · rename_i hb
      have e := Nat.eq_of_beq_eq_true hb
      subst e
      simp only [look]
      split
      · rename_i hb2
        rw [if_pos (Nat.eq_of_beq_eq_true hb2)]
      · rename_i hb2
        rw [if_neg (fun e => by rw [e, Nat.beq_refl] at hb2; cases hb2)]
    · rename_i hb
      simp only [look, look_put b h i]
      split
      · rename_i hb2
        have e := Nat.eq_of_beq_eq_true hb2
        subst e
        rw [if_neg (fun e => by rw [e, Nat.beq_refl] at hb; cases hb)]
      · rfl

theorem look_puts : ∀ (l : List (Nat × Blk)) (h : Hp), look (puts h l) = updL (look h) l
  | [], _ => rfl
  | (i, b) :: r, h => by
    unfold puts updL
    rw [look_puts r, look_put]

theorem setL_length (l : List A) (d : Option Tmp) (v : A) : (setL l d v).length = l.length := by cases d <;> simp [setL]

theorem tmOf_setL (s : St) (d : Option Tmp) (v : A) (h : Hp) (ob : List Prop) : tmOf ⟨setL s.tm d v, h, ob⟩ = setT s.tm.length (tmOf s) d v := by
  funext t
  cases d with
  | none => rfl
  | some d =>
    unfold tmOf setL setT
    simp only [List.getD, List.getElem?_set]
    by_cases e : d = t
    · subst e
      by_cases hl : d < s.tm.length
      · simp [hl]
      · simp [hl]
    · rw [if_neg e, if_neg (fun q => e q.1.symm)]

/-- The relation over the shadow's states. -/
def RelS (gl : List Blk) (W : World) (fx : List Fx) (s : St) (a : Act) (w : World) : Prop :=
  ∃ loc, RelL gl W fx loc s.tm.length (tmOf s) (look s.h) a w

section
variable {C : Ctx} {n : Nat} {W w : World} {fx : List Fx} {loc : Loc} {tm : Nat → A} {lk : Lk} {a : Act} {o : Oper}

theorem wantA_ok (h : RelL C.gl W fx loc n tm lk a w) {ops : Array Oper} {b : Bool} (hb : wantA ops.toList tm o = some b) : Region.wanted o (yielded ops a.tmps) = b := by
  unfold wantA at hb
  split at hb
  · rename_i hg
    simp only [Option.some.injEq] at hb
    subst hb
    simp [Region.wanted, hg]
  · rename_i j want hg
    split at hb
    · rename_i t ht
      unfold guardTmp at ht
      rw [hg] at ht
      simp only at ht
      have hj : (ops[j]?).bind (·.dst) = some t := by
        split at ht
        · rename_i g hq
          have : ops[j]? = some g := by simpa using hq
          rw [this]; exact ht
        · cases ht
      have hv := h.getVR t
      split at hb
      · rename_i q hq
        rw [hq] at hv
        have hv' : a.tmps.getD t Go.undef = .bool q := hv
        have hsome : a.tmps[t]? = some (.bool q) := by
          rcases Nat.lt_or_ge t a.tmps.size with hlt | hge
          · simp only [Array.getD, hlt, dif_pos] at hv'
            simp only [hlt, getElem?_pos, Option.some.injEq]
            exact hv'
          · simp [Array.getD, Nat.not_lt.2 hge, Go.undef] at hv'
        simp only [Option.some.injEq] at hb
        subst hb
        simp [Region.wanted, hg, yielded, hj, hsome]
      · rename_i hq
        rw [hq] at hv
        have hv' : a.tmps.getD t Go.undef = Go.undef := hv
        have hy : yielded ops a.tmps j = none := by
          unfold yielded
          rw [hj]
          simp only [Option.bind_some]
          rcases Nat.lt_or_ge t a.tmps.size with hlt | hge
          · simp only [Array.getD, hlt, dif_pos] at hv'
            have : a.tmps[t]? = some Go.undef := by
              simp only [hlt, getElem?_pos, Option.some.injEq]
              exact hv'
            rw [this]; rfl
          · rw [Array.getElem?_eq_none hge]
        simp only [Option.some.injEq] at hb
        subst hb
        simp [Region.wanted, hg, hy]
      · cases hb
    · cases hb

/-- One operation of a region, its guard asked. -/
theorem eff1_sound (hC : C.Ok) (h : RelL C.gl W fx loc n tm lk a w) {ops : Array Oper} {nid : Nat} {e : Eff} (he : eff1 C ops.toList tm lk nid o = some e) (hn : (look e.puts nid).isSome = true → lk nid = none) (hob : Holds e.ob)
    {K : Act → World → Prop} {Q : Exit → Act → World → Prop} (hK : ∀ a' w' loc', RelL C.gl W fx loc' n (setT n tm o.dst e.val) (updL lk e.puts) a' w' → K a' w') :
    if Region.wanted o (yielded ops a.tmps) = true then o.wp C.P a w K Q ∨ (o.asks C.P a w ∧ LetsOut Q) else K (a.put o.dst Go.undef) w := by
  unfold eff1 at he
  split at he
  · rename_i hw
    rw [if_pos (wantA_ok h hw)]
    exact Or.inl ((op1_sound hC h he hn hob).wp fun v w' ⟨loc', hr⟩ => hK _ _ loc' hr)
  · rename_i hw
    rw [wantA_ok h hw]
    simp only [Option.some.injEq] at he
    subst he
    exact hK _ _ loc (h.val o.dst rfl)
  · cases he

theorem step1_fresh {ops : List Oper} {s s' : St} {q : Rec} (h : step1 C ops s o = some (s', q)) :
    eff1 C ops (tmOf s) (look s.h) (fresh s.h) o = some q.eff ∧ look s.h q.nid = none ∧ q.nid = fresh s.h ∧ q.dst = o.dst ∧ s' = ⟨setL s.tm o.dst q.eff.val, puts s.h q.eff.puts, s.ob ++ q.eff.ob⟩ ∧
      q.reads = (match guardTmp ops o with | some t => [2 * t] | none => []) ++ o.op.operands.toList.flatMap tmpName ++ memReads (ev C.gl.length (tmOf s)) o.op ∧ q.writes = dstName o.dst ++ q.eff.puts.map (fun p => 2 * p.1 + 1) := by
  unfold step1 at h
  simp only at h
  split at h
  · rename_i e he
    simp only [Option.some.injEq, Prod.mk.injEq] at h
    obtain ⟨rfl, rfl⟩ := h
    exact ⟨he, fresh_gt _ _ (Nat.le_refl _), rfl, rfl, rfl, rfl, rfl⟩
  · cases h

theorem runOps_ob {ops : List Oper} : ∀ (l : List Oper) (s s' : St) (qs : List Rec), runOps C ops l s = some (s', qs) → Holds s'.ob → Holds s.ob ∧ ∀ q ∈ qs, Holds q.eff.ob
  | [], s, s', qs, h, hob => by
    simp only [runOps, Option.some.injEq, Prod.mk.injEq] at h
    obtain ⟨rfl, rfl⟩ := h
    exact ⟨hob, fun q hq => by cases hq⟩
  | o :: l, s, s', qs, h, hob => by
    unfold runOps at h
    split at h
    · rename_i s1 q hs
      split at h
      · rename_i s2 qs2 hr
        simp only [Option.some.injEq, Prod.mk.injEq] at h
        obtain ⟨rfl, rfl⟩ := h
        obtain ⟨h1, h2⟩ := runOps_ob l s1 s2 qs2 hr hob
        obtain ⟨_, _, _, _, e, _⟩ := step1_fresh hs
        rw [e] at h1
        have h1 := Holds.append.1 h1
        refine ⟨h1.1, fun x hx => ?_⟩
        rcases List.mem_cons.1 hx with rfl | hx
        · exact h1.2
        · exact h2 x hx
      · cases h
    · cases h

/-- A region in the order of the text. -/
theorem runOps_wp (hC : C.Ok) {ops : Array Oper} {Q : Exit → Act → World → Prop} : ∀ (l : List Oper) (s s' : St) (qs : List Rec) (a : Act) (w : World), runOps C ops.toList l s = some (s', qs) → Holds s'.ob → RelS C.gl W fx s a w →
    (∀ a' w', RelS C.gl W fx s' a' w' → Q .normal a' w') → wpList C.P ops Q l a w
  | [], s, s', qs, a, w, h, hob, hR, hQ => by
    simp only [runOps, Option.some.injEq, Prod.mk.injEq] at h
    obtain ⟨rfl, rfl⟩ := h
    exact hQ _ _ hR
  | o :: l, s, s', qs, a, w, h, hob, hR, hQ => by
    unfold runOps at h
    split at h
    · rename_i s1 q hs
      split at h
      · rename_i s2 qs2 hr
        simp only [Option.some.injEq, Prod.mk.injEq] at h
        obtain ⟨rfl, rfl⟩ := h
        obtain ⟨h1, _⟩ := runOps_ob l s1 s2 qs2 hr hob
        obtain ⟨e1, e2, e3, e4, e5, _⟩ := step1_fresh hs
        subst e5
        obtain ⟨loc, hL⟩ := hR
        unfold wpList
        refine eff1_sound hC hL e1 (fun _ => by rw [← e3]; exact e2) (Holds.append.1 h1).2 (fun a' w' loc' h' => ?_)
        refine runOps_wp hC l _ s2 qs2 a' w' hr hob ⟨loc', ?_⟩ hQ
        rw [tmOf_setL, look_puts]
        simp only [setL_length]
        exact h'
      · cases h
    · cases h

end

end Go.Proofs.YtbdmahidobjaoaaDoor.Sx
