/-
  How abstract values, blocks and frames stand to the model's: 'VR', 'HRel', 'RelL'; what a value, a new block, a store, a draw does to them.
-/
import Derived.Test.YtbdmahidobjaoaaDoorSxBase
namespace Go.Proofs.YtbdmahidobjaoaaDoor.Sx
open Go

/-- Where a block lies: the model's row, from which cell on; how many cells there are to fill; is it the call's own? -/
structure Spot where
  blk : Nat
  off : Nat
  room : Nat
  own : Bool

abbrev Loc := Nat → Spot
abbrev Lk := Nat → Option Blk

def VR (loc : Loc) (lk : Lk) : A → Value → Prop
  | .any, _ => True
  | .undef, v => v = Go.undef
  | .bool b, v => v = .bool b
  | .int k n, v => v = .int k n ∧ wf k n
  | .bit b, v => v = .int .u64 (bi b)
  | .str s, v => v = .string s
  | .ptr i o, v => v = .pointer (some ⟨(loc i).1, (loc i).2 + o, none⟩) ∧ (lk i).isSome = true
  | .slc i o len cap, v => (len ≤ cap ∧ cap < 9223372036854775808) ∧ ∃ a c, v = .slice a len c ∧ cap ≤ c ∧ (0 < cap → a = some ⟨(loc i).1, (loc i).2 + o, none⟩ ∧ (lk i).isSome = true)
  | .app i n s, v => ∃ c, v = .slice (some ⟨(loc i).1, (loc i).2, none⟩) n c ∧ n ≤ c ∧ c < 9223372036854775808 ∧ c * s ≤ (loc i).3 ∧ (loc i).4 = true ∧ (lk i).isSome = true
  | .emp, v => ∃ a, v = .slice a 0 0
  | .agg k l, v => v = .agg (l.map (Value.int k)).toArray ∧ ∀ x ∈ l, wf k x
  | .pair x y, v => ∃ a b, v = .tuple #[a, b] ∧ VR loc lk x a ∧ VR loc lk y b

theorem VR.mono {loc loc' : Loc} {lk lk' : Lk} (h : ∀ i, (lk i).isSome = true → loc' i = loc i ∧ (lk' i).isSome = true) : ∀ (x : A) (v : Value), VR loc lk x v → VR loc' lk' x v
  | .any, _, _ => trivial
  | .undef, _, hv => hv
  | .bool _, _, hv => hv
  | .int _ _, _, hv => hv
  | .bit _, _, hv => hv
  | .str _, _, hv => hv
  | .ptr i o, v, hv => by
    obtain ⟨h1, h2⟩ := hv
    obtain ⟨e, p⟩ := h i h2
    exact ⟨by rw [e]; exact h1, p⟩
  | .slc i o len cap, v, hv => by
    obtain ⟨h0, a, c, h1, h2, h3⟩ := hv
    refine ⟨h0, a, c, h1, h2, fun hc => ?_⟩
    obtain ⟨ha, hp⟩ := h3 hc
    obtain ⟨e, p⟩ := h i hp
    exact ⟨by rw [e]; exact ha, p⟩
  | .app i n s, v, hv => by
    obtain ⟨c, h1, h2, h3, h4, h5, h6⟩ := hv
    obtain ⟨e, p⟩ := h i h6
    exact ⟨c, by rw [e]; exact h1, h2, h3, by rw [e]; exact h4, by rw [e]; exact h5, p⟩
  | .emp, _, hv => hv
  | .agg _ _, _, hv => hv
  | .pair x y, v, hv => by
    obtain ⟨a, b, h1, h2, h3⟩ := hv
    exact ⟨a, b, h1, VR.mono h x a h2, VR.mono h y b h3⟩

/-- Nothing of the row's first 'n' cells is frozen. -/
def Free (n : Nat) (fz : Nat × Nat) : Prop := fz.1 = fz.2 ∨ n ≤ fz.1

theorem Free.le {m n : Nat} {fz : Nat × Nat} (h : Free n fz) (hm : m ≤ n) : Free m fz := by
  rcases h with h | h
  · exact Or.inl h
  · exact Or.inr (by omega)

/-- A block that is known of: dead ones are not. -/
def Live (b : Blk) : Prop := b.l ≠ [] ∨ b.rw = true

structure BlkOk (loc : Loc) (lk : Lk) (w : World) (i : Nat) (b : Blk) : Prop where
  wfs : ∀ x ∈ b.l, wf b.k x
  lt : (loc i).1 < w.heap.size
  cell : ∀ (j : Nat) (x : Int), b.l[j]? = some x → w.cell? ⟨(loc i).1, (loc i).2 + j, none⟩ = some (.int b.k x)
  own : b.rw = true → (loc i).2 = 0 ∧ (∃ cs fz, w.heap[(loc i).1]? = some (.cells cs b.t fz) ∧ Free cs.size fz ∧ (loc i).3 ≤ cs.size) ∧
    ∀ i' b', i' ≠ i → lk i' = some b' → Live b' → (loc i').1 ≠ (loc i).1

theorem BlkOk.len {loc : Loc} {lk : Lk} {w : World} {i : Nat} {b : Blk} (h : BlkOk loc lk w i b) (h0 : (loc i).2 = 0) {cs : Array Value} {t : TypeId} {fz : Nat × Nat} (hc : w.heap[(loc i).1]? = some (.cells cs t fz)) : b.l.length ≤ cs.size := by
  rcases Nat.eq_zero_or_pos b.l.length with hz | hz
  · omega
  · have := h.cell (b.l.length - 1) b.l[b.l.length - 1] (List.getElem?_eq_getElem (by omega))
    rw [h0, World.cell?, hc] at this
    simp only at this
    rcases Nat.lt_or_ge (b.l.length - 1) cs.size with hl | hl
    · omega
    · simp [Array.getElem?_eq_none hl] at this


def HRel (loc : Loc) (lk : Lk) (w : World) : Prop := ∀ i b, lk i = some b → BlkOk loc lk w i b

/-- A block that came in: its number here, where it lies, whether it may be written. -/
structure Fx where
  id : Nat
  blk : Nat
  off : Nat
  rw : Bool
  room : Nat

/-- Of the world in which the call began nothing has turned but the blocks that may be written. -/
structure Fr (W : World) (fx : List Fx) (w : World) : Prop where
  os : w.os = W.os
  tape : w.tape = W.tape
  output : w.output = W.output
  size : W.heap.size ≤ w.heap.size
  block : ∀ k, k < W.heap.size → (∀ p ∈ fx, p.rw = true → p.blk ≠ k) → w.heap[k]? = W.heap[k]?

structure RelL (gl : List Blk) (W : World) (fx : List Fx) (loc : Loc) (n : Nat) (tm : Nat → A) (lk : Lk) (a : Act) (w : World) : Prop where
  fix : ∀ p ∈ fx, loc p.id = ⟨p.blk, p.off, p.room, false⟩ ∧ (lk p.id).isSome = true
  glob : ∀ g, g < gl.length → loc g = ⟨g, 0, 0, false⟩ ∧ lk g = gl[g]?
  size : a.tmps.size = n
  tmps : ∀ t, t < n → VR loc lk (tm t) (a.tmps.getD t Go.undef)
  far : ∀ t, n ≤ t → tm t = .any
  defers : a.defers = []
  heap : HRel loc lk w
  new : ∀ i b, lk i = some b → (∀ p ∈ fx, p.id ≠ i) → gl.length ≤ i → W.heap.size ≤ (loc i).1
  rwfix : ∀ i b, lk i = some b → b.rw = true → gl.length ≤ i ∧ ∀ p ∈ fx, p.id = i → p.rw = true
  fr : Fr W fx w

def setT (n : Nat) (tm : Nat → A) (dst : Option Tmp) (v : A) : Nat → A := fun t =>
  match dst with
  | some d => if t = d ∧ d < n then v else tm t
  | none => tm t

def updL (lk : Lk) : List (Nat × Blk) → Lk
  | [] => lk
  | (i, b) :: r => updL (fun j => if j = i then some b else lk j) r

section
variable {gl : List Blk} {n : Nat} {W w : World} {fx : List Fx} {loc : Loc} {tm : Nat → A} {lk : Lk} {a : Act}

theorem RelL.val (h : RelL gl W fx loc n tm lk a w) (dst : Option Tmp) {v : A} {x : Value} (hv : VR loc lk v x) :
    RelL gl W fx loc n (setT n tm dst v) lk (a.put dst x) w := by
  refine ⟨h.fix, h.glob, ?_, ?_, ?_, ?_, h.heap, h.new, h.rwfix, h.fr⟩
  · cases dst <;> simp [Act.put, h.size]
  · intro t ht
    cases dst with
    | none => exact h.tmps t ht
    | some d =>
      simp only [setT, Act.put]
      by_cases hd : t = d
      · subst hd
        have : t < a.tmps.size := by rw [h.size]; exact ht
        rw [if_pos ⟨rfl, ht⟩]
        simpa [this] using hv
      · rw [if_neg (fun e => hd e.1)]
        have := h.tmps t ht
        simpa [Array.getElem?_setIfInBounds_ne (Ne.symm hd)] using this
  · intro t ht
    cases dst with
    | none => exact h.far t ht
    | some d =>
      simp only [setT]
      rw [if_neg (fun e => Nat.lt_irrefl n (Nat.lt_of_le_of_lt (e.1 ▸ ht) e.2))]
      exact h.far t ht
  · cases dst <;> exact h.defers

theorem RelL.getVR (h : RelL gl W fx loc n tm lk a w) (t : Nat) : VR loc lk (tm t) (a.tmps.getD t Go.undef) := by
  rcases Nat.lt_or_ge t n with ht | ht
  · exact h.tmps t ht
  · rw [h.far t ht]; trivial

theorem absV_ok (v : Value) : VR loc lk (absV v) v := by
  cases v with
  | bool b => rfl
  | int k n =>
    simp only [absV]
    cases hd : decide (k.wrap n = n) with
    | false => trivial
    | true => exact ⟨rfl, (of_decide_eq_true hd : k.wrap n = n)⟩
  | string s => rfl
  | slice a l c =>
    cases a with
    | none =>
      cases l with
      | zero =>
        cases c with
        | zero => exact ⟨⟨Nat.le_refl _, by decide⟩, none, 0, rfl, Nat.le_refl _, fun h => absurd h (Nat.lt_irrefl _)⟩
        | succ c => trivial
      | succ l => trivial
    | some a => trivial
  | _ => trivial

theorem RelL.ev (h : RelL gl W fx loc n tm lk a w) (x : Operand) : VR loc lk (ev gl.length tm x) (a.eval x) := by
  cases x with
  | tmp t => exact h.getVR t
  | const v => exact absV_ok v
  | global g =>
    simp only [Sx.ev]
    cases hg : Nat.ble (g + 1) gl.length with
    | false => trivial
    | true =>
      have hlt : g < gl.length := Nat.le_of_ble_eq_true hg
      obtain ⟨e, p⟩ := h.glob g hlt
      exact ⟨by simp [Act.eval, e], by rw [p]; simp [hlt]⟩
  | func f => trivial

theorem RelL.other (h : RelL gl W fx loc n tm lk a w) {w' : World} (hh : w'.heap = w.heap) (ho : w'.os = w.os) (ht : w'.tape = w.tape) (hp : w'.output = w.output) :
    RelL gl W fx loc n tm lk a w' := by
  have hc : ∀ x, w'.cell? x = w.cell? x := fun x => by simp [World.cell?, hh]
  refine ⟨h.fix, h.glob, h.size, h.tmps, h.far, h.defers, ?_, h.new, h.rwfix, ?_⟩
  · intro i b hb
    obtain ⟨a1, a2, a3, a4⟩ := h.heap i b hb
    exact ⟨a1, by rw [hh]; exact a2, fun j x hx => by rw [hc]; exact a3 j x hx, by rw [hh]; exact a4⟩
  · obtain ⟨f1, f2, f3, f4, f5⟩ := h.fr
    exact ⟨ho.trans f1, ht.trans f2, hp.trans f3, by rw [hh]; exact f4, by rw [hh]; exact f5⟩

/-- A new block, known by the number 'nid'. -/
theorem RelL.allocR (h : RelL gl W fx loc n tm lk a w) {nid : Nat} (hn : lk nid = none) (k : IntKind) (t : TypeId) (l : List Int) (rest : Array Value) (hl : ∀ x ∈ l, wf k x) :
    ∃ loc', loc' nid = (⟨w.heap.size, 0, l.length + rest.size, true⟩ : Spot) ∧ (∀ i, i ≠ nid → loc' i = loc i) ∧
      RelL gl W fx loc' n tm (fun j => if j = nid then some ⟨k, t, l, true⟩ else lk j) a (w.alloc (.cells ((l.map (Value.int k)).toArray ++ rest) t)) := by
  have hp : ∀ i, (lk i).isSome = true → i ≠ nid := fun i hi e => by rw [e, hn] at hi; cases hi
  refine ⟨fun i => if i = nid then (⟨w.heap.size, 0, l.length + rest.size, true⟩ : Spot) else loc i, by simp, fun i hi => by simp [hi], ?_⟩
  have hmono : ∀ i, (lk i).isSome = true → (if i = nid then (⟨w.heap.size, 0, l.length + rest.size, true⟩ : Spot) else loc i) = loc i ∧ (if i = nid then some (⟨k, t, l, true⟩ : Blk) else lk i).isSome = true :=
    fun i hi => by simp [hp i hi, hi]
  refine ⟨fun p hpx => ?_, fun g hg => ?_, h.size, fun t' ht => VR.mono hmono _ _ (h.tmps t' ht), h.far, h.defers, ?_, ?_, ?_, ?_⟩
  · obtain ⟨e, q⟩ := h.fix p hpx
    obtain ⟨e', q'⟩ := hmono _ q
    exact ⟨by rw [e']; exact e, q'⟩
  · obtain ⟨e, q⟩ := h.glob g hg
    have hs : (lk g).isSome = true := by rw [q]; simp [hg]
    exact ⟨(hmono _ hs).1.trans e, by rw [if_neg (hp g hs)]; exact q⟩
  · intro i b hb
    by_cases hi : i = nid
    · subst hi
      simp only [if_true, Option.some.injEq] at hb
      subst hb
      refine ⟨hl, by simp, fun j x hx => ?_, fun _ => ⟨by simp, ⟨(l.map (Value.int k)).toArray ++ rest, (0, 0), by rw [if_pos rfl]; exact heap_alloc_new w _, Or.inl rfl, by simp⟩, fun i' b' hne hb' _ => ?_⟩⟩
      · have hx' : l[j]? = some x := hx
        have hj : j < l.length := by
          rcases Nat.lt_or_ge j l.length with q | q
          · exact q
          · rw [List.getElem?_eq_none q] at hx'; cases hx'
        have hx2 : l[j] = x := by
          rw [List.getElem?_eq_getElem hj] at hx'
          exact Option.some.inj hx'
        simp [Array.getElem?_append, hj, hx2]
      · simp only [hne, if_false] at hb' ⊢
        have := (h.heap i' b' hb').lt
        simp only [if_true]
        omega
    · simp only [hi, if_false] at hb
      obtain ⟨a1, a2, a3, a4⟩ := h.heap i b hb
      refine ⟨a1, by simp [hi]; omega, fun j x hx => ?_, fun hrw => ?_⟩
      · simp only [hi, if_false]
        rw [World.cell?_alloc_lt _ _ _ (by simpa using a2)]
        exact a3 j x hx
      · obtain ⟨o1, ⟨cs, fz, o2, o3⟩, o4⟩ := a4 hrw
        simp only [hi, if_false]
        refine ⟨o1, ⟨cs, fz, ?_, o3⟩, fun i' b' hne hb' hlv => ?_⟩
        · rw [heap_alloc_old (h := a2)]
          exact o2
        · by_cases hi' : i' = nid
          · simp only [hi', if_true]
            omega
          · simp only [hi', if_false] at hb' ⊢
            exact o4 i' b' hne hb' hlv
  · intro i b hb hfx hgi
    by_cases hi : i = nid
    · simp only [hi, if_true]
      exact h.fr.size
    · simp only [hi, if_false] at hb ⊢
      exact h.new i b hb hfx hgi
  · intro i b hb hrw
    by_cases hi : i = nid
    · subst hi
      refine ⟨?_, fun p hpx e => ?_⟩
      · rcases Nat.lt_or_ge i gl.length with hlt | hge
        · have := (h.glob i hlt).2
          rw [hn] at this; simp [hlt] at this
        · exact hge
      · have := (h.fix p hpx).2
        rw [e, hn] at this; cases this
    · simp only [hi, if_false] at hb
      exact h.rwfix i b hb hrw
  · obtain ⟨f1, f2, f3, f4, f5⟩ := h.fr
    refine ⟨f1, f2, f3, by simp; omega, fun k' hk hq => ?_⟩
    rw [heap_alloc_old (h := by omega)]
    exact f5 k' hk hq

theorem RelL.alloc (h : RelL gl W fx loc n tm lk a w) {nid : Nat} (hn : lk nid = none) (k : IntKind) (t : TypeId) (l : List Int) (hl : ∀ x ∈ l, wf k x) :
    ∃ loc', loc' nid = (⟨w.heap.size, 0, l.length, true⟩ : Spot) ∧ (∀ i, i ≠ nid → loc' i = loc i) ∧
      RelL gl W fx loc' n tm (fun j => if j = nid then some ⟨k, t, l, true⟩ else lk j) a (w.alloc (.cells (l.map (Value.int k)).toArray t)) := by
  have := h.allocR hn k t l #[] hl
  rwa [Array.append_empty] at this

/-- A new block that nobody here knows. -/
theorem RelL.junk (h : RelL gl W fx loc n tm lk a w) (o : Obj) : RelL gl W fx loc n tm lk a (w.alloc o) := by
  refine ⟨h.fix, h.glob, h.size, h.tmps, h.far, h.defers, ?_, h.new, h.rwfix, ?_⟩
  · intro i b hb
    obtain ⟨a1, a2, a3, a4⟩ := h.heap i b hb
    refine ⟨a1, by simp; omega, fun j x hx => by rw [World.cell?_alloc_lt _ _ _ (by simpa using a2)]; exact a3 j x hx, fun hrw => ?_⟩
    obtain ⟨o1, ⟨cs, fz, o2, o3⟩, o4⟩ := a4 hrw
    exact ⟨o1, ⟨cs, fz, by rw [heap_alloc_old (h := a2)]; exact o2, o3⟩, o4⟩
  · obtain ⟨f1, f2, f3, f4, f5⟩ := h.fr
    refine ⟨f1, f2, f3, by simp; omega, fun k' hk hq => ?_⟩
    rw [heap_alloc_old (h := by omega)]
    exact f5 k' hk hq

theorem setCells_size (b : Nat) : ∀ (vs : List Value) (o : Nat) (w : World), (w.setCells b o vs).heap.size = w.heap.size
  | [], _, _ => rfl
  | v :: r, o, w => by rw [World.setCells, setCells_size b r]; simp
theorem setCells_os (b : Nat) : ∀ (vs : List Value) (o : Nat) (w : World), (w.setCells b o vs).os = w.os
  | [], _, _ => rfl
  | v :: r, o, w => by rw [World.setCells, setCells_os b r]; rfl
theorem setCells_tape (b : Nat) : ∀ (vs : List Value) (o : Nat) (w : World), (w.setCells b o vs).tape = w.tape
  | [], _, _ => rfl
  | v :: r, o, w => by rw [World.setCells, setCells_tape b r]; rfl
theorem setCells_output (b : Nat) : ∀ (vs : List Value) (o : Nat) (w : World), (w.setCells b o vs).output = w.output
  | [], _, _ => rfl
  | v :: r, o, w => by rw [World.setCells, setCells_output b r]; rfl
theorem setCells_other (b k : Nat) (hk : k ≠ b) : ∀ (vs : List Value) (o : Nat) (w : World), (w.setCells b o vs).heap[k]? = w.heap[k]?
  | [], _, _ => rfl
  | v :: r, o, w => by rw [World.setCells, setCells_other b k hk r]; exact RowKit.Below.heap_setCell _ _ _ _ hk
theorem setCells_same (b : Nat) : ∀ (vs : List Value) (o : Nat) (w : World) (cs : Array Value) (t : TypeId) (fz : Nat × Nat), w.heap[b]? = some (.cells cs t fz) →
    ∃ cs', (w.setCells b o vs).heap[b]? = some (.cells cs' t fz) ∧ cs'.size = cs.size
  | [], _, _, cs, _, _, h => ⟨cs, h, rfl⟩
  | v :: r, o, w, cs, t, fz, h => by
    rw [World.setCells]
    obtain ⟨cs', e1, e2⟩ := setCells_same b r (o + 1) (w.setCell ⟨b, o, none⟩ v) (cs.setIfInBounds o v) t fz (by
      simp only [World.setCell, Array.getElem?_modify, if_true, h, Option.map_some]
      rfl)
    exact ⟨cs', e1, by rw [e2]; simp⟩

/-- The row that stands behind a store of 'x' from 'off' on. -/
def over (l : List Int) (off : Nat) (x : List Int) : List Int := l.take off ++ x ++ l.drop (off + x.length)

theorem over_length (l : List Int) (off : Nat) (x : List Int) (h : off + x.length ≤ l.length) : (over l off x).length = l.length := by
  simp [over]; omega

theorem over_get (l : List Int) (off : Nat) (x : List Int) (h : off + x.length ≤ l.length) (j : Nat) :
    (over l off x)[j]? = if off ≤ j ∧ j < off + x.length then x[j - off]? else l[j]? := by
  have h1 : (l.take off).length = off := by simp; omega
  unfold over
  by_cases c1 : j < off
  · rw [if_neg (by omega), List.append_assoc, List.getElem?_append_left (by omega), List.getElem?_take_of_lt c1]
  · by_cases c2 : j < off + x.length
    · rw [if_pos (by omega), List.append_assoc, List.getElem?_append_right (by omega), List.getElem?_append_left (by omega), h1]
    · rw [if_neg (by omega), List.getElem?_append_right (by simp; omega), List.getElem?_drop]
      congr 1
      simp
      omega

theorem splice_eq (l : List Int) (off : Nat) (x : List Int) : splice l off x = over l off x := by
  unfold splice
  cases h : Nat.beq off 0 && Nat.beq l.length x.length with
  | false => rfl
  | true =>
    simp only [Bool.and_eq_true] at h
    have h1 := Nat.eq_of_beq_eq_true h.1
    have h2 := Nat.eq_of_beq_eq_true h.2
    subst h1
    simp [over, h2, List.drop_eq_nil_of_le]

theorem sub_eq (l : List Int) (off n : Nat) : sub l off n = (l.drop off).take n := by
  unfold sub
  cases h : Nat.beq off 0 && Nat.beq l.length n with
  | false => rfl
  | true =>
    simp only [Bool.and_eq_true] at h
    have h1 := Nat.eq_of_beq_eq_true h.1
    have h2 := Nat.eq_of_beq_eq_true h.2
    subst h1
    simp [← h2]

theorem set_eq_over (l : List Int) (off : Nat) (v : Int) (h : off < l.length) : l.set off v = over l off [v] := by
  apply List.ext_getElem?
  intro j
  rw [over_get _ _ _ (by simp; omega)]
  by_cases e : off = j
  · subst e
    simp [h]
  · rw [List.getElem?_set_ne e, if_neg (by simp; omega)]

/-- A store into a block of the call's own (or into one that it may write). -/
theorem RelL.store (h : RelL gl W fx loc n tm lk a w) {i : Nat} {b : Blk} (hb : lk i = some b) (hrw : b.rw = true) (off : Nat) (x : List Int) (hfit : off + x.length ≤ b.l.length) (hx : ∀ y ∈ x, wf b.k y) :
    RelL gl W fx loc n tm (fun j => if j = i then some { b with l := over b.l off x } else lk j) a (w.setCells (loc i).1 off (x.map (Value.int b.k))) := by
  obtain ⟨a1, a2, a3, a4⟩ := h.heap i b hb
  obtain ⟨o1, ⟨cs, fz, o2, o3⟩, o4⟩ := a4 hrw
  obtain ⟨g1, g2⟩ := h.rwfix i b hb hrw
  have hmono : ∀ j, (lk j).isSome = true → loc j = loc j ∧ (if j = i then some { b with l := over b.l off x } else lk j).isSome = true := fun j hj => by
    refine ⟨rfl, ?_⟩
    split
    · rfl
    · exact hj
  refine ⟨fun p hp => ⟨(h.fix p hp).1, (hmono _ (h.fix p hp).2).2⟩, fun g hg => ⟨(h.glob g hg).1, by rw [if_neg (by omega)]; exact (h.glob g hg).2⟩, h.size,
    fun t' ht => VR.mono hmono _ _ (h.tmps t' ht), h.far, h.defers, ?_, ?_, ?_, ?_⟩
  · intro j c hc
    by_cases hj : j = i
    · subst hj
      simp only [if_true, Option.some.injEq] at hc
      subst hc
      refine ⟨fun y hy => ?_, by rw [setCells_size]; exact a2, fun q y hy => ?_, fun _ => ⟨o1, ?_, fun i' b' hne hb' hlv => ?_⟩⟩
      · simp only [over, List.mem_append] at hy
        rcases hy with (hy | hy) | hy
        · exact a1 y (List.mem_of_mem_take hy)
        · exact hx y hy
        · exact a1 y (List.mem_of_mem_drop hy)
      · have hy' : (over b.l off x)[q]? = some y := hy
        rw [over_get _ _ _ hfit] at hy'
        rw [o1, Nat.zero_add]
        by_cases c1 : off ≤ q ∧ q < off + x.length
        · rw [if_pos c1] at hy'
          have := World.cell?_setCells_in (loc j).1 (x.map (Value.int b.k)) off w (fun q' hq' => by
            have hq2 : off + q' < b.l.length := by simp at hq'; omega
            have := a3 (off + q') b.l[off + q'] (by simp [hq2])
            rw [o1, Nat.zero_add] at this
            simp [this]) (q - off) (by simp; omega)
          rw [show off + (q - off) = q by omega] at this
          rw [this]
          simp only [List.getElem_map]
          rw [List.getElem?_eq_getElem (by omega)] at hy'
          simp only [Option.some.injEq] at hy'
          rw [hy']
        · rw [if_neg c1] at hy'
          rw [World.cell?_setCells_out _ _ _ _ _ (fun _ _ => by simp; omega)]
          have := a3 q y hy'
          rwa [o1, Nat.zero_add] at this
      · obtain ⟨cs', hcs'⟩ := setCells_same (loc j).1 (x.map (Value.int b.k)) off w cs b.t fz o2
        obtain ⟨hcs1, hcs2⟩ := hcs'
        exact ⟨cs', fz, hcs1, by rw [hcs2]; exact o3⟩
      · simp only [hne, if_false] at hb'
        exact o4 i' b' hne hb' hlv
    · simp only [hj, if_false] at hc
      have hlive : Live c → (loc j).1 ≠ (loc i).1 := fun hl => o4 j c hj hc hl
      obtain ⟨c1, c2, c3, c4⟩ := h.heap j c hc
      refine ⟨c1, by rw [setCells_size]; exact c2, fun q y hy => ?_, fun hrw' => ?_⟩
      · have hne := hlive (Or.inl (fun e => by rw [e] at hy; simp at hy))
        rw [World.cell?_setCells_out _ _ _ _ _ (fun e _ => absurd e hne)]
        exact c3 q y hy
      · have hne := hlive (Or.inr hrw')
        obtain ⟨d1, d2, d4⟩ := c4 hrw'
        refine ⟨d1, ?_, fun i' b' hne' hb' hlv => ?_⟩
        · obtain ⟨cs', fz', e1, e2⟩ := d2
          exact ⟨cs', fz', by rw [setCells_other _ _ hne]; exact e1, e2⟩
        · by_cases hi' : i' = i
          · subst hi'; exact d4 i' b hne' hb (Or.inr hrw)
          · simp only [hi', if_false] at hb'
            exact d4 i' b' hne' hb' hlv
  · intro j c hc hfx hgj
    by_cases hj : j = i
    · subst hj; exact h.new j b hb hfx hgj
    · simp only [hj, if_false] at hc; exact h.new j c hc hfx hgj
  · intro j c hc hrw'
    by_cases hj : j = i
    · subst hj; exact h.rwfix j b hb hrw
    · simp only [hj, if_false] at hc; exact h.rwfix j c hc hrw'
  · obtain ⟨f1, f2, f3, f4, f5⟩ := h.fr
    refine ⟨(setCells_os _ _ _ _).trans f1, (setCells_tape _ _ _ _).trans f2, (setCells_output _ _ _ _).trans f3, by rw [setCells_size]; exact f4, fun k' hk hq => ?_⟩
    rw [setCells_other _ _ (fun e => ?_)]
    · exact f5 k' hk hq
    · by_cases hfx : ∃ p ∈ fx, p.id = i
      · obtain ⟨p, hp, e'⟩ := hfx
        have e2 := (h.fix p hp).1
        rw [e'] at e2
        exact hq p hp (g2 p hp e') (by rw [e, e2])
      · have := h.new i b hb (fun p hp e' => hfx ⟨p, hp, e'⟩) g1
        omega

/-- Nothing is known any more of a block. -/
theorem RelL.kill (h : RelL gl W fx loc n tm lk a w) {i : Nat} {b : Blk} (hb : lk i = some b) (hi : gl.length ≤ i) (k : IntKind) (t : TypeId) :
    RelL gl W fx loc n tm (fun j => if j = i then some ⟨k, t, [], false⟩ else lk j) a w := by
  have hmono : ∀ j, (lk j).isSome = true → loc j = loc j ∧ (if j = i then some (⟨k, t, [], false⟩ : Blk) else lk j).isSome = true := fun j hj => by
    refine ⟨rfl, ?_⟩
    split
    · rfl
    · exact hj
  refine ⟨fun p hp => ⟨(h.fix p hp).1, (hmono _ (h.fix p hp).2).2⟩, fun g hg => ⟨(h.glob g hg).1, by rw [if_neg (by omega)]; exact (h.glob g hg).2⟩, h.size,
    fun t' ht => VR.mono hmono _ _ (h.tmps t' ht), h.far, h.defers, fun j c hc => ?_, fun j c hc hfx hgj => ?_, fun j c hc hrw => ?_, h.fr⟩
  · by_cases hj : j = i
    · subst hj
      simp only [if_true, Option.some.injEq] at hc
      subst hc
      exact ⟨fun y hy => by simp at hy, (h.heap j b hb).lt, fun q y hy => by simp at hy, fun hrw => by cases hrw⟩
    · simp only [hj, if_false] at hc
      obtain ⟨c1, c2, c3, c4⟩ := h.heap j c hc
      refine ⟨c1, c2, c3, fun hrw => ?_⟩
      obtain ⟨d1, d2, d4⟩ := c4 hrw
      refine ⟨d1, d2, fun i' b' hne hb' hlv => ?_⟩
      by_cases hi' : i' = i
      · simp only [hi', if_true, Option.some.injEq] at hb'
        subst hb'
        rcases hlv with hl | hl
        · exact absurd rfl hl
        · cases hl
      · simp only [hi', if_false] at hb'
        exact d4 i' b' hne hb' hlv
  · by_cases hj : j = i
    · subst hj; exact h.new j b hb hfx hgj
    · simp only [hj, if_false] at hc; exact h.new j c hc hfx hgj
  · by_cases hj : j = i
    · simp only [hj, if_true, Option.some.injEq] at hc
      subst hc
      cases hrw
    · simp only [hj, if_false] at hc; exact h.rwfix j c hc hrw

/-- What is laid behind a block, in its room: it is known by a new number, and the block itself no more. -/
theorem RelL.fill (h : RelL gl W fx loc n tm lk a w) {i nid : Nat} {b : Blk} (hb : lk i = some b) (hrw : b.rw = true) (hown : (loc i).4 = true) (hn : lk nid = none) (x : List Int) (hx : ∀ y ∈ x, wf b.k y) (hroom : b.l.length + x.length ≤ (loc i).3) :
    ∃ loc', loc' nid = loc i ∧ (∀ j, j ≠ nid → loc' j = loc j) ∧
      RelL gl W fx loc' n tm (updL lk [(nid, ⟨b.k, b.t, b.l ++ x, true⟩), (i, ⟨b.k, b.t, [], false⟩)]) a (w.setCells (loc i).1 b.l.length (x.map (Value.int b.k))) := by
  obtain ⟨a1, a2, a3, a4⟩ := h.heap i b hb
  obtain ⟨o1, ⟨cs, fz, o2, o3⟩, o4⟩ := a4 hrw
  obtain ⟨g1, g2⟩ := h.rwfix i b hb hrw
  have hni : i ≠ nid := fun e => by rw [e, hn] at hb; cases hb
  have hp : ∀ j, (lk j).isSome = true → j ≠ nid := fun j hj e => by rw [e, hn] at hj; cases hj
  have hnfx : ∀ p ∈ fx, p.id ≠ i := fun p hpx e => by
    have := (h.fix p hpx).1
    rw [e] at this
    rw [this] at hown
    cases hown
  have hW := h.new i b hb hnfx g1
  have hlk : ∀ j, updL lk [(nid, ⟨b.k, b.t, b.l ++ x, true⟩), (i, ⟨b.k, b.t, [], false⟩)] j = if j = i then some ⟨b.k, b.t, [], false⟩ else if j = nid then some ⟨b.k, b.t, b.l ++ x, true⟩ else lk j := fun j => rfl
  refine ⟨fun j => if j = nid then loc i else loc j, by simp, fun j hj => by simp [hj], ?_⟩
  have hmono : ∀ j, (lk j).isSome = true → (if j = nid then loc i else loc j) = loc j ∧ (updL lk [(nid, ⟨b.k, b.t, b.l ++ x, true⟩), (i, ⟨b.k, b.t, [], false⟩)] j).isSome = true := fun j hj => by
    refine ⟨by rw [if_neg (hp j hj)], ?_⟩
    rw [hlk, if_neg (hp j hj)]
    split
    · rfl
    · exact hj
  have hcs : b.l.length ≤ cs.size := (h.heap i b hb).len o1 o2
  have hin : ∀ q, q < cs.size → (w.cell? ⟨(loc i).1, q, none⟩).isSome = true := fun q hq => by
    simp [World.cell?, o2, hq]
  refine ⟨fun p hpx => ⟨by rw [(hmono _ (h.fix p hpx).2).1]; exact (h.fix p hpx).1, (hmono _ (h.fix p hpx).2).2⟩, fun g hg => ?_, h.size, fun t' ht => VR.mono hmono _ _ (h.tmps t' ht), h.far, h.defers,
    fun j c hc => ?_, fun j c hc hfx hgj => ?_, fun j c hc hrw' => ?_, ?_⟩
  · have hs : (lk g).isSome = true := by rw [(h.glob g hg).2]; simp [hg]
    refine ⟨by rw [(hmono g hs).1]; exact (h.glob g hg).1, ?_⟩
    rw [hlk, if_neg (by omega), if_neg (hp g hs)]
    exact (h.glob g hg).2
  · rw [hlk] at hc
    by_cases hj : j = i
    · rw [if_pos hj, Option.some.injEq] at hc
      subst hc hj
      exact ⟨fun y hy => by simp at hy, by rw [if_neg hni, setCells_size]; exact a2, fun q y hy => by simp at hy, fun hr => by cases hr⟩
    · rw [if_neg hj] at hc
      by_cases hjn : j = nid
      · rw [if_pos hjn, Option.some.injEq] at hc
        subst hc hjn
        refine ⟨fun y hy => ?_, by rw [if_pos rfl, setCells_size]; exact a2, fun q y hy => ?_, fun _ => ⟨by rw [if_pos rfl]; exact o1, ?_, fun i' b' hne hb' hlv => ?_⟩⟩
        · rcases List.mem_append.1 hy with hy | hy
          · exact a1 y hy
          · exact hx y hy
        · have hy' : (b.l ++ x)[q]? = some y := hy
          rw [if_pos rfl, o1, Nat.zero_add]
          by_cases c1 : q < b.l.length
          · rw [List.getElem?_append_left c1] at hy'
            rw [World.cell?_setCells_out _ _ _ _ _ (fun _ _ => Or.inl c1)]
            have := a3 q y hy'
            rwa [o1, Nat.zero_add] at this
          · rw [List.getElem?_append_right (by omega)] at hy'
            have hq : q - b.l.length < x.length := by
              rcases Nat.lt_or_ge (q - b.l.length) x.length with hl | hl
              · exact hl
              · rw [List.getElem?_eq_none hl] at hy'; cases hy'
            have := World.cell?_setCells_in (loc i).1 (x.map (Value.int b.k)) b.l.length w (fun q' hq' => hin _ (by
              have : q' < x.length := by simpa using hq'
              omega)) (q - b.l.length) (by simpa using hq)
            rw [show b.l.length + (q - b.l.length) = q by omega] at this
            rw [this, List.getElem_map]
            rw [List.getElem?_eq_getElem hq, Option.some.injEq] at hy'
            rw [hy']
        · obtain ⟨cs', e1, e2⟩ := setCells_same (loc i).1 (x.map (Value.int b.k)) b.l.length w cs b.t fz o2
          exact ⟨cs', fz, by rw [if_pos rfl]; exact e1, by rw [if_pos rfl, e2]; exact o3⟩
        · rw [hlk] at hb'
          rw [if_pos rfl, if_neg hne]
          by_cases hi' : i' = i
          · rw [if_pos hi', Option.some.injEq] at hb'
            subst hb'
            rcases hlv with hl | hl
            · exact absurd rfl hl
            · cases hl
          · rw [if_neg hi', if_neg hne] at hb'
            exact o4 i' b' hi' hb' hlv
      · rw [if_neg hjn] at hc
        have hlive : Live c → (loc j).1 ≠ (loc i).1 := fun hl => o4 j c hj hc hl
        obtain ⟨c1, c2, c3, c4⟩ := h.heap j c hc
        refine ⟨c1, by simp only [hjn, if_false]; rw [setCells_size]; exact c2, fun q y hy => ?_, fun hr => ?_⟩
        · have hne := hlive (Or.inl (fun e => by rw [e] at hy; simp at hy))
          simp only [hjn, if_false]
          rw [World.cell?_setCells_out _ _ _ _ _ (fun e _ => absurd e hne)]
          exact c3 q y hy
        · have hne := hlive (Or.inr hr)
          obtain ⟨d1, ⟨cs', fz', e1, e2⟩, d4⟩ := c4 hr
          simp only [hjn, if_false]
          refine ⟨d1, ⟨cs', fz', by rw [setCells_other _ _ hne]; exact e1, e2⟩, fun i' b' hne' hb' hlv => ?_⟩
          rw [hlk] at hb'
          by_cases hi' : i' = i
          · rw [if_pos hi', Option.some.injEq] at hb'
            subst hb'
            rcases hlv with hl | hl
            · exact absurd rfl hl
            · cases hl
          · rw [if_neg hi'] at hb'
            by_cases hin' : i' = nid
            · simp only [hin', if_true]
              exact d4 i b (Ne.symm hj) hb (Or.inr hrw)
            · rw [if_neg hin'] at hb'
              simp only [hin', if_false]
              exact d4 i' b' hne' hb' hlv
  · rw [hlk] at hc
    by_cases hjn : j = nid
    · simp only [hjn, if_true]
      exact hW
    · simp only [hjn, if_false]
      by_cases hj : j = i
      · subst hj; exact hW
      · rw [if_neg hj, if_neg hjn] at hc
        exact h.new j c hc hfx hgj
  · rw [hlk] at hc
    by_cases hj : j = i
    · rw [if_pos hj, Option.some.injEq] at hc
      subst hc
      cases hrw'
    · rw [if_neg hj] at hc
      by_cases hjn : j = nid
      · subst hjn
        refine ⟨?_, fun p hpx e => ?_⟩
        · rcases Nat.lt_or_ge j gl.length with hlt | hge
          · have := (h.glob j hlt).2
            rw [hn] at this; simp [hlt] at this
          · exact hge
        · have := (h.fix p hpx).2
          rw [e, hn] at this; cases this
      · rw [if_neg hjn] at hc
        exact h.rwfix j c hc hrw'
  · obtain ⟨f1, f2, f3, f4, f5⟩ := h.fr
    refine ⟨(setCells_os _ _ _ _).trans f1, (setCells_tape _ _ _ _).trans f2, (setCells_output _ _ _ _).trans f3, by rw [setCells_size]; exact f4, fun k' hk hq => ?_⟩
    rw [setCells_other _ _ (by omega)]
    exact f5 k' hk hq
end
end Go.Proofs.YtbdmahidobjaoaaDoor.Sx
