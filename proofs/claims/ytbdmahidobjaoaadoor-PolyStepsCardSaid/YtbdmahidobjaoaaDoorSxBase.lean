/-
  A shadow of the model's run over abstract values: the words (values, blocks, one operation's effect, regions, code). No proof here: SxOp and SxRun show that what it answers the model answers.
-/
import Derived.WalkKit
namespace Go.Proofs.YtbdmahidobjaoaaDoor.Sx
open Go

/-- An abstract value. 'ptr', 'slc': a block by its own small number. 'bit': a uint64 that is 0 or 1. -/
inductive A where
  | any
  | undef
  | bool (b : Bool)
  | int (k : IntKind) (n : Int)
  | bit (b : Bool)
  | str (s : ByteArray)
  | ptr (id off : Nat)
  | slc (id off len cap : Nat)
  /-- A slice that begins its own row; 'sz': the cells of an element. What room it has lies in its row. -/
  | app (id len sz : Nat)
  | emp
  | agg (k : IntKind) (l : List Int)
  | pair (x y : A)

/-- A row of whole numbers of one kind. 't': the type that the model's block bears. 'rw': it is the call's own. -/
structure Blk where
  k : IntKind
  t : TypeId
  l : List Int
  rw : Bool

abbrev Hp := List (Nat × Blk)

def look : Hp → Nat → Option Blk
  | [], _ => none
  | (j, b) :: h, i => match Nat.beq i j with
    | true => some b
    | false => look h i

def put : Hp → Nat → Blk → Hp
  | [], i, b => [(i, b)]
  | (j, c) :: h, i, b => match Nat.beq i j with
    | true => (j, b) :: h
    | false => (j, c) :: put h i b

def puts : Hp → List (Nat × Blk) → Hp
  | h, [] => h
  | h, (i, b) :: r => puts (put h i b) r

/-- A number that no block of the heap has. -/
def fresh : Hp → Nat
  | [] => 0
  | (j, _) :: h => Nat.max (j + 1) (fresh h)

def bi : Bool → Int
  | true => 1
  | false => 0

def Holds (l : List Prop) : Prop := ∀ p ∈ l, p

theorem Holds.append {l m : List Prop} : Holds (l ++ m) ↔ Holds l ∧ Holds m :=
  ⟨fun h => ⟨fun p hp => h p (List.mem_append_left _ hp), fun p hp => h p (List.mem_append_right _ hp)⟩,
   fun h p hp => (List.mem_append.1 hp).elim (h.1 p) (h.2 p)⟩

theorem Holds.nil : Holds [] := fun _ h => by cases h

theorem Holds.one {p : Prop} (h : p) : Holds [p] := fun q hq => by
  rw [List.mem_singleton.1 hq]; exact h

def wf (k : IntKind) (n : Int) : Prop := k.wrap n = n

structure St where
  tm : List A
  h : Hp
  ob : List Prop

/-- What one operation does: the value, the blocks that it makes or overwrites, what it takes for granted. -/
structure Eff where
  val : A
  puts : List (Nat × Blk)
  ob : List Prop

structure Res where
  val : A
  mem : List (Option Blk)
  new : Option Blk
  ob : List Prop

/-- What the shadow knows of a program: the globals that it reads, the contracts of functions, which functions are bits.Add64 (1), bits.Sub64 (2). 'hint': the answer that a test between lists is expected to give, by the slot that it writes. -/
structure Ctx where
  P : Program
  gl : List Blk
  fn : FuncId → List A → List Blk → Option Res
  ext : FuncId → Nat
  hint : Tmp → Option Bool

def Ctx.ng (C : Ctx) : Nat := C.gl.length

def tInt (P : Program) (t : TypeId) : Option IntKind :=
  match P.underlying t with
  | some (.int k) => match P.info? t with
    | some i => match i.size with
      | 1 => match i.zero with
        | some (.int k' 0) => match decide (k' = k) with
          | true => some k
          | false => none
        | _ => none
      | _ => none
    | none => none
  | _ => none

def zeroB (z : Value) (k : IntKind) (n : Nat) : Bool :=
  match z with
  | .agg cs => Nat.beq cs.toList.length n && cs.toList.all fun v => match v with
    | .int k' 0 => decide (k' = k)
    | _ => false
  | _ => false

def tArr (P : Program) (t : TypeId) : Option (Nat × IntKind × TypeId) :=
  match P.underlying t with
  | some (.array n e) => match tInt P e with
    | some k => match P.info? t with
      | some i => match i.zero with
        | some z => match Nat.beq i.size n && zeroB z k n with
          | true => some (n, k, e)
          | false => none
        | none => none
      | none => none
    | none => none
  | _ => none

/-- A whole number, or an array of them: the kind, how many cells. -/
def tRow (P : Program) (t : TypeId) : Option (IntKind × Nat) :=
  match tInt P t with
  | some k => some (k, 1)
  | none => match tArr P t with
    | some (n, k, _) => some (k, n)
    | none => none

/-- A slice: the elements' kind, their type, their cells, their bytes. -/
def tSlc (P : Program) (t : TypeId) : Option (IntKind × TypeId × Nat × Nat) :=
  match P.underlying t with
  | some (.slice e) => match tRow P e with
    | some (k, n) => match P.info? e with
      | some i => some (k, e, n, i.bytes)
      | none => none
    | none => none
  | _ => none

def ids : A → List Nat
  | .ptr i _ => [i]
  | .slc i _ _ _ => [i]
  | .app i _ _ => [i]
  | .pair x y => ids x ++ ids y
  | _ => []

def absV : Value → A
  | .bool b => .bool b
  | .int k n => match decide (k.wrap n = n) with
    | true => .int k n
    | false => .any
  | .string s => .str s
  | .slice none 0 0 => .slc 0 0 0 0
  | _ => .any

def ev (ng : Nat) (tm : Nat → A) : Operand → A
  | .tmp t => tm t
  | .const v => absV v
  | .global g => match Nat.ble (g + 1) ng with
    | true => .ptr g 0
    | false => .any
  | .func _ => .any

def asI : A → Option (IntKind × Int)
  | .int k n => some (k, n)
  | .bit b => some (.u64, bi b)
  | _ => none

def asBit : A → Option Bool
  | .bit b => some b
  | .int .u64 0 => some false
  | .int .u64 1 => some true
  | _ => none

/-- The whole, or a piece, of a row. -/
def sub (l : List Int) (off n : Nat) : List Int :=
  match Nat.beq off 0 && Nat.beq l.length n with
  | true => l
  | false => (l.drop off).take n

def splice (l : List Int) (off : Nat) (x : List Int) : List Int :=
  match Nat.beq off 0 && Nat.beq l.length x.length with
  | true => x
  | false => l.take off ++ x ++ l.drop (off + x.length)

def inside (i : Int) (n : Nat) : Bool := decide (0 ≤ i) && decide (i < (n : Int))

def arith (op : BinOp) (k : IntKind) (x y : Int) : Option A :=
  match op with
  | .add => some (.int k (k.wrap (x + y)))
  | .sub => some (.int k (k.wrap (x - y)))
  | .mul => some (.int k (k.wrap (x * y)))
  | .quo => match decide (y = 0) with
    | true => none
    | false => some (.int k (k.wrap (x.tdiv y)))
  | .rem => match decide (y = 0) with
    | true => none
    | false => some (.int k (x.tmod y))
  | .and => some (.int k (bits .and k x y))
  | .or => some (.int k (bits .or k x y))
  | .xor => some (.int k (bits .xor k x y))
  | .andNot => some (.int k (bits .andNot k x y))
  | .eql => some (.bool (x == y))
  | .neq => some (.bool (x != y))
  | .lss => some (.bool (decide (x < y)))
  | .leq => some (.bool (decide (x ≤ y)))
  | .gtr => some (.bool (decide (x > y)))
  | .geq => some (.bool (decide (x ≥ y)))
  | _ => none

def shiftA (op : BinOp) (k : IntKind) (x y : Int) : Option A :=
  match decide (y < 0) with
  | true => none
  | false => match op with
    | .shl => some (.int k (k.wrap (x * 2 ^ min y.toNat k.bits)))
    | .shr => some (.int k (x.fdiv (2 ^ min y.toNat k.bits)))
    | _ => none

def isShift : BinOp → Bool
  | .shl => true
  | .shr => true
  | _ => false

/-- A test's answer: where one is expected, that one, and what makes it so. -/
def hintV (C : Ctx) (dst : Option Tmp) (v : A) : Eff :=
  match v, dst with
  | .bool c, some d => match C.hint d with
    | some b => ⟨.bool b, [], [c = b]⟩
    | none => ⟨.bool c, [], []⟩
  | v, _ => ⟨v, [], []⟩

def aggEq (C : Ctx) (op : BinOp) (t : TypeId) (dst : Option Tmp) (k k' : IntKind) (l l' : List Int) : Option Eff :=
  match tArr C.P t, op with
  | some (n, k2, _), .eql => match decide (k2 = k) && decide (k2 = k') && Nat.beq l.length n && Nat.beq l'.length n && !(C.P.eqGuardType C.P.depth t) with
    | true => some (hintV C dst (.bool (decide (l = l'))))
    | false => none
  | _, _ => none

def binA (C : Ctx) (op : BinOp) (t : TypeId) (dst : Option Tmp) (x y : A) : Option Eff :=
  match x, y with
  | .agg k l, .agg k' l' => aggEq C op t dst k k' l l'
  | .bool a, .bool b => match C.P.underlying t, op with
    | some .bool, .eql => some (hintV C dst (.bool (a == b)))
    | _, _ => none
  | .str a, .str b => match op with
    | .eql => some (hintV C dst (.bool (a.toList == b.toList)))
    | _ => none
  | x, y => match asI x, asI y with
    | some (k, a), some (k', b) => match isShift op with
      | true => (shiftA op k a b).map fun v => ⟨v, [], []⟩
      | false => match decide (k = k') with
        | true => (arith op k a b).map (hintV C dst)
        | false => none
    | _, _ => none

def unA (op : UnOp) (x : A) : Option A :=
  match op, x with
  | .not, .bool b => some (.bool (!b))
  | .neg, x => match asI x with
    | some (k, n) => some (.int k (k.wrap (0 - n)))
    | none => none
  | .xor, x => match asI x with
    | some (k, n) => some (.int k (bits .xor k (if k.signed then -1 else k.max) n))
    | none => none
  | _, _ => none

def convA (C : Ctx) (src dst : TypeId) (x : A) : Option A :=
  match asI x with
  | some (_, n) => match C.P.underlying src, C.P.underlying dst with
    | some (.int _), some (.int k) => some (.int k (k.wrap n))
    | _, _ => none
  | none => none

/-- Parts of an array laid into noughts. -/
def fillA (l : List Int) (k : IntKind) : List (Nat × A) → Option (List Int)
  | [] => some l
  | (i, v) :: r => match asI v with
    | some (k', n) => match decide (k' = k) && Nat.ble (i + 1) l.length with
      | true => fillA (l.set i n) k r
      | false => none
    | none => none

/-- The numbers by which a callee knows the blocks that came in: 'ng', 'ng' + 1, .. -/
def idxOf : List Nat → Nat → Nat → Option Nat
  | [], _, _ => none
  | j :: r, i, n => match Nat.beq i j with
    | true => some n
    | false => idxOf r i (n + 1)

def renA (f : Nat → Option Nat) : A → Option A
  | .ptr i o => (f i).map fun j => .ptr j o
  | .slc i o l c => (f i).map fun j => .slc j o l c
  | .pair x y => match renA f x, renA f y with
    | some a, some b => some (.pair a b)
    | _, _ => none
  | .app _ _ _ => none
  | x => some x

def b64 : Int := 18446744073709551616

def addA (x y c : A) : Option A :=
  match asI x, asI y, asBit c with
  | some (.u64, a), some (.u64, b), some d => some (.pair (.int .u64 ((a + b + bi d) % b64)) (.bit (decide (b64 ≤ a + b + bi d))))
  | _, _, _ => none

def subA (x y c : A) : Option A :=
  match asI x, asI y, asBit c with
  | some (.u64, a), some (.u64, b), some d => some (.pair (.int .u64 ((a + b64 - b - bi d) % b64)) (.bit (decide (a < b + bi d))))
  | _, _, _ => none

def extA (n : Nat) (args : List A) : Option A :=
  match n, args with
  | 1, [x, y, c] => addA x y c
  | 2, [x, y, c] => subA x y c
  | _, _ => none

/-- The blocks, behind the globals, that the arguments lead to: each once. -/
def roots (ng : Nat) : List Nat → List Nat
  | [] => []
  | i :: r => match Nat.ble ng i && !((roots ng r).contains i) with
    | true => i :: roots ng r
    | false => roots ng r

def inward (ng : Nat) (is : List Nat) (i : Nat) : Option Nat :=
  match Nat.ble (i + 1) ng with
  | true => some i
  | false => idxOf is i ng

def outward (ng : Nat) (is : List Nat) (nid : Nat) (j : Nat) : Option Nat :=
  match Nat.ble (j + 1) ng with
  | true => some j
  | false => match is[j - ng]? with
    | some i => some i
    | none => match Nat.beq (j - ng) is.length with
      | true => some nid
      | false => none

def allSome {α : Type} : List (Option α) → Option (List α)
  | [] => some []
  | none :: _ => none
  | some x :: r => match allSome r with
    | some l => some (x :: l)
    | none => none

def putsOf : List Nat → List (Option Blk) → List (Nat × Blk)
  | i :: is, some b :: r => (i, b) :: putsOf is r
  | _ :: is, none :: r => putsOf is r
  | _, _ => []

def newOf (nid : Nat) : Option Blk → List (Nat × Blk)
  | some b => [(nid, b)]
  | none => []

/-- Only what may be written is told anew. -/
def okMem : List (Option Blk) → Bool
  | [] => true
  | none :: r => okMem r
  | some b :: r => b.rw && okMem r

def callA (C : Ctx) (lk : Nat → Option Blk) (nid : Nat) (f : FuncId) (args : List A) : Option Eff :=
  let is := roots C.ng (args.flatMap ids)
  match allSome (args.map (renA (inward C.ng is))), allSome (is.map lk) with
  | some cargs, some mem => match C.fn f cargs mem with
    | some r => match okMem r.mem with
      | true => match renA (outward C.ng is nid) r.val with
        | some v => some ⟨v, putsOf is r.mem ++ newOf nid r.new, r.ob⟩
        | none => none
      | false => none
    | none => none
  | _, _ => none

def lenA : A → Option Nat
  | .slc _ _ len _ => some len
  | .emp => some 0
  | .str s => match Nat.ble s.size 16777216 with
    | true => some s.size
    | false => none
  | _ => none

def minA (x y : A) : Option A :=
  match x, y with
  | .int k a, .int k' b => match decide (k = k') with
    | true => some (.int k (if b < a then b else a))
    | false => none
  | _, _ => none

def maxA (x y : A) : Option A :=
  match x, y with
  | .int k a, .int k' b => match decide (k = k') with
    | true => some (.int k (if b > a then b else a))
    | false => none
  | _, _ => none

def copyA (C : Ctx) (lk : Nat → Option Blk) (t : TypeId) (x y : A) : Option Eff :=
  match tSlc C.P t, x, y with
  | some (k, _, n, _), .slc i o len cap, .slc i' o' len' cap' => match lk i with
    | some b => match Nat.beq n 1 && decide (k = b.k) && b.rw && Nat.ble (o + min len' len) b.l.length with
      | true => match Nat.beq cap' 0 with
        | true => some ⟨.int .i64 ((min len' len : Nat) : Int), [], []⟩
        | false => match lk i' with
          | some b' => match decide (b'.k = b.k) && Nat.ble (o' + min len' len) b'.l.length && Nat.ble 1 cap with
            | true => some ⟨.int .i64 ((min len' len : Nat) : Int), [(i, { b with l := splice b.l o (sub b'.l o' (min len' len)) })], []⟩
            | false => none
          | none => none
      | false => none
    | none => none
  | _, _, _ => none

def builtA (C : Ctx) (lk : Nat → Option Blk) (b : Builtin) (ts : List TypeId) (args : List A) : Option Eff :=
  match b, args with
  | .len, [x] => match lenA x, ts with
    | some n, [t] => match C.P.underlying t, x with
      | some (.slice _), .slc .. => some ⟨.int .i64 (n : Int), [], []⟩
      | some (.slice _), .emp => some ⟨.int .i64 (n : Int), [], []⟩
      | some .string, .str _ => some ⟨.int .i64 (n : Int), [], []⟩
      | _, _ => none
    | _, _ => none
  | .min, [x, y] => (minA x y).map fun v => ⟨v, [], []⟩
  | .max, [x, y] => (maxA x y).map fun v => ⟨v, [], []⟩
  | .copy, [x, y] => match ts with
    | t :: _ => copyA C lk t x y
    | [] => none
  | _, _ => none

def hintB (C : Ctx) : Option Tmp → Bool
  | some d => match C.hint d with
    | some b => b
    | none => false
  | none => false

def hintO (C : Ctx) : Option Tmp → Option Bool
  | some d => C.hint d
  | none => none

/-- Parts of a row of elements of n numbers laid into noughts. -/
def fillR (l : List Int) (k : IntKind) (n : Nat) : List (Nat × A) → Option (List Int)
  | [] => some l
  | (i, .agg k' m) :: r => match decide (k' = k) && Nat.beq m.length n && Nat.ble (i * n + n) l.length with
    | true => fillR (splice l (i * n) m) k n r
    | false => none
  | _ => none

/-- A slice by what is expected of it: where its room matters, one that begins its row. -/
def slcOr (h : Option Bool) (nid n s : Nat) : A :=
  match h with
  | some false => .app nid n s
  | _ => .slc nid 0 n n

/-- The text of some bytes. -/
def baOf (ns : List Int) : ByteArray := ns.foldl (fun r n => r.push (UInt8.ofNat n.toNat)) ByteArray.empty

/-- A text of a slice of bytes. 'ne': it is not empty. -/
def strA (C : Ctx) (lk : Nat → Option Blk) (ne : Bool) (t : TypeId) (i o l : Nat) : Option Eff :=
  match tSlc C.P t with
  | some (_, e, _, _) => match tInt C.P e with
    | some .u8 => match ne with
      | true => match lk i with
        | some b => match decide (b.k = .u8) with
          | true => some ⟨.str (baOf (sub b.l o l)), [], [o + l ≤ b.l.length ∧ 1 ≤ l]⟩
          | false => none
        | none => none
      | false => match Nat.beq l 0 with
        | true => some ⟨.str (baOf []), [], []⟩
        | false => none
    | _ => none
  | none => none

/-- append to a slice of no room. 'ne': something is appended ('some false': the room of what comes out matters). -/
def appendE (C : Ctx) (lk : Nat → Option Blk) (nid : Nat) (ne : Option Bool) (t t' : TypeId) (i o n c : Nat) : Option Eff :=
  match Nat.beq t t', tSlc C.P t, ne with
  | true, some (k, e, 1, bytes), some h => match lk i with
    | some b => match decide (b.k = k) with
      | true => some ⟨slcOr (some h) nid n 1, [(nid, ⟨k, e, sub b.l o n, true⟩)], [o + n ≤ b.l.length ∧ 1 ≤ n ∧ n * bytes ≤ 281474976710656 ∧ n < 9223372036854775808]⟩
      | false => none
    | none => none
  | true, some (_, _, 1, _), none => match Nat.beq n 0 && Nat.beq c 0 with
    | true => some ⟨.emp, [], []⟩
    | false => none
  | _, _, _ => none

/-- append to a slice that begins its row: the row that comes out is a new one, or that of the old slice, of which nothing is known any more. -/
def appendR (C : Ctx) (lk : Nat → Option Blk) (nid : Nat) (ne : Option Bool) (t t' : TypeId) (i n s j o m : Nat) : Option Eff :=
  match Nat.beq t t', tSlc C.P t, ne with
  | true, some (k, e, s', bytes), some h => match lk i, lk j with
    | some b, some d => match Nat.beq s s' && Nat.ble 1 s && decide (b.k = k) && decide (d.k = k) && Nat.beq b.t e && b.rw && !Nat.beq i j with
      | true => some ⟨slcOr (some h) nid (n + m) s, [(nid, ⟨b.k, b.t, b.l ++ sub d.l o (m * s), true⟩), (i, ⟨b.k, b.t, [], false⟩)],
          [o + m * s ≤ d.l.length ∧ 1 ≤ m ∧ b.l.length = n * s ∧ (n + m) * bytes ≤ 140737488355328 ∧ n + m < 9223372036854775808]⟩
      | false => none
    | _, _ => none
  | true, some _, none => match Nat.beq m 0 with
    | true => some ⟨.slc i 0 n n, [], []⟩
    | false => none
  | _, _, _ => none

def appendA (C : Ctx) (lk : Nat → Option Blk) (nid : Nat) (ne : Option Bool) (ts : List TypeId) (args : List A) : Option Eff :=
  match ts, args with
  | [t, t'], [.emp, .slc i o n c] => appendE C lk nid ne t t' i o n c
  | [t, t'], [.app i n s, .slc j o m _] => appendR C lk nid ne t t' i n s j o m
  | _, _ => none

/-- A slice expression's bound: a whole number from 0 to 'top'. -/
def bound (top : Nat) (dflt : Nat) : Option A → Option Nat
  | none => some dflt
  | some x => match asI x with
    | some (_, i) => match decide (0 ≤ i) && decide (i ≤ (top : Int)) with
      | true => some i.toNat
      | false => none
    | none => none

def sliceA (C : Ctx) (t : TypeId) (x : A) (lo hi : Option A) : Option A :=
  match tArr C.P t, x with
  | some (n, _, _), .ptr id off => match Nat.ble n 16777216 with
    | true => match bound n n hi with
      | some h => match bound h 0 lo with
        | some l => some (.slc id (off + l) (h - l) (n - l))
        | none => none
      | none => none
    | false => none
  | none, .slc id off len cap => match tSlc C.P t with
    | some (_, _, n, _) => match bound cap len hi with
      | some h => match bound h 0 lo with
        | some l => some (.slc id (off + l * n) (h - l) (cap - l))
        | none => none
      | none => none
    | none => none
  | _, _ => none

/-- A bound as it is given, or where it is not. -/
def boundV (dflt : Int) : Option A → Option Int
  | none => some dflt
  | some x => match asI x with
    | some (_, i) => some i
    | none => none

/-- A piece of a slice where the bounds are symbols: that they are in order is taken for granted. -/
def sliceH (C : Ctx) (t : TypeId) (x : A) (lo hi : Option A) : Option Eff :=
  match tArr C.P t, x with
  | none, .slc id off len cap => match tSlc C.P t with
    | some (_, _, n, _) => match boundV (len : Int) hi, boundV 0 lo with
      | some h, some l => some ⟨.slc id (off + l.toNat * n) (h.toNat - l.toNat) (cap - l.toNat), [], [0 ≤ l ∧ l ≤ h ∧ h ≤ (cap : Int)]⟩
      | _, _ => none
    | none => none
  | _, _ => none

def loadA (C : Ctx) (lk : Nat → Option Blk) (t : TypeId) (a : A) : Option A :=
  match a with
  | .ptr id off => match lk id with
    | some b => match tInt C.P t with
      | some k => match decide (k = b.k) && Nat.ble (off + 1) b.l.length with
        | true => some (.int k (b.l.getD off 0))
        | false => none
      | none => match tArr C.P t with
        | some (n, k, _) => match decide (k = b.k) && Nat.ble (off + n) b.l.length with
          | true => some (.agg k (sub b.l off n))
          | false => none
        | none => none
    | none => none
  | _ => none

def storeA (C : Ctx) (lk : Nat → Option Blk) (t : TypeId) (a x : A) : Option Eff :=
  match a with
  | .ptr id off => match lk id with
    | some b => match b.rw with
      | true => match asI x with
        | some (k, v) => match tInt C.P t with
          | some k' => match decide (k = b.k) && decide (k' = k) && Nat.ble (off + 1) b.l.length with
            | true => some ⟨.undef, [(id, { b with l := b.l.set off v })], []⟩
            | false => none
          | none => none
        | none => match x, tArr C.P t with
          | .agg k l, some (n, k', _) => match decide (k = b.k) && decide (k' = k) && Nat.beq l.length n && Nat.ble (off + n) b.l.length with
            | true => some ⟨.undef, [(id, { b with l := splice b.l off l })], []⟩
            | false => none
          | _, _ => none
      | false => none
    | none => none
  | _ => none

def indexAddrA (C : Ctx) (t : TypeId) (x i : A) : Option A :=
  match asI i with
  | some (_, j) => match tArr C.P t, x with
    | some (n, _, _), .ptr id off => match inside j n with
      | true => some (.ptr id (off + j.toNat))
      | false => none
    | none, .slc id off len _ => match tSlc C.P t with
      | some (_, _, n, _) => match inside j len with
        | true => some (.ptr id (off + j.toNat * n))
        | false => none
      | none => none
    | _, _ => none
  | none => none

def indexA (C : Ctx) (t : TypeId) (x i : A) : Option A :=
  match asI i, x with
  | some (_, j), .agg k l => match tArr C.P t with
    | some (n, k', _) => match inside j n && Nat.beq l.length n && decide (k' = k) with
      | true => some (.int k (l.getD j.toNat 0))
      | false => none
    | none => none
  | some (_, j), .str s => match C.P.underlying t with
    | some .string => match inside j s.size with
      | true => some (.int .u8 ((s.data.toList.getD j.toNat 0).toNat : Int))
      | false => none
    | _ => none
  | _, _ => none

/-- A slice taken for an array: where it begins. -/
def arrayAtA (C : Ctx) (t : TypeId) (x : A) : Option A :=
  match tArr C.P t, x with
  | some (n, _, _), .slc id off len cap => match Nat.ble n len && Nat.ble 1 cap with
    | true => some (.ptr id off)
    | false => none
  | _, _ => none

def makeA (C : Ctx) (nid : Nat) (t : TypeId) (l c : A) : Option Eff :=
  match l, c, tSlc C.P t with
  | .int .i64 l, .int .i64 c, some (k, e, n, bytes) => match decide (0 ≤ l) && decide (l ≤ c) && decide ((bytes : Int) * c ≤ 281474976710656) with
    | true => some ⟨.slc nid 0 l.toNat c.toNat, [(nid, ⟨k, e, List.replicate (c.toNat * n) 0, true⟩)], []⟩
    | false => none
  | _, _, _ => none

/-- One operation. 'lk': the blocks; 'nid': the number that a new block gets; 'ρ': its operands. -/
def op1 (C : Ctx) (lk : Nat → Option Blk) (nid : Nat) (ρ : Operand → A) (o : Oper) : Option Eff :=
  match o.op with
  | .move x => match ρ x with
    | .app i n s => match hintB C o.dst with
      | true => some ⟨.slc i 0 n n, [], []⟩
      | false => some ⟨.app i n s, [], []⟩
    | v => some ⟨v, [], []⟩
  | .assign x => some ⟨ρ x, [], []⟩
  | .pick c a b => match ρ c with
    | .bool true => some ⟨ρ a, [], []⟩
    | .bool false => some ⟨ρ b, [], []⟩
    | _ => none
  | .alloc t => match tRow C.P t with
    | some (k, n) => some ⟨.ptr nid 0, [(nid, ⟨k, t, List.replicate n 0, true⟩)], []⟩
    | none => none
  | .box t x => match ρ x with
    | .agg k l => some ⟨.ptr nid 0, [(nid, ⟨k, t, l, true⟩)], []⟩
    | x => match asI x with
      | some (k, n) => some ⟨.ptr nid 0, [(nid, ⟨k, t, [n], true⟩)], []⟩
      | none => none
  | .build t parts => match tArr C.P t with
    | some (n, k, _) => match fillA (List.replicate n 0) k (parts.toList.map fun p => (p.1, ρ p.2)) with
      | some l => some ⟨.agg k l, [], []⟩
      | none => none
    | none => none
  | .buildSlice t len parts => match tSlc C.P t with
    | some (k, e, 1, _) => match Nat.ble len 16777216 with
      | true => match fillA (List.replicate len 0) k (parts.toList.map fun p => (p.1, ρ p.2)) with
        | some l => match len with
          | 0 => some ⟨.emp, [], []⟩
          | _ => some ⟨.slc nid 0 len len, [(nid, ⟨k, e, l, true⟩)], []⟩
        | none => none
      | false => none
    | some (k, e, n, _) => match Nat.ble (len * n) 16777216 && Nat.ble 1 (len * n) with
      | true => match fillR (List.replicate (len * n) 0) k n (parts.toList.map fun p => (p.1, ρ p.2)) with
        | some l => some ⟨slcOr (hintO C o.dst) nid len n, [(nid, ⟨k, e, l, true⟩)], []⟩
        | none => none
      | false => none
    | none => none
  | .load t a => (loadA C lk t (ρ a)).map fun v => ⟨v, [], []⟩
  | .store t a x => storeA C lk t (ρ a) (ρ x)
  | .nilCheck x => match ρ x with
    | .ptr i o => some ⟨.ptr i o, [], []⟩
    | _ => none
  | .binOp op t x y _ => binA C op t o.dst (ρ x) (ρ y)
  | .unOp op _ x => (unA op (ρ x)).map fun v => ⟨v, [], []⟩
  | .convert s t x => match ρ x with
    | .slc i o' l c => match C.P.underlying t with
      | some .string => strA C lk (hintB C o.dst) s i o' l
      | _ => match Nat.beq s t && Nat.ble 1 c, tSlc C.P t, lk i with
        | true, some (_, e, _, _), some b => match tInt C.P e, b.rw with
          | some .u8, true => some ⟨.slc i o' l c, [], []⟩
          | _, _ => none
        | _, _, _ => none
    | .emp => match C.P.underlying t with
      | some .string => strA C lk false s 0 0 0
      | _ => none
    | x => (convA C s t x).map fun v => ⟨v, [], []⟩
  | .indexAddr t x i => (indexAddrA C t (ρ x) (ρ i)).map fun v => ⟨v, [], []⟩
  | .index t x i => (indexA C t (ρ x) (ρ i)).map fun v => ⟨v, [], []⟩
  | .extract x i => match ρ x, i with
    | .pair a _, 0 => some ⟨a, [], []⟩
    | .pair _ b, 1 => some ⟨b, [], []⟩
    | _, _ => none
  | .slice t x lo hi none => match hintB C o.dst with
    | true => sliceH C t (ρ x) (lo.map ρ) (hi.map ρ)
    | false => (sliceA C t (ρ x) (lo.map ρ) (hi.map ρ)).map fun v => ⟨v, [], []⟩
  | .makeSlice t l c => makeA C nid t (ρ l) (ρ c)
  | .sliceToArrayPointer t x => (arrayAtA C t (ρ x)).map fun v => ⟨v, [], []⟩
  | .call c => match c.callee with
    | .builtin .append => appendA C lk nid (hintO C o.dst) c.argTypes.toList (c.args.toList.map ρ)
    | .builtin b => builtA C lk b c.argTypes.toList (c.args.toList.map ρ)
    | .value (.func f) => match C.ext f with
      | 0 => callA C lk nid f (c.args.toList.map ρ)
      | n => (extA n (c.args.toList.map ρ)).map fun v => ⟨v, [], []⟩
    | _ => none
  | _ => none

end Go.Proofs.YtbdmahidobjaoaaDoor.Sx
