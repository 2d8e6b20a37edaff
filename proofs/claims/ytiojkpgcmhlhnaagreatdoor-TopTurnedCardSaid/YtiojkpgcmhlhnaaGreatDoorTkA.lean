/-
  The words of the second shadow, and its operations.
-/
import Derived.WalkKit
import Derived.ChangeKeysEq
import Derived.Laws.BytesString
import Derived.ArgAppend
namespace Go.Proofs.YtiojkpgcmhlhnaaGreatDoor.Ty
open Go
set_option maxRecDepth 100000
set_option linter.unusedSimpArgs false
set_option linter.unusedVariables false
section
structure Rng where
 a : Int
 b : Int
structure Rec where
 n : Int
 at_ : Int
 l : List Rng
structure Way where
 to : Int
 b : List Int
structure Frm where
 kind : Int
 at_ : Int
 lim : Int
 rs : List Rng
 b : List Int
 tok : List Int
structure Ev where
 kind : Int
 who : Int
 path : Int
 n : Int
 m : Int
 b : List Int
structure Pth where
 st : Int
 rtt : Int
 tries : Int
 next : Int
 tok : List Int
structure Late where
 round : Int
 to : Int
 b : List Int
structure Due where
 toks : List (List Int)
 some : Bool
 news : Bool
inductive Cd
 | i64 | rng | bys | tok | rcd | way | frm | ev | pth | late | due
 deriving DecidableEq
def Cd.T : Cd → Type
 | .i64 => Int
 | .rng => Rng
 | .bys => List Int
 | .tok => List Int
 | .rcd => Rec
 | .way => Way
 | .frm => Frm
 | .ev => Ev
 | .pth => Pth
 | .late => Late
 | .due => Due
inductive D
 | int (k : IntKind) (n : Int)
 | bool (b : Bool)
 | arr (k : IntKind) (n : Nat) (xs : List Int)
 | nil
 | ints (k : IntKind) (xs : List Int)
 | rngs (xs : List Rng)
 | toks (xs : List (List Int))
def Cd.enc : (c : Cd) → c.T → List D
 | .i64, x => [.int .i64 x]
 | .rng, x => [.int .i64 x.a, .int .i64 x.b]
 | .bys, x => [.ints .u8 x]
 | .tok, x => [.arr .u8 8 x]
 | .rcd, x => [.int .i64 x.n, .int .i64 x.at_, .rngs x.l]
 | .way, x => [.int .i64 x.to, .ints .u8 x.b]
 | .frm, x => [.int .i64 x.kind, .int .i64 x.at_, .int .i64 x.lim, .rngs x.rs, .ints .u8 x.b, .arr .u8 8 x.tok]
 | .ev, x => [.int .i64 x.kind, .int .i64 x.who, .int .i64 x.path, .int .i64 x.n, .int .i64 x.m, .ints .u8 x.b]
 | .pth, x => [.int .i64 x.st, .int .i64 x.rtt, .int .i64 x.tries, .int .i64 x.next, .arr .u8 8 x.tok]
 | .late, x => [.int .i64 x.round, .int .i64 x.to, .ints .u8 x.b]
 | .due, x => [.toks x.toks, .bool x.some, .bool x.news]
def Cd.w : Cd → Nat
 | .i64 => 1
 | .rng => 2
 | .bys => 1
 | .tok => 8
 | .rcd => 3
 | .way => 2
 | .frm => 13
 | .ev => 6
 | .pth => 12
 | .late => 3
 | .due => 3
def Cd.agg : Cd → Bool
 | .i64 => false
 | .bys => false
 | _ => true
def dInts : D → Option (List Int)
 | .nil => some []
 | .ints .u8 xs => some xs
 | _ => none
def dRngs : D → Option (List Rng)
 | .nil => some []
 | .rngs xs => some xs
 | _ => none
def dToks : D → Option (List (List Int))
 | .nil => some []
 | .toks xs => some xs
 | _ => none
def dTok : D → Option (List Int)
 | .arr .u8 8 xs => some xs
 | _ => none
def dI : D → Option Int
 | .int .i64 n => some n
 | _ => none
def dB : D → Option Bool
 | .bool b => some b
 | _ => none
def ap {α β : Type} (f : Option (α → β)) (x : Option α) : Option β :=
 match f, x with
 | some f, some x => some (f x)
 | _, _ => none
def Cd.dec : (c : Cd) → List D → Option c.T
 | .i64, [a] => dI a
 | .rng, [a, b] => ap (ap (some Rng.mk) (dI a)) (dI b)
 | .bys, [a] => dInts a
 | .tok, [a] => dTok a
 | .rcd, [a, b, c] => ap (ap (ap (some Rec.mk) (dI a)) (dI b)) (dRngs c)
 | .way, [a, b] => ap (ap (some Way.mk) (dI a)) (dInts b)
 | .frm, [a, b, c, d, e, f] => ap (ap (ap (ap (ap (ap (some Frm.mk) (dI a)) (dI b)) (dI c)) (dRngs d)) (dInts e)) (dTok f)
 | .ev, [a, b, c, d, e, f] => ap (ap (ap (ap (ap (ap (some Ev.mk) (dI a)) (dI b)) (dI c)) (dI d)) (dI e)) (dInts f)
 | .pth, [a, b, c, d, e] => ap (ap (ap (ap (ap (some Pth.mk) (dI a)) (dI b)) (dI c)) (dI d)) (dTok e)
 | .late, [a, b, c] => ap (ap (ap (some Late.mk) (dI a)) (dI b)) (dInts c)
 | .due, [a, b, c] => ap (ap (ap (some Due.mk) (dToks a)) (dB b)) (dB c)
 | _, _ => none
inductive A
 | any
 | undef
 | bool (l b : Bool)
 | int (l : Bool) (k : IntKind) (n : Int)
 | str (l : Bool) (s : List Int)
 | val (v : Value)
 | ptr (id s i : Nat) (l : Bool) (j : Nat)
 | slc (l : Bool) (id s off len : Nat) (cap : Option Nat)
 | vec (id : Nat)
 | fzi (l : Bool) (k : IntKind) (xs : List Int)
 | fz (c : Cd) (xs : List c.T)
 | fpt (a : A)
 | map (id : Nat)
 | fn (f : FuncId) (first cap : List A)
 | ifc (t : TypeId) (v : A)
 | agg (l : List A)
 | arr (lc : Bool) (k : IntKind) (n : Nat) (xs : List Int)
 | arrc (c : Cd) (n : Nat) (xs : List c.T)
 | tup (l : List A)
inductive Pc
 | one (a : A)
 | row (ln lc : Bool) (k : IntKind) (n : Nat) (xs : List Int)
 | lst (ln : Bool) (c : Cd) (n : Nat) (xs : List c.T)
 | ones (l : List A)
inductive Blk
 | cells (own : Bool) (t : TypeId) (ps : List Pc)
 | imap (c : Cd) (M : Int → Option c.T)
 | lmap (es : List (Int × A))
 | dead
inductive Tr (α : Type) : Type
 | leaf (a : α)
 | br (b : Bool) (x y : Tr α)
 | ob (p : Prop) (t : Tr α)
 | opt (c : Cd) (o : Option c.T) (n : Tr α) (s : c.T → Tr α)
 | num (n : Int) (s : Int → Tr α)
 | same (a b : List A × List Blk) (t : Tr α)
 | fail
namespace Tr
variable {α β : Type}
def bind (t : Tr α) (k : α → Tr β) : Tr β :=
 match t with
 | .leaf a => k a
 | .br b x y => .br b (bind x k) (bind y k)
 | .ob p t => .ob p (bind t k)
 | .opt c o n s => .opt c o (bind n k) (fun x => bind (s x) k)
 | .num n s => .num n (fun x => bind (s x) k)
 | .same a b t => .same a b (bind t k)
 | .fail => .fail
def map (f : α → β) (t : Tr α) : Tr β := t.bind fun a => .leaf (f a)
def to (t : Tr α) (Q : α → Prop) : Prop :=
 match t with
 | .leaf a => Q a
 | .br b x y => (b = true → x.to Q) ∧ (b = false → y.to Q)
 | .ob p t => p ∧ t.to Q
 | .opt _ o n s => (o = none → n.to Q) ∧ (∀ x, o = some x → (s x).to Q)
 | .num n s => (s n).to Q
 | .same a b t => a = b ∧ t.to Q
 | .fail => False
end Tr
def gd {α : Type} (b : Bool) (t : Tr α) : Tr α :=
 match b with
 | true => t
 | false => .fail
def litT {α : Type} (l : Bool) (n : Int) (k : Int → Tr α) : Tr α :=
 match l with
 | true => k n
 | false => .num n k
def ltT {α : Type} (l : Bool) (i n : Nat) (t : Tr α) : Tr α :=
 match l with
 | true => gd (Nat.ble (i + 1) n) t
 | false => .ob (i < n) t
def leT {α : Type} (l : Bool) (i n : Nat) (t : Tr α) : Tr α :=
 match l with
 | true => gd (Nat.ble i n) t
 | false => .ob (i ≤ n) t
inductive Bt (α : Type) : Type
 | nil
 | node (l : Bt α) (a : α) (r : Bt α)
noncomputable def bget {α : Type} (d : α) (t : Bt α) : Nat → α :=
 Bt.rec (fun _ => d) (fun _ a _ fl fr i => match i with
  | 0 => a
  | n + 1 => match Nat.land n 1 with
   | 0 => fl (Nat.shiftRight n 1)
   | _ + 1 => fr (Nat.shiftRight n 1)) t
noncomputable def bset {α β : Type} (d : α) (g : Nat) : Bt α → Nat → α → (Bt α → β) → β :=
 Nat.rec (fun t _ _ K => K t) (fun _ ih t i v K => match t with
  | .nil => match i with
   | 0 => K (.node .nil v .nil)
   | n + 1 => match Nat.land n 1 with
    | 0 => ih .nil (Nat.shiftRight n 1) v fun l => K (.node l d .nil)
    | _ + 1 => ih .nil (Nat.shiftRight n 1) v fun r => K (.node .nil d r)
  | .node l a r => match i with
   | 0 => K (.node l v r)
   | n + 1 => match Nat.land n 1 with
    | 0 => ih l (Nat.shiftRight n 1) v fun l => K (.node l a r)
    | _ + 1 => ih r (Nat.shiftRight n 1) v fun r => K (.node l a r)) g
abbrev Hp := Bt (Option Blk)
noncomputable def look (h : Hp) (i : Nat) : Option Blk := bget none h i
noncomputable def putK {β : Type} (h : Hp) (i : Nat) (b : Blk) (K : Hp → β) : β := bset none (i + 1) h i (some b) K
noncomputable def putsK {β : Type} (h : Hp) (l : List (Nat × Blk)) : (Hp → β) → β :=
  List.rec (fun h K => K h) (fun p _ ih h K => match p with
    | (i, b) => putK h i b fun h => ih h K) l h
noncomputable def fresh (h : Hp) : Nat := Bt.rec 0 (fun _ _ _ fl fr => Nat.max 1 (Nat.max (2 * fl) (2 * fr + 1))) h
abbrev Tm := Bt A
noncomputable def tget (t : Tm) (i : Nat) : A := bget .any t i
noncomputable def tsetK {β : Type} (t : Tm) (i : Nat) (v : A) (K : Tm → β) : β := bset .any (i + 1) t i v K
structure St where
 tm : Tm
 h : Hp
structure Eff where
 val : A
 puts : List (Nat × Blk)
structure Res where
 val : A
 mem : List Blk
structure Ctx where
 P : Program
 gl : List Blk
 cod : List (TypeId × Cd)
 ro : List Nat
abbrev Spec := List A → List Blk → Tr Res
def Ctx.ng (C : Ctx) : Nat := C.gl.length
def assoc {α : Type} : List (Nat × α) → Nat → Option α
 | [], _ => none
 | (j, a) :: r, i => match Nat.beq i j with
  | true => some a
  | false => assoc r i
def bi : Bool → Int
 | true => 1
 | false => 0
def wf (k : IntKind) (n : Int) : Prop := k.wrap n = n
def isAggT (P : Program) (t : TypeId) : Option Bool :=
 match P.underlying t with
 | some (.struct _) => some true
 | some (.array _ _) => some true
 | some _ => some false
 | none => none
def sizeT (P : Program) (t : TypeId) : Option Nat :=
 match P.info? t with
 | some i => some i.size
 | none => none
def intT (P : Program) (t : TypeId) : Option IntKind :=
 match P.underlying t with
 | some (.int k) => some k
 | _ => none
def zeroE : (c : Cd) → List D
 | .i64 => [.int .i64 0]
 | .rng => [.int .i64 0, .int .i64 0]
 | .bys => [.nil]
 | .tok => [.arr .u8 8 [0, 0, 0, 0, 0, 0, 0, 0]]
 | .rcd => [.int .i64 0, .int .i64 0, .nil]
 | .way => [.int .i64 0, .nil]
 | .frm => [.int .i64 0, .int .i64 0, .int .i64 0, .nil, .nil, .arr .u8 8 [0, 0, 0, 0, 0, 0, 0, 0]]
 | .ev => [.int .i64 0, .int .i64 0, .int .i64 0, .int .i64 0, .int .i64 0, .nil]
 | .pth => [.int .i64 0, .int .i64 0, .int .i64 0, .int .i64 0, .arr .u8 8 [0, 0, 0, 0, 0, 0, 0, 0]]
 | .late => [.int .i64 0, .int .i64 0, .nil]
 | .due => [.nil, .bool false, .bool false]
def zeroC (v : Value) : Option A :=
 match v with
 | .int k 0 => some (.int true k 0)
 | .bool false => some (.bool true false)
 | .string s => match s.data.toList with
  | [] => some (.str true [])
  | _ => none
 | .pointer none => some (.val (.pointer none))
 | .slice none 0 0 => some (.val (.slice none 0 0))
 | .map none => some (.val (.map none))
 | .nilFunc => some (.val .nilFunc)
 | .nilIface => some (.val .nilIface)
 | _ => none
def zeroRow (k : IntKind) : Nat → List Value → Option (List Value)
 | 0, l => some l
 | n + 1, .int k' 0 :: l => match decide (k' = k) with
  | true => zeroRow k n l
  | false => none
 | _ + 1, _ => none
def zeroD : D → List Value → Option (List Value)
 | .int k n, .int k' m :: l => match decide (k' = k) && decide (n = 0) && decide (m = 0) with
  | true => some l
  | false => none
 | .bool b, .bool c :: l => match !b && !c with
  | true => some l
  | false => none
 | .nil, .slice none 0 0 :: l => some l
 | .arr k n xs, l => match decide (xs = List.replicate n 0) with
  | true => zeroRow k n l
  | false => none
 | _, _ => none
def zeroDs : List D → List Value → Option (List Value)
 | [], l => some l
 | d :: r, l => match zeroD d l with
  | some l' => zeroDs r l'
  | none => none
def zeroEs (c : Cd) : Nat → List Value → Option (List Value)
 | 0, l => some l
 | n + 1, l => match zeroDs (zeroE c) l with
  | some l' => zeroEs c n l'
  | none => none
def zeroP (C : Ctx) : Nat → TypeId → List Value → Option (List Pc × List Value)
 | 0, _, _ => none
 | f + 1, t, l => match C.P.underlying t with
  | some (.array n e) => match intT C.P e with
   | some k => match zeroRow k n l with
    | some l' => some ([.row true true k n (List.replicate n 0)], l')
    | none => none
   | none => match assoc C.cod e with
    | some c => match c.dec (zeroE c) with
     | some x => match zeroEs c n l with
      | some l' => some ([.lst true c n (List.replicate n x)], l')
      | none => none
     | none => none
    | none => zeroN (zeroP C f e) n l
  | some (.struct fs) => zeroF (zeroP C f) (fs.toList.map (·.type)) l
  | some _ => match l with
   | v :: l' => match zeroC v with
    | some a => some ([.one a], l')
    | none => none
   | [] => none
  | none => none
where
 zeroN (g : List Value → Option (List Pc × List Value)) : Nat → List Value → Option (List Pc × List Value)
  | 0, l => some ([], l)
  | n + 1, l => match g l with
   | some (p, l') => match zeroN g n l' with
    | some (q, l'') => some (p ++ q, l'')
    | none => none
   | none => none
 zeroF (g : TypeId → List Value → Option (List Pc × List Value)) : List TypeId → List Value → Option (List Pc × List Value)
  | [], l => some ([], l)
  | t :: r, l => match g t l with
   | some (p, l') => match zeroF g r l' with
    | some (q, l'') => some (p ++ q, l'')
    | none => none
   | none => none
def zeroT (C : Ctx) (t : TypeId) : Option (List Pc) :=
 match C.P.info? t with
 | some i => match i.zero with
  | some z => match zeroP C 8 t z.cells.toList with
   | some (ps, []) => some ps
   | _ => none
  | none => none
 | none => none
def dA : D → A
 | .int k n => .int false k n
 | .bool b => .bool false b
 | .arr k n xs => .arr false k n xs
 | .nil => .val (.slice none 0 0)
 | .ints k xs => .fzi false k xs
 | .rngs xs => .fz .rng xs
 | .toks xs => .fz .tok xs
def aD : A → Option D
 | .int _ k n => some (.int k n)
 | .bool _ b => some (.bool b)
 | .arr _ k n xs => some (.arr k n xs)
 | .val (.slice none 0 0) => some .nil
 | .fzi _ k xs => some (.ints k xs)
 | .fz .rng xs => some (.rngs xs)
 | .fz .tok xs => some (.toks xs)
 | _ => none
def allSome {α : Type} : List (Option α) → Option (List α)
 | [] => some []
 | none :: _ => none
 | some x :: r => match allSome r with
  | some l => some (x :: l)
  | none => none
def encA (c : Cd) (x : c.T) : List A := (c.enc x).map dA
def wA : A → Nat
 | .arr _ _ n _ => n
 | .arrc c n _ => n * c.w
 | _ => 1
def elA (c : Cd) (l : List A) : A :=
 match c.agg with
 | true => match l with
  | [.arr lc k n xs] => .arr lc k n xs
  | l => .agg l
 | false => match l with
  | a :: _ => a
  | [] => .any
def flatA : A → List A
 | .agg l => flatL l
 | a => [a]
where flatL : List A → List A
 | [] => []
 | a :: r => flatA a ++ flatL r
def dropC : Nat → List A → Option (List A)
 | 0, l => some l
 | _ + 1, [] => none
 | j + 1, a :: l => match Nat.ble (wA a) (j + 1) with
  | true => dropC (j + 1 - wA a) l
  | false => none
def takeC : Nat → List A → Option (List A)
 | 0, _ => some []
 | _ + 1, [] => none
 | n + 1, a :: l => match Nat.ble (wA a) (n + 1) with
  | true => match takeC (n + 1 - wA a) l with
   | some r => some (a :: r)
   | none => none
  | false => none
def mkAgg : List A → A
 | [.arr lc k n xs] => .arr lc k n xs
 | [.arrc c n xs] => .arrc c n xs
 | l => .agg l
def partC (agg : Bool) (j n : Nat) (l : List A) : Option A :=
 match dropC j l with
 | some l => match agg with
  | true => match takeC n l with
   | some r => some (mkAgg r)
   | none => none
  | false => match l with
   | .arr lc k n' xs :: _ => match Nat.ble 1 n' with
    | true => some (.int lc k (xs.getD 0 0))
    | false => none
   | .arrc _ _ _ :: _ => none
   | a :: _ => some a
   | [] => none
 | none => none
def pcA : Pc → Option A
 | .one a => some a
 | .row _ lc k n xs => some (.arr lc k n xs)
 | .lst _ c n xs => some (.arrc c n xs)
 | .ones _ => none
def wP : Pc → Nat
 | .one _ => 1
 | .row _ _ _ n _ => n
 | .lst _ c n _ => n * c.w
 | .ones l => l.length
def takeP : Nat → List Pc → Option (List A)
 | 0, _ => some []
 | _ + 1, [] => none
 | n + 1, p :: l => match pcA p, Nat.ble (wP p) (n + 1) with
  | some a, true => match takeP (n + 1 - wP p) l with
   | some r => some (a :: r)
   | none => none
  | _, _ => none
def skipP : Nat → List Pc → Option Nat
 | 0, _ => some 0
 | _ + 1, [] => none
 | j + 1, p :: l => match Nat.ble (wP p) (j + 1) with
  | true => match skipP (j + 1 - wP p) l with
   | some s => some (s + 1)
   | none => none
  | false => none
def ldP (agg : Bool) (n : Nat) (ps : List Pc) (s i : Nat) (l : Bool) (j : Nat) : Tr A :=
 match ps.drop s with
 | [] => .fail
 | .one a :: r => gd (l && Nat.beq i 0 && Nat.beq j 0) (match agg with
  | false => .leaf a
  | true => match takeP n (.one a :: r) with
   | some q => .leaf (mkAgg q)
   | none => .fail)
 | .row ln lc k m xs :: r => gd (Nat.beq j 0) (match agg with
  | false => ltT (l && ln) i m (.leaf (.int (l && lc) k (xs.getD i 0)))
  | true => match l && Nat.beq i 0 && Nat.ble m n with
   | true => match takeP n (.row ln lc k m xs :: r) with
    | some q => .leaf (mkAgg q)
    | none => .fail
   | false => leT (l && ln) (i + n) m (.leaf (.arr (l && lc) k n ((xs.drop i).take n))))
 | .lst _ c _ xs :: _ => .opt c xs[i]? .fail (fun x => match partC agg j n (encA c x) with
  | some a => .leaf a
  | none => .fail)
 | .ones q :: _ => gd (l && Nat.beq j 0 && !agg) (match q[i]? with
  | some a => .leaf a
  | none => .fail)
def setPs : List A → List Pc → Option (List Pc)
 | [], ps => some ps
 | .arr lc k n xs :: r, .row ln _ k' n' _ :: ps => match decide (k = k') && Nat.beq n n' with
  | true => match setPs r ps with
   | some q => some (.row ln lc k n xs :: q)
   | none => none
  | false => none
 | .arr _ _ _ _ :: _, _ => none
 | .arrc c n xs :: r, .lst ln c' n' _ :: ps => match decide (c = c') && Nat.beq n n' with
  | true => match setPs r ps with
   | some q => some (.lst ln c n xs :: q)
   | none => none
  | false => none
 | .arrc _ _ _ :: _, _ => none
 | .agg _ :: _, _ => none
 | .tup _ :: _, _ => none
 | a :: r, .one _ :: ps => match setPs r ps with
  | some q => some (.one a :: q)
  | none => none
 | _ :: _, _ => none
def wD : D → Nat
 | .arr _ n _ => n
 | _ => 1
def splitD : Nat → List D → Option (List D × List D)
 | 0, l => some ([], l)
 | _ + 1, [] => none
 | j + 1, d :: l => match Nat.ble (wD d) (j + 1) with
  | true => match splitD (j + 1 - wD d) l with
   | some (p, q) => some (d :: p, q)
   | none => none
  | false => none
def replD : List D → List D → Option (List D)
 | [], l => some l
 | d :: r, e :: l => match Nat.beq (wD d) (wD e), replD r l with
  | true, some q => some (d :: q)
  | _, _ => none
 | _ :: _, [] => none
def setDs (j : Nat) (ds l : List D) : Option (List D) :=
 match splitD j l with
 | some (p, q) => match replD ds q with
  | some q' => some (p ++ q')
  | none => none
 | none => none
def nilAny : Value → Bool
 | .pointer none => true
 | .slice none 0 0 => true
 | .map none => true
 | .nilFunc => true
 | .nilIface => true
 | _ => false
def cellV : A → Bool
 | .any => false
 | .undef => false
 | .tup _ => false
 | .agg _ => false
 | .val v => nilAny v
 | _ => true
def cellsV (a : A) : Bool := (flatA a).all cellV
def aggA : A → Bool
 | .agg _ => true
 | .arr .. => true
 | .arrc .. => true
 | _ => false
def stP (a : A) (ps : List Pc) (s i : Nat) (l : Bool) (j : Nat) : Tr (List Pc) :=
 match ps.drop s with
 | [] => .fail
 | .one b :: r => gd (l && Nat.beq i 0 && Nat.beq j 0) (match setPs (flatA a) (.one b :: r) with
  | some q => .leaf (ps.take s ++ q)
  | none => .fail)
 | .row ln lc k m xs :: r => gd (Nat.beq j 0) (match flatA a with
  | [.int lv k' v] => gd (decide (k' = k)) (ltT (l && ln) i m (.leaf (ps.take s ++ .row ln (lc && l && lv) k m (xs.set i v) :: r)))
  | [.arr lv k' n ys] => match l && Nat.beq i 0 && Nat.beq n m with
   | true => gd (decide (k' = k)) (.leaf (ps.take s ++ .row ln lv k m ys :: r))
   | false => gd (decide (k' = k)) (leT (l && ln) (i + n) m (.leaf (ps.take s ++ .row ln (lc && l && lv) k m (xs.take i ++ ys ++ xs.drop (i + n)) :: r)))
  | q => match l && Nat.beq i 0 with
   | true => match setPs q (.row ln lc k m xs :: r) with
    | some q => .leaf (ps.take s ++ q)
    | none => .fail
   | false => .fail)
 | .lst ln c m xs :: r => .opt c xs[i]? .fail (fun x => match allSome ((flatA a).map aD) with
  | some ds => match setDs j ds (c.enc x) with
   | some ds' => match c.dec ds' with
    | some x' => .leaf (ps.take s ++ .lst ln c m (xs.set i x') :: r)
    | none => .fail
   | none => .fail
  | none => .fail)
 | .ones q :: r => gd (l && Nat.beq j 0 && Nat.ble (i + 1) q.length) (match flatA a with
  | [x] => gd (!(aggA x)) (.leaf (ps.take s ++ .ones (q.set i x) :: r))
  | _ => .fail)
end
section
namespace Tr
variable {α β : Type}
theorem to_mono {P Q : α → Prop} : ∀ t : Tr α, (∀ a, P a → Q a) → t.to P → t.to Q
 | .leaf a, h, hp => h a hp
 | .br _ x y, h, hp => ⟨fun e => to_mono x h (hp.1 e), fun e => to_mono y h (hp.2 e)⟩
 | .ob _ t, h, hp => ⟨hp.1, to_mono t h hp.2⟩
 | .opt _ _ n s, h, hp => ⟨fun e => to_mono n h (hp.1 e), fun x e => to_mono (s x) h (hp.2 x e)⟩
 | .num n s, h, hp => to_mono (s n) h hp
 | .same _ _ t, h, hp => ⟨hp.1, to_mono t h hp.2⟩
 | .fail, _, hp => hp
theorem to_bind {k : α → Tr β} {Q : β → Prop} : ∀ t : Tr α, (t.bind k).to Q ↔ t.to (fun a => (k a).to Q)
 | .leaf a => Iff.rfl
 | .br b x y => by simp only [bind, to, to_bind x, to_bind y]
 | .ob p t => by simp only [bind, to, to_bind t]
 | .opt c o n s => by
  simp only [bind, to, to_bind n]
  exact and_congr Iff.rfl (forall_congr' fun x => by rw [to_bind (s x)])
 | .num n s => to_bind (s n)
 | .same a b t => by simp only [bind, to, to_bind t]
 | .fail => Iff.rfl
def is (t : Tr α) (a : α) : Prop := t.to (fun b => b = a)
theorem to_ex {Q : α → Prop} : ∀ t : Tr α, t.to Q → ∃ a, t.is a ∧ Q a
 | .leaf a, h => ⟨a, rfl, h⟩
 | .br b x y, h => by
  cases b with
  | true =>
   obtain ⟨a, h1, h2⟩ := to_ex x (h.1 rfl)
   exact ⟨a, ⟨fun _ => h1, fun e => (by cases e)⟩, h2⟩
  | false =>
   obtain ⟨a, h1, h2⟩ := to_ex y (h.2 rfl)
   exact ⟨a, ⟨fun e => (by cases e), fun _ => h1⟩, h2⟩
 | .ob p t, h => by
  obtain ⟨a, h1, h2⟩ := to_ex t h.2
  exact ⟨a, ⟨h.1, h1⟩, h2⟩
 | .opt c o n s, h => by
  cases o with
  | none =>
   obtain ⟨a, h1, h2⟩ := to_ex n (h.1 rfl)
   exact ⟨a, ⟨fun _ => h1, fun x e => by cases e⟩, h2⟩
  | some x =>
   obtain ⟨a, h1, h2⟩ := to_ex (s x) (h.2 x rfl)
   exact ⟨a, ⟨fun e => by (cases e), fun y e => by
    simp only [Option.some.injEq] at e
    subst e
    exact h1⟩, h2⟩
 | .num n s, h => by
  obtain ⟨a, h1, h2⟩ := to_ex (s n) h
  exact ⟨a, h1, h2⟩
 | .same p q t, h => by
  obtain ⟨a, h1, h2⟩ := to_ex t h.2
  exact ⟨a, ⟨h.1, h1⟩, h2⟩
 | .fail, h => h.elim
theorem is_to {t : Tr α} {a : α} (h : t.is a) {Q : α → Prop} (hq : Q a) : t.to Q := to_mono t (fun b e => by subst e; exact hq) h
theorem is_bind {k : α → Tr β} {b : β} {t : Tr α} : (t.bind k).is b ↔ ∃ a, t.is a ∧ (k a).is b := by
 unfold is
 rw [to_bind]
 constructor
 ·intro h
  exact to_ex t h
 ·rintro ⟨a, h1, h2⟩
  exact is_to h1 h2
theorem is_leaf {a b : α} : (Tr.leaf a).is b ↔ a = b := Iff.rfl
theorem is_ob {p : Prop} {t : Tr α} {b : α} : (Tr.ob p t).is b ↔ p ∧ t.is b := Iff.rfl
theorem is_same {x y : List A × List Blk} {t : Tr α} {b : α} : (Tr.same x y t).is b ↔ x = y ∧ t.is b := Iff.rfl
theorem is_br {c : Bool} {x y : Tr α} {b : α} : (Tr.br c x y).is b ↔ (match c with | true => x | false => y).is b := by
 cases c with
 | true => exact ⟨fun h => h.1 rfl, fun h => ⟨fun _ => h, fun e => by cases e⟩⟩
 | false => exact ⟨fun h => h.2 rfl, fun h => ⟨fun e => by (cases e), fun _ => h⟩⟩
theorem is_opt {c : Cd} {o : Option c.T} {n : Tr α} {s : c.T → Tr α} {b : α} : (Tr.opt c o n s).is b ↔ (match o with | none => n | some x => s x).is b := by
 cases o with
 | none => exact ⟨fun h => h.1 rfl, fun h => ⟨fun _ => h, fun x e => by cases e⟩⟩
 | some x => exact ⟨fun h => h.2 x rfl, fun h => ⟨fun e => by (cases e), fun y e => by
   simp only [Option.some.injEq] at e
   subst e
   exact h⟩⟩
theorem is_num {n : Int} {s : Int → Tr α} {b : α} : (Tr.num n s).is b ↔ (s n).is b := Iff.rfl
theorem is_lit {l : Bool} {n : Int} {s : Int → Tr α} {b : α} : (litT l n s).is b ↔ (s n).is b := by cases l <;> exact Iff.rfl
theorem is_gd {c : Bool} {t : Tr α} {b : α} : (gd c t).is b ↔ c = true ∧ t.is b := by
 cases c with
 | true => exact ⟨fun h => ⟨rfl, h⟩, fun h => h.2⟩
 | false => exact ⟨fun h => h.elim, fun h => by cases h.1⟩
theorem is_lt {l : Bool} {i n : Nat} {t : Tr α} {b : α} : (ltT l i n t).is b ↔ i < n ∧ t.is b := by
 cases l with
 | true =>
  show (gd _ t).is b ↔ _
  rw [is_gd, Nat.ble_eq]
  exact Iff.rfl
 | false => exact Iff.rfl
theorem is_le {l : Bool} {i n : Nat} {t : Tr α} {b : α} : (leT l i n t).is b ↔ i ≤ n ∧ t.is b := by
 cases l with
 | true =>
  show (gd _ t).is b ↔ _
  rw [is_gd, Nat.ble_eq]
 | false => exact Iff.rfl
end Tr
structure Spot where
 blk : Nat
 base : Nat → Nat
 st : Nat → Nat
 cnt : Nat → Nat
 room : Nat
 real : Bool
abbrev Loc := Nat → Spot
abbrev Fm := Nat → Option (List Value)
abbrev Lk := Nat → Option Blk
def iv (k : IntKind) (xs : List Int) : List Value := xs.map (Value.int k)
def wfs (k : IntKind) (xs : List Int) : Prop := ∀ x ∈ xs, wf k x
theorem iv_length (k : IntKind) (xs : List Int) : (iv k xs).length = xs.length := by simp [iv]
abbrev lim63 : Nat := 9223372036854775808
def FzS (fm : Fm) (n : Nat) (cs : List Value) (v : Value) : Prop :=
 ∃ a c, v = .slice a n c ∧ n ≤ c ∧ c < lim63 ∧ (0 < n → ∃ b o l, a = some ⟨b, o, none⟩ ∧ fm b = some l ∧ (l.drop o).take cs.length = cs)
def rngC (r : Rng) : List Value := [.int .i64 r.a, .int .i64 r.b]
def wfR (r : Rng) : Prop := wf .i64 r.a ∧ wf .i64 r.b
def VD (fm : Fm) : D → List Value → Prop
 | .int k n, cs => cs = [.int k n] ∧ wf k n
 | .bool b, cs => cs = [.bool b]
 | .arr k n xs, cs => cs = iv k xs ∧ xs.length = n ∧ wfs k xs
 | .nil, cs => cs = [.slice none 0 0]
 | .ints k xs, cs => ∃ v, cs = [v] ∧ wfs k xs ∧ FzS fm xs.length (iv k xs) v
 | .rngs xs, cs => ∃ v, cs = [v] ∧ (∀ r ∈ xs, wfR r) ∧ FzS fm xs.length (xs.flatMap rngC) v
 | .toks xs, cs => ∃ v, cs = [v] ∧ (∀ t ∈ xs, t.length = 8 ∧ wfs .u8 t) ∧ FzS fm xs.length (xs.flatMap (iv .u8)) v
def VDs (fm : Fm) : List D → List Value → Prop
 | [], cs => cs = []
 | d :: r, cs => ∃ c1 c2, cs = c1 ++ c2 ∧ VD fm d c1 ∧ VDs fm r c2
def Els (fm : Fm) (c : Cd) : List c.T → List Value → Prop
 | [], cs => cs = []
 | x :: r, cs => ∃ c1 c2, cs = c1 ++ c2 ∧ VDs fm (c.enc x) c1 ∧ c1.length = c.w ∧ Els fm c r c2
def baOf (s : List Int) : ByteArray := ⟨(s.map fun n => UInt8.ofNat n.toNat).toArray⟩
def bytes (s : List Int) : Prop := ∀ x ∈ s, 0 ≤ x ∧ x < 256
def CapOk (q : Spot) (s off c : Nat) : Option Nat → Prop
 | some k => c = k
 | none => q.cnt s - off ≤ c ∧ (0 < c → q.real = true ∧ q.base s + (off + c) * q.st s ≤ q.room)
mutual
def VC (loc : Loc) (fm : Fm) (lk : Lk) : A → List Value → Prop
 | .any, cs => cs.length = 1
 | .undef, cs => cs = [Go.undef]
 | .bool _ b, cs => cs = [.bool b]
 | .int _ k n, cs => cs = [.int k n] ∧ wf k n
 | .str _ s, cs => cs = [.string (baOf s)] ∧ bytes s
 | .val v, cs => cs = [v]
 | .ptr id s i _ j, cs => cs = [.pointer (some ⟨(loc id).blk, (loc id).base s + i * (loc id).st s + j, none⟩)] ∧ (lk id).isSome = true
 | .slc _ id s off len cap, cs => ∃ a c, cs = [.slice a len c] ∧ len ≤ c ∧ c < lim63 ∧ CapOk (loc id) s off c cap ∧
   (0 < c → a = some ⟨(loc id).blk, (loc id).base s + off * (loc id).st s, none⟩) ∧ off + len ≤ (loc id).cnt s ∧ (lk id).isSome = true
 | .vec id, cs => ∃ a c, cs = [.slice a ((loc id).cnt 0) c] ∧ (loc id).cnt 0 ≤ c ∧ c < lim63 ∧
   (c = 0 ∨ (a = some ⟨(loc id).blk, 0, none⟩ ∧ c * (loc id).st 0 ≤ (loc id).room ∧ (loc id).real = true)) ∧ (lk id).isSome = true
 | .fzi _ k xs, cs => ∃ v, cs = [v] ∧ wfs k xs ∧ FzS fm xs.length (iv k xs) v
 | .fz c xs, cs => ∃ v l, cs = [v] ∧ Els fm c xs l ∧ FzS fm xs.length l v
 | .fpt a, cs => ∃ b o l m, cs = [.pointer (some ⟨b, o, none⟩)] ∧ fm b = some l ∧ o + m ≤ l.length ∧ VC loc fm lk a ((l.drop o).take m)
 | .map id, cs => cs = [.map (some (loc id).blk)] ∧ (lk id).isSome = true
 | .fn f a b, cs => ∃ us vs, cs = [.func (.func f) us.toArray vs.toArray] ∧ VTs loc fm lk a us ∧ VTs loc fm lk b vs
 | .ifc t a, cs => ∃ u, cs = [.iface t u] ∧ (match aggA a with
   | true => ∃ ds : List Value, u = .agg ds.toArray ∧ VC loc fm lk a ds
   | false => VC loc fm lk a [u])
 | .agg l, cs => VCs loc fm lk l cs
 | .arr _ k n xs, cs => cs = iv k xs ∧ xs.length = n ∧ wfs k xs
 | .arrc c n xs, cs => Els fm c xs cs ∧ xs.length = n
 | .tup l, cs => ∃ vs, cs = [.tuple vs.toArray] ∧ VTs loc fm lk l vs
def VCs (loc : Loc) (fm : Fm) (lk : Lk) : List A → List Value → Prop
 | [], cs => cs = []
 | x :: r, cs => ∃ c1 c2, cs = c1 ++ c2 ∧ VC loc fm lk x c1 ∧ VCs loc fm lk r c2
def VTs (loc : Loc) (fm : Fm) (lk : Lk) : List A → List Value → Prop
 | [], vs => vs = []
 | x :: r, vs => ∃ v r', vs = v :: r' ∧ (match aggA x with
   | true => ∃ ds : List Value, v = .agg ds.toArray ∧ VC loc fm lk x ds
   | false => VC loc fm lk x [v]) ∧ VTs loc fm lk r r'
end
def VR (loc : Loc) (fm : Fm) (lk : Lk) (x : A) (v : Value) : Prop :=
 match aggA x with
 | true => ∃ ds : List Value, v = .agg ds.toArray ∧ VC loc fm lk x ds
 | false => VC loc fm lk x [v]
structure Le (loc loc' : Loc) (fm fm' : Fm) (lk lk' : Lk) : Prop where
 ids : ∀ i, (lk i).isSome = true → loc' i = loc i ∧ (lk' i).isSome = true
 fm : ∀ b l, fm b = some l → fm' b = some l
theorem FzS.mono {fm fm' : Fm} (h : ∀ b l, fm b = some l → fm' b = some l) {n : Nat} {cs : List Value} {v : Value} (hv : FzS fm n cs v) : FzS fm' n cs v := by
 obtain ⟨a, c, h1, h2, h3, h4⟩ := hv
 exact ⟨a, c, h1, h2, h3, fun h0 => by
  obtain ⟨b, o, l, e1, e2, e3⟩ := h4 h0
  exact ⟨b, o, l, e1, h _ _ e2, e3⟩⟩
theorem VD.mono {fm fm' : Fm} (h : ∀ b l, fm b = some l → fm' b = some l) : ∀ (d : D) (cs : List Value), VD fm d cs → VD fm' d cs
 | .int _ _, _, hv => hv
 | .bool _, _, hv => hv
 | .arr _ _ _, _, hv => hv
 | .nil, _, hv => hv
 | .ints _ _, _, ⟨v, h1, h2, h3⟩ => ⟨v, h1, h2, h3.mono h⟩
 | .rngs _, _, ⟨v, h1, h2, h3⟩ => ⟨v, h1, h2, h3.mono h⟩
 | .toks _, _, ⟨v, h1, h2, h3⟩ => ⟨v, h1, h2, h3.mono h⟩
theorem VDs.mono {fm fm' : Fm} (h : ∀ b l, fm b = some l → fm' b = some l) : ∀ (ds : List D) (cs : List Value), VDs fm ds cs → VDs fm' ds cs
 | [], _, hv => hv
 | d :: r, _, ⟨c1, c2, h1, h2, h3⟩ => ⟨c1, c2, h1, VD.mono h d _ h2, VDs.mono h r _ h3⟩
theorem Els.mono {fm fm' : Fm} (h : ∀ b l, fm b = some l → fm' b = some l) {c : Cd} : ∀ (xs : List c.T) (cs : List Value), Els fm c xs cs → Els fm' c xs cs
 | [], _, hv => hv
 | _ :: r, _, ⟨c1, c2, h1, h2, h3, h4⟩ => ⟨c1, c2, h1, VDs.mono h _ _ h2, h3, Els.mono h r _ h4⟩
section
variable {loc loc' : Loc} {fm fm' : Fm} {lk lk' : Lk}
mutual
theorem VC.mono (h : Le loc loc' fm fm' lk lk') : ∀ (x : A) (cs : List Value), VC loc fm lk x cs → VC loc' fm' lk' x cs
 | .any, _, hv => hv
 | .undef, _, hv => hv
 | .bool _ _, _, hv => hv
 | .int _ _ _, _, hv => hv
 | .str _ _, _, hv => hv
 | .val _, _, hv => hv
 | .ptr id s i l j, cs, hv => by
  obtain ⟨h1, h2⟩ := hv
  obtain ⟨e, p⟩ := h.ids id h2
  exact ⟨by rw [e]; exact h1, p⟩
 | .slc l id s off len cap, cs, hv => by
  obtain ⟨a, c, h1, h2, h3, h4, h5, h6, h7⟩ := hv
  obtain ⟨e, p⟩ := h.ids id h7
  exact ⟨a, c, h1, h2, h3, by rw [e]; exact h4, by rw [e]; exact h5, by rw [e]; exact h6, p⟩
 | .vec id, cs, hv => by
  obtain ⟨a, c, h1, h2, h3, h4, h7⟩ := hv
  obtain ⟨e, p⟩ := h.ids id h7
  exact ⟨a, c, by rw [e]; exact h1, by rw [e]; exact h2, h3, by rw [e]; exact h4, p⟩
 | .fzi _ _ _, _, ⟨v, h1, h2, h3⟩ => ⟨v, h1, h2, h3.mono h.fm⟩
 | .fz _ _, _, ⟨v, l, h1, h2, h3⟩ => ⟨v, l, h1, Els.mono h.fm _ _ h2, h3.mono h.fm⟩
 | .fpt a, _, ⟨b, o, l, m, h1, h2, h3, h4⟩ => ⟨b, o, l, m, h1, h.fm _ _ h2, h3, VC.mono h a _ h4⟩
 | .map id, cs, hv => by
  obtain ⟨h1, h2⟩ := hv
  obtain ⟨e, p⟩ := h.ids id h2
  exact ⟨by rw [e]; exact h1, p⟩
 | .fn _ a b, _, ⟨us, vs, h1, h2, h3⟩ => ⟨us, vs, h1, VTs.mono h a _ h2, VTs.mono h b _ h3⟩
 | .ifc t a, _, ⟨u, h1, h2⟩ => ⟨u, h1, by
  revert h2
  cases aggA a with
  | true => exact fun ⟨ds, e1, e2⟩ => ⟨ds, e1, VC.mono h a _ e2⟩
  | false => exact fun e2 => VC.mono h a _ e2⟩
 | .agg l, cs, hv => VCs.mono h l cs hv
 | .arr _ _ _ _, _, hv => hv
 | .arrc _ _ _, _, hv => ⟨Els.mono h.fm _ _ hv.1, hv.2⟩
 | .tup l, _, ⟨vs, h1, h2⟩ => ⟨vs, h1, VTs.mono h l _ h2⟩
theorem VCs.mono (h : Le loc loc' fm fm' lk lk') : ∀ (xs : List A) (cs : List Value), VCs loc fm lk xs cs → VCs loc' fm' lk' xs cs
 | [], _, hv => hv
 | x :: r, _, ⟨c1, c2, h1, h2, h3⟩ => ⟨c1, c2, h1, VC.mono h x _ h2, VCs.mono h r _ h3⟩
theorem VTs.mono (h : Le loc loc' fm fm' lk lk') : ∀ (xs : List A) (vs : List Value), VTs loc fm lk xs vs → VTs loc' fm' lk' xs vs
 | [], _, hv => hv
 | x :: r, _, ⟨v, r', h1, h2, h3⟩ => ⟨v, r', h1, by
  revert h2
  cases aggA x with
  | true => exact fun ⟨ds, e1, e2⟩ => ⟨ds, e1, VC.mono h x _ e2⟩
  | false => exact fun e2 => VC.mono h x _ e2, VTs.mono h r _ h3⟩
end
theorem VR.mono (h : Le loc loc' fm fm' lk lk') (x : A) (v : Value) (hv : VR loc fm lk x v) : VR loc' fm' lk' x v := by
 revert hv
 unfold VR
 cases aggA x with
 | true => exact fun ⟨ds, e1, e2⟩ => ⟨ds, e1, VC.mono h x _ e2⟩
 | false => exact fun e2 => VC.mono h x _ e2
theorem Le.refl : Le loc loc fm fm lk lk := ⟨fun _ h => ⟨rfl, h⟩, fun _ _ h => h⟩
end
def PcOk (loc : Loc) (fm : Fm) (lk : Lk) : Pc → List Value → Prop
 | .one a, cs => VC loc fm lk a cs ∧ aggA a = false
 | .row _ _ k n xs, cs => cs = iv k xs ∧ xs.length = n ∧ wfs k xs
 | .lst _ c n xs, cs => Els fm c xs cs ∧ xs.length = n
 | .ones l, cs => VCs loc fm lk l cs ∧ (∀ a ∈ l, aggA a = false)
def PcsOk (loc : Loc) (fm : Fm) (lk : Lk) : List Pc → List Value → Prop
 | [], cs => cs = []
 | p :: r, cs => ∃ c1 c2, cs = c1 ++ c2 ∧ PcOk loc fm lk p c1 ∧ PcsOk loc fm lk r c2
def wPs : List Pc → Nat
 | [] => 0
 | p :: r => wP p + wPs r
def stOf : Pc → Nat
 | .lst _ c _ _ => c.w
 | _ => 1
def cntOf : Pc → Nat
 | .one _ => 1
 | .row _ _ _ n _ => n
 | .lst _ _ n _ => n
 | .ones l => l.length
def baseL (ps : List Pc) (s : Nat) : Nat := wPs (ps.take s)
def stL (ps : List Pc) (s : Nat) : Nat := (ps[s]?.map stOf).getD 1
def cntL (ps : List Pc) (s : Nat) : Nat := (ps[s]?.map cntOf).getD 0
structure Lies (ps : List Pc) (q : Spot) : Prop where
 base : q.base = baseL ps
 st : q.st = stL ps
 cnt : q.cnt = cntL ps
def RestOk (fm : Fm) : List Pc → List Value → Prop
 | [.row _ _ k _ _], rest => ∃ ys, rest = iv k ys ∧ wfs k ys
 | [.lst _ c _ _], rest => ∃ ys, Els fm c ys rest
 | _, _ => True
def Free (m : Bool) (n : Nat) (fz : Nat × Nat) : Prop := fz.1 = fz.2 ∨ (n ≤ fz.1 ∧ m = false)
def lstB : List Pc → Bool
 | [.lst ..] => true
 | _ => false
def keyM (n : Int) : Value := .int .i64 n
def VE (fm : Fm) (c : Cd) (x : c.T) (v : Value) : Prop :=
 match c.agg with
 | true => ∃ cs : List Value, v = .agg cs.toArray ∧ VDs fm (c.enc x) cs ∧ cs.length = c.w
 | false => VDs fm (c.enc x) [v]
structure MapOk (fm : Fm) (c : Cd) (M : Int → Option c.T) (es : List MapEntry) : Prop where
 has : ∀ e ∈ es, ∃ n x, e.key = keyM n ∧ M n = some x ∧ VE fm c x e.val
 all : ∀ n x, M n = some x → ∃ e ∈ es, e.key = keyM n
 once : es.Pairwise fun e f => e.key ≠ f.key
def LMap (loc : Loc) (fm : Fm) (lk : Lk) : List (Int × A) → List MapEntry → Prop
 | [], es => es = []
 | p :: r, es => ∃ e es', es = e :: es' ∧ e.key = keyM p.1 ∧ VR loc fm lk p.2 e.val ∧ LMap loc fm lk r es'
def Blk.live : Blk → Bool
 | .dead => false
 | _ => true
def Blk.mine : Blk → Bool
 | .cells true _ _ => true
 | .imap _ _ => true
 | .lmap _ => true
 | _ => false
def BlkOk (loc : Loc) (fm : Fm) (lk : Lk) (w : World) (i : Nat) : Blk → Prop
 | .cells own t ps => ∃ cs, PcsOk loc fm lk ps cs ∧ Lies ps (loc i) ∧
   match (loc i).real with
   | true => ∃ rest fz, w.heap[(loc i).blk]? = some (.cells (cs ++ rest).toArray t fz) ∧ (own = true → RestOk fm ps rest ∧ (loc i).room = (cs ++ rest).length ∧ Free (lstB ps) (cs ++ rest).length fz) ∧ (own = false → fm (loc i).blk = some (cs ++ rest))
   | false => cs = []
 | .lmap l => (loc i).real = true ∧ (l.map (·.1)).Nodup ∧ ∃ es clock, w.heap[(loc i).blk]? = some (.map es clock) ∧ LMap loc fm lk l es.toList
 | .imap c M => (loc i).real = true ∧ ∃ es clock, w.heap[(loc i).blk]? = some (.map es clock) ∧ MapOk fm c M es.toList
 | .dead => True
def Alone (loc : Loc) (fm : Fm) (lk : Lk) (i : Nat) (b : Blk) : Prop :=
 b.mine = true → (loc i).real = true → fm (loc i).blk = none ∧ ∀ i' b', i' ≠ i → lk i' = some b' → b'.live = true → (loc i').real = true → (loc i').blk ≠ (loc i).blk
def FmOk (fm : Fm) (w : World) : Prop := ∀ b l, fm b = some l → ∃ rest t fz, w.heap[b]? = some (.cells (l ++ rest).toArray t fz)
structure HRel (loc : Loc) (fm : Fm) (lk : Lk) (w : World) : Prop where
 ok : ∀ i b, lk i = some b → BlkOk loc fm lk w i b
 alone : ∀ i b, lk i = some b → Alone loc fm lk i b
 fm : FmOk fm w
structure Base where
 W : World
 lim : Nat
 loc0 : Loc
 fm0 : Fm
 own : Nat → Prop
 defs : List Deferred := []
structure Fr (B : Base) (w : World) : Prop where
 os : w.os = B.W.os
 tape : w.tape = B.W.tape
 output : w.output = B.W.output
 size : B.W.heap.size ≤ w.heap.size
 block : ∀ k, k < B.W.heap.size → ¬ B.own k → w.heap[k]? = B.W.heap[k]?
def gspot (g : Nat) : Blk → Spot
 | .cells _ _ ps => ⟨g, baseL ps, stL ps, cntL ps, 0, true⟩
 | _ => ⟨g, fun _ => 0, fun _ => 0, fun _ => 0, 0, true⟩
structure RelL (gl : List Blk) (B : Base) (loc : Loc) (fm : Fm) (n : Nat) (tm : Nat → A) (lk : Lk) (a : Act) (w : World) : Prop where
 fix : ∀ i, i < B.lim → loc i = B.loc0 i ∧ (lk i).isSome = true
 glob : ∀ g b, gl[g]? = some b → loc g = gspot g b ∧ lk g = some b
 size : a.tmps.size = n
 tmps : ∀ t, t < n → VR loc fm lk (tm t) (a.tmps.getD t Go.undef)
 far : ∀ t, n ≤ t → tm t = .any
 defers : a.defers = B.defs
 heap : HRel loc fm lk w
 new : ∀ i b, lk i = some b → b.mine = true → (loc i).real = true → B.own (loc i).blk ∨ B.W.heap.size ≤ (loc i).blk
 frz : ∀ b l, fm b = some l → B.fm0 b = some l ∨ B.own b ∨ B.W.heap.size ≤ b
 fm : ∀ b l, B.fm0 b = some l → fm b = some l
 fr : Fr B w
def setT (tm : Nat → A) (dst : Option Tmp) (v : A) : Nat → A := fun t =>
 match dst with
 | some d => if t = d then v else tm t
 | none => tm t
def updL (lk : Lk) : List (Nat × Blk) → Lk
 | [] => lk
 | (i, b) :: r => updL (fun j => if j = i then some b else lk j) r
end
section
theorem VR_any {loc : Loc} {fm : Fm} {lk : Lk} (v : Value) : VR loc fm lk .any v := rfl
section
variable {loc loc' : Loc} {fm fm' : Fm} {lk lk' : Lk}
theorem PcOk.mono (h : Le loc loc' fm fm' lk lk') : ∀ (p : Pc) (cs : List Value), PcOk loc fm lk p cs → PcOk loc' fm' lk' p cs
 | .one _, _, hv => ⟨VC.mono h _ _ hv.1, hv.2⟩
 | .row .., _, hv => hv
 | .lst .., _, hv => ⟨Els.mono h.fm _ _ hv.1, hv.2⟩
 | .ones _, _, hv => ⟨VCs.mono h _ _ hv.1, hv.2⟩
theorem PcsOk.mono (h : Le loc loc' fm fm' lk lk') : ∀ (ps : List Pc) (cs : List Value), PcsOk loc fm lk ps cs → PcsOk loc' fm' lk' ps cs
 | [], _, hv => hv
 | p :: r, _, ⟨c1, c2, h1, h2, h3⟩ => ⟨c1, c2, h1, PcOk.mono h p _ h2, PcsOk.mono h r _ h3⟩
theorem RestOk.mono (h : ∀ b l, fm b = some l → fm' b = some l) : ∀ (ps : List Pc) (cs : List Value), RestOk fm ps cs → RestOk fm' ps cs
 | [], _, _ => trivial
 | [.one _], _, _ => trivial
 | [.row ..], _, hv => hv
 | [.lst ..], _, ⟨ys, h1⟩ => ⟨ys, Els.mono h _ _ h1⟩
 | [.ones _], _, _ => trivial
 | p :: _ :: _, _, _ => by cases p <;> trivial
theorem VC.len1 (x : A) (cs : List Value) (h : VC loc fm lk x cs) (hx : aggA x = false) : cs.length = 1 := by
 cases x with
 | any => exact h
 | undef => rw [show cs = _ from h]; rfl
 | bool l b => rw [show cs = _ from h]; rfl
 | int l k m => rw [show cs = _ from h.1]; rfl
 | str l s => rw [show cs = _ from h.1]; rfl
 | val v => rw [show cs = _ from h]; rfl
 | ptr id s i l j => rw [show cs = _ from h.1]; rfl
 | slc l id s off len cap => obtain ⟨a, c, h1, _⟩ := h; rw [h1]; rfl
 | vec id => obtain ⟨a, c, h1, _⟩ := h; rw [h1]; rfl
 | fzi l k xs => obtain ⟨v, h1, _⟩ := h; rw [h1]; rfl
 | fz c xs => obtain ⟨v, l, h1, _⟩ := h; rw [h1]; rfl
 | fpt a => obtain ⟨b, o, l, m, h1, _⟩ := h; rw [h1]; rfl
 | map id => rw [show cs = _ from h.1]; rfl
 | fn f p q => obtain ⟨us, vs, h1, _⟩ := h; rw [h1]; rfl
 | ifc t v => obtain ⟨u, h1, _⟩ := h; rw [h1]; rfl
 | agg l => cases hx
 | arr lc k m xs => cases hx
 | arrc c m xs => cases hx
 | tup l => obtain ⟨vs, h1, _⟩ := h; rw [h1]; rfl
theorem Els.length {c : Cd} : ∀ (xs : List c.T) (cs : List Value), Els fm c xs cs → cs.length = xs.length * c.w
 | [], _, hv => by rw [hv]; simp
 | _ :: r, _, ⟨c1, c2, h1, _, h3, h4⟩ => by
  rw [h1, List.length_append, h3, Els.length r _ h4, List.length_cons, Nat.add_mul, Nat.one_mul, Nat.add_comm]
theorem VCs.len1 : ∀ (l : List A) (cs : List Value), VCs loc fm lk l cs → (∀ a ∈ l, aggA a = false) → cs.length = l.length
 | [], _, h, _ => by rw [show _ = [] from h]; rfl
 | a :: l, _, ⟨c1, c2, h1, h2, h3⟩, ha => by
  rw [h1, List.length_append, VC.len1 a c1 h2 (ha a (List.mem_cons_self ..)), VCs.len1 l c2 h3 (fun b hb => ha b (List.mem_cons_of_mem _ hb)), List.length_cons, Nat.add_comm]
theorem PcOk.length : ∀ (p : Pc) (cs : List Value), PcOk loc fm lk p cs → cs.length = wP p
 | .one _, _, hv => VC.len1 _ _ hv.1 hv.2
 | .row .., _, hv => by rw [hv.1, iv_length, hv.2.1]; rfl
 | .lst .., _, hv => by rw [Els.length _ _ hv.1, hv.2]; rfl
 | .ones _, _, hv => VCs.len1 _ _ hv.1 hv.2
theorem PcsOk.length : ∀ (ps : List Pc) (cs : List Value), PcsOk loc fm lk ps cs → cs.length = wPs ps
 | [], _, hv => by rw [hv]; rfl
 | p :: r, _, ⟨c1, c2, h1, h2, h3⟩ => by rw [h1, List.length_append, PcOk.length p _ h2, PcsOk.length r _ h3]; rfl
theorem VE.mono {fm fm' : Fm} (h : ∀ b l, fm b = some l → fm' b = some l) {c : Cd} {x : c.T} {v : Value} (hv : VE fm c x v) : VE fm' c x v := by
 revert hv
 unfold VE
 cases c.agg with
 | true => exact fun ⟨cs, e1, e2, e3⟩ => ⟨cs, e1, VDs.mono h _ _ e2, e3⟩
 | false => exact fun e => VDs.mono h _ _ e
theorem MapOk.mono (h : ∀ b l, fm b = some l → fm' b = some l) {c : Cd} {M : Int → Option c.T} {es : List MapEntry} (hm : MapOk fm c M es) : MapOk fm' c M es :=
 ⟨fun e he => by
  obtain ⟨n, x, h1, h2, h3⟩ := hm.has e he
  exact ⟨n, x, h1, h2, h3.mono h⟩, hm.all, hm.once⟩
theorem LMap.mono (h : Le loc loc' fm fm' lk lk') : ∀ (l : List (Int × A)) (es : List MapEntry), LMap loc fm lk l es → LMap loc' fm' lk' l es
 | [], _, hv => hv
 | _ :: l, _, ⟨e, es', h1, h2, h3, h4⟩ => ⟨e, es', h1, h2, VR.mono h _ _ h3, LMap.mono h l _ h4⟩
theorem BlkOk.mono {w w' : World} (h : Le loc loc' fm fm' lk lk') {i : Nat} {b : Blk} (hi : loc' i = loc i) (hw : b.live = true → (loc i).real = true → w'.heap[(loc i).blk]? = w.heap[(loc i).blk]?) (hb : BlkOk loc fm lk w i b) : BlkOk loc' fm' lk' w' i b := by
 cases b with
 | cells own t ps =>
  obtain ⟨cs, h1, h2, h3⟩ := hb
  refine ⟨cs, PcsOk.mono h _ _ h1, by rw [hi]; exact h2, ?_⟩
  rw [hi]
  cases hr : (loc i).real with
  | true =>
   rw [hr] at h3
   obtain ⟨rest, fz, e1, e2⟩ := h3
   exact ⟨rest, fz, by rw [hw rfl hr]; exact e1, fun ho => ⟨RestOk.mono h.fm _ _ (e2.1 ho).1, (e2.1 ho).2⟩, fun ho => h.fm _ _ (e2.2 ho)⟩
  | false =>
   rw [hr] at h3
   exact h3
 | imap c M =>
  obtain ⟨h1, es, clock, h2, h3⟩ := hb
  exact ⟨by rw [hi]; exact h1, es, clock, by rw [hi, hw rfl h1]; exact h2, h3.mono h.fm⟩
 | lmap l =>
  obtain ⟨h1, h0, es, clock, h2, h3⟩ := hb
  exact ⟨by rw [hi]; exact h1, h0, es, clock, by rw [hi, hw rfl h1]; exact h2, LMap.mono h _ _ h3⟩
 | dead => trivial
theorem BlkOk.lt {w : World} {i : Nat} {b : Blk} (hl : b.live = true) (hr : (loc i).real = true) (hb : BlkOk loc fm lk w i b) : (loc i).blk < w.heap.size := by
 cases b with
 | cells own t ps =>
  obtain ⟨cs, _, _, h3⟩ := hb
  rw [hr] at h3
  obtain ⟨rest, fz, e1, _⟩ := h3
  exact (Array.getElem?_eq_some_iff.1 e1).1
 | imap c M =>
  obtain ⟨_, es, clock, h2, _⟩ := hb
  exact (Array.getElem?_eq_some_iff.1 h2).1
 | lmap l =>
  obtain ⟨_, _, es, clock, h2, _⟩ := hb
  exact (Array.getElem?_eq_some_iff.1 h2).1
 | dead => cases hl
theorem Blk.live_of_mine {b : Blk} (h : b.mine = true) : b.live = true := by
 cases b with
 | cells own t ps => rfl
 | imap c M => rfl
 | lmap l => rfl
 | dead => cases h
end
section
variable {gl : List Blk} {n : Nat} {w w' : World} {B : Base} {loc loc' : Loc} {fm fm' : Fm} {tm : Nat → A} {lk lk' : Lk} {a : Act}
theorem RelL.val (h : RelL gl B loc fm n tm lk a w) (dst : Option Tmp) (hd : ∀ d, dst = some d → d < n) {v : A} {x : Value} (hv : VR loc fm lk v x) :
  RelL gl B loc fm n (setT tm dst v) lk (a.put dst x) w := by
 refine ⟨h.fix, h.glob, ?_, ?_, ?_, ?_, h.heap, h.new, h.frz, h.fm, h.fr⟩
 ·cases dst <;> simp [Act.put, h.size]
 ·intro t ht
  cases dst with
  | none => exact h.tmps t ht
  | some d =>
   simp only [setT, Act.put]
   by_cases hd : t = d
   ·subst hd
    have : t < a.tmps.size := by rw [h.size]; exact ht
    rw [if_pos rfl]
    simpa [this] using hv
   ·rw [if_neg hd]
    have := h.tmps t ht
    simpa [Array.getElem?_setIfInBounds_ne (Ne.symm hd)] using this
 ·intro t ht
  cases dst with
  | none => exact h.far t ht
  | some d =>
   simp only [setT]
   have hne : t ≠ d := fun e => absurd (hd d rfl) (Nat.not_lt.2 (e ▸ ht))
   rw [if_neg hne]
   exact h.far t ht
 ·cases dst <;> exact h.defers
theorem RelL.getVR (h : RelL gl B loc fm n tm lk a w) (t : Nat) : VR loc fm lk (tm t) (a.tmps.getD t Go.undef) := by
 rcases Nat.lt_or_ge t n with ht | ht
 ·exact h.tmps t ht
 ·rw [h.far t ht]; exact VR_any _
theorem RelL.step (h : RelL gl B loc fm n tm lk a w) (hle : Le loc loc' fm fm' lk lk') (hg : ∀ g b, gl[g]? = some b → lk' g = some b) (hh : HRel loc' fm' lk' w')
  (hn : ∀ i b, lk' i = some b → b.mine = true → (loc' i).real = true → B.own (loc' i).blk ∨ B.W.heap.size ≤ (loc' i).blk) (hf : Fr B w') (hz : ∀ b l, fm' b = some l → fm b = some l ∨ B.own b ∨ B.W.heap.size ≤ b := by exact fun _ _ h => Or.inl h) : RelL gl B loc' fm' n tm lk' a w' := by
 refine ⟨fun i hi => ?_, fun g b hgb => ?_, h.size, fun t ht => VR.mono hle _ _ (h.tmps t ht), h.far, h.defers, hh, hn, fun b l hb => (hz b l hb).elim (fun q => h.frz b l q) Or.inr, fun b l hb => hle.fm _ _ (h.fm _ _ hb), hf⟩
 ·obtain ⟨e1, e2⟩ := h.fix i hi
  obtain ⟨e3, e4⟩ := hle.ids i e2
  exact ⟨e3.trans e1, e4⟩
 ·obtain ⟨e1, e2⟩ := h.glob g b hgb
  obtain ⟨e3, e4⟩ := hle.ids g (by rw [e2]; rfl)
  exact ⟨e3.trans e1, hg g b hgb⟩
theorem Fr.other (h : Fr B w) (hh : w'.heap = w.heap) (ho : w'.os = w.os) (ht : w'.tape = w.tape) (hp : w'.output = w.output) : Fr B w' :=
 ⟨ho.trans h.os, ht.trans h.tape, hp.trans h.output, by rw [hh]; exact h.size, fun k hk hq => by rw [hh]; exact h.block k hk hq⟩
theorem HRel.other (h : HRel loc fm lk w) (hh : w'.heap = w.heap) : HRel loc fm lk w' :=
 ⟨fun i b hb => BlkOk.mono Le.refl rfl (fun _ _ => by rw [hh]) (h.ok i b hb), h.alone, fun b l hb => by rw [hh]; exact h.fm b l hb⟩
theorem RelL.other (h : RelL gl B loc fm n tm lk a w) (hh : w'.heap = w.heap) (ho : w'.os = w.os) (ht : w'.tape = w.tape) (hp : w'.output = w.output) : RelL gl B loc fm n tm lk a w' :=
 h.step Le.refl (fun g b hg => (h.glob g b hg).2) (h.heap.other hh) h.new (h.fr.other hh ho ht hp)
theorem fm_lt (h : FmOk fm w) {b : Nat} {l : List Value} (hb : fm b = some l) : b < w.heap.size := by
 obtain ⟨rest, t, fz, e⟩ := h b l hb
 exact (Array.getElem?_eq_some_iff.1 e).1
theorem alloc_size (w : World) (o : Obj) : (w.alloc o).heap.size = w.heap.size + 1 := by simp
theorem alloc_old (w : World) (o : Obj) {k : Nat} (hk : k < w.heap.size) : (w.alloc o).heap[k]? = w.heap[k]? := heap_alloc_old (h := hk) ..
theorem alloc_new (w : World) (o : Obj) : (w.alloc o).heap[w.heap.size]? = some o := heap_alloc_new w o
theorem Fr.alloc (h : Fr B w) (o : Obj) : Fr B (w.alloc o) :=
 ⟨h.os, h.tape, h.output, by rw [alloc_size]; have := h.size; omega, fun k hk hq => by
  rw [alloc_old _ _ (by have := h.size; omega)]
  exact h.block k hk hq⟩
theorem RelL.newB (h : RelL gl B loc fm n tm lk a w) {nid : Nat} (hn : lk nid = none) (b : Blk) (o : Obj) (q : Spot) (hq : q.blk = w.heap.size)
  (hb : ∀ loc' lk', Le loc loc' fm fm lk lk' → loc' nid = q → (lk' nid).isSome = true → BlkOk loc' fm lk' (w.alloc o) nid b) :
  ∃ loc', loc' nid = q ∧ (∀ i, i ≠ nid → loc' i = loc i) ∧
   RelL gl B loc' fm n tm (fun j => if j = nid then some b else lk j) a (w.alloc o) := by
 have hp : ∀ i, (lk i).isSome = true → i ≠ nid := fun i hi e => by rw [e, hn] at hi; cases hi
 have hle : Le loc (fun i => if i = nid then q else loc i) fm fm lk (fun j => if j = nid then some b else lk j) :=
  ⟨fun i hi => ⟨by simp [hp i hi], by simp [hp i hi, hi]⟩, fun _ _ h => h⟩
 refine ⟨fun i => if i = nid then q else loc i, by simp, fun i hi => by simp [hi], h.step hle (fun g c hg => ?_) ⟨fun i c hc => ?_, fun i c hc => ?_, fun d l hd => ?_⟩ (fun i c hc hm hr => ?_) (h.fr.alloc o)⟩
 ·have := (h.glob g c hg).2
  rw [if_neg (hp g (by rw [this]; rfl))]
  exact this
 ·by_cases hi : i = nid
  ·subst hi
   simp only [if_true, Option.some.injEq] at hc
   subst hc
   exact hb _ _ hle (by simp) (by simp)
  ·simp only [hi, if_false] at hc
   exact BlkOk.mono hle (by simp [hi]) (fun hd hr => alloc_old _ _ (BlkOk.lt hd hr (h.heap.ok i c hc))) (h.heap.ok i c hc)
 ·intro hm hr
  by_cases hi : i = nid
  ·subst hi
   simp only [if_true] at hr ⊢
   refine ⟨?_, fun i' b' hne hb' hl hr' => ?_⟩
   ·cases hf : fm q.blk with
    | none => rfl
    | some l => have := fm_lt h.heap.fm hf; omega
   ·simp only [hne, if_false] at hb' hr' ⊢
    have := BlkOk.lt hl hr' (h.heap.ok i' b' hb')
    omega
  ·simp only [hi, if_false] at hc hr ⊢
   obtain ⟨a1, a2⟩ := h.heap.alone i c hc hm hr
   refine ⟨a1, fun i' b' hne hb' hl hr' => ?_⟩
   by_cases hi' : i' = nid
   ·subst hi'
    simp only [if_true]
    have := BlkOk.lt (Blk.live_of_mine hm) hr (h.heap.ok i c hc)
    omega
   ·simp only [hi', if_false] at hb' hr' ⊢
    exact a2 i' b' hne hb' hl hr'
 ·obtain ⟨rest, t, fz, e⟩ := h.heap.fm d l hd
  exact ⟨rest, t, fz, by rw [alloc_old _ _ (fm_lt h.heap.fm hd)]; exact e⟩
 ·by_cases hi : i = nid
  ·subst hi
   simp only [if_true]
   right
   rw [hq]
   exact h.fr.size
  ·simp only [hi, if_false] at hc hr ⊢
   exact h.new i c hc hm hr
theorem RelL.new_cells (h : RelL gl B loc fm n tm lk a w) {nid : Nat} (hn : lk nid = none) (t : TypeId) (ps : List Pc) (cs rest : List Value) (hp : PcsOk loc fm lk ps cs) (hr : RestOk fm ps rest) :
  ∃ loc', loc' nid = (⟨w.heap.size, baseL ps, stL ps, cntL ps, (cs ++ rest).length, true⟩ : Spot) ∧ (∀ i, i ≠ nid → loc' i = loc i) ∧
   RelL gl B loc' fm n tm (fun j => if j = nid then some (.cells true t ps) else lk j) a (w.alloc (.cells (cs ++ rest).toArray t)) :=
 h.newB hn _ _ ⟨w.heap.size, baseL ps, stL ps, cntL ps, (cs ++ rest).length, true⟩ rfl (fun loc' lk' hle e _ => ⟨cs, PcsOk.mono hle _ _ hp, by rw [e]; exact ⟨rfl, rfl, rfl⟩, by
  rw [e]
  exact ⟨rest, (0, 0), alloc_new _ _, fun _ => ⟨RestOk.mono hle.fm _ _ hr, rfl, Or.inl rfl⟩, fun e => by cases e⟩⟩)
theorem setCells_size (b : Nat) : ∀ (vs : List Value) (o : Nat) (w : World), (w.setCells b o vs).heap.size = w.heap.size
 | [], _, _ => rfl
 | v :: r, o, w => by rw [World.setCells, setCells_size b r]; simp
theorem setCells_os (b : Nat) : ∀ (vs : List Value) (o : Nat) (w : World), (w.setCells b o vs).os = w.os
 | [], _, _ => rfl
 | v :: r, o, w => by rw [World.setCells, setCells_os b r]; rfl
theorem setCells_tape (b : Nat) : ∀ (vs : List Value) (o : Nat) (w : World), (w.setCells b o vs).tape = w.tape
 | [], _, _ => rfl
 | v :: r, o, w => by rw [World.setCells, setCells_tape b r]; rfl
theorem setCells_output (b : Nat) : ∀ (vs : List Value) (o : Nat) (w : World), (w.setCells b o vs).output = w.output
 | [], _, _ => rfl
 | v :: r, o, w => by rw [World.setCells, setCells_output b r]; rfl
theorem setCells_other (b k : Nat) (hk : k ≠ b) : ∀ (vs : List Value) (o : Nat) (w : World), (w.setCells b o vs).heap[k]? = w.heap[k]?
 | [], _, _ => rfl
 | v :: r, o, w => by rw [World.setCells, setCells_other b k hk r]; exact RowKit.Below.heap_setCell _ _ _ _ hk
def ovL (l : List Value) (o : Nat) (vs : List Value) : List Value := l.take o ++ vs ++ l.drop (o + vs.length)
theorem ovL_length (l : List Value) (o : Nat) (vs : List Value) (h : o + vs.length ≤ l.length) : (ovL l o vs).length = l.length := by
 simp [ovL]; omega
theorem ovL_append (l r : List Value) (o : Nat) (vs : List Value) (h : o + vs.length ≤ l.length) : ovL (l ++ r) o vs = ovL l o vs ++ r := by
 unfold ovL
 rw [List.take_append_of_le_length (by omega), List.drop_append_of_le_length (by omega)]
 simp
theorem setCells_heap (b : Nat) (t : TypeId) (fz : Nat × Nat) : ∀ (vs : List Value) (o : Nat) (w : World) (l : List Value), w.heap[b]? = some (.cells l.toArray t fz) → o + vs.length ≤ l.length →
  (w.setCells b o vs).heap[b]? = some (.cells (ovL l o vs).toArray t fz)
 | [], o, w, l, h, _ => by
  rw [World.setCells, h]
  simp [ovL]
 | v :: r, o, w, l, h, hl => by
  rw [World.setCells]
  simp only [List.length_cons] at hl
  rw [setCells_heap b t fz r (o + 1) (w.setCell ⟨b, o, none⟩ v) (l.set o v) (by
   simp only [World.setCell, Array.getElem?_modify, if_true, h, Option.map_some]
   simp) (by rw [List.length_set]; omega)]
  congr 3
  unfold ovL
  rw [List.take_set, List.take_add_one, List.drop_set]
  have ho : o < l.length := by omega
  simp only [List.getElem?_eq_getElem ho, Option.toList_some]
  rw [List.set_append_right _ _ (by simp; omega)]
  simp only [List.length_take, Nat.min_eq_left (Nat.le_of_lt ho), Nat.sub_self, List.set_cons_zero, if_pos (show o < o + 1 + r.length by omega)]
  simp [List.append_assoc, Nat.add_assoc, Nat.add_comm 1]
theorem Le.upd {i : Nat} {b b' : Blk} (_ : lk i = some b) : Le loc loc fm fm lk (fun j => if j = i then some b' else lk j) :=
 ⟨fun j hj => ⟨rfl, by by_cases e : j = i <;> simp [e, hj]⟩, fun _ _ h => h⟩
theorem upd_glob (h : RelL gl B loc fm n tm lk a w) {i : Nat} {b' : Blk} (hi : gl.length ≤ i) : ∀ g b, gl[g]? = some b → (fun j => if j = i then some b' else lk j) g = some b := fun g b hg => by
 have hlt := (List.getElem?_eq_some_iff.1 hg).1
 show (if g = i then some b' else lk g) = some b
 rw [if_neg (by omega)]
 exact (h.glob g b hg).2
theorem RelL.write (h : RelL gl B loc fm n tm lk a w) {i : Nat} {t : TypeId} {ps ps' : List Pc} (hi : lk i = some (.cells true t ps)) (hg : gl.length ≤ i) (hr : (loc i).real = true) (o : Nat) (vs : List Value)
  (hc : ∀ cs, PcsOk loc fm lk ps cs → o + vs.length ≤ cs.length ∧ PcsOk loc fm lk ps' (ovL cs o vs)) (hl : Lies ps (loc i) → Lies ps' (loc i)) (hre : ∀ rest, RestOk fm ps rest → RestOk fm ps' rest) (hlb : lstB ps' = lstB ps) :
  RelL gl B loc fm n tm (fun j => if j = i then some (.cells true t ps') else lk j) a (w.setCells (loc i).blk o vs) := by
 have hb := h.heap.ok i _ hi
 obtain ⟨cs, h1, h2, h3⟩ := hb
 rw [hr] at h3
 obtain ⟨rest, fz, e1, e2⟩ := h3
 obtain ⟨c1, c2⟩ := hc cs h1
 have e2' := e2.1 rfl
 obtain ⟨ha1, ha2⟩ := h.heap.alone i _ hi rfl hr
 have hle : Le loc loc fm fm lk (fun j => if j = i then some (.cells true t ps') else lk j) := Le.upd hi
 have hw := setCells_heap (loc i).blk t fz vs o w (cs ++ rest) e1 (by rw [List.length_append]; omega)
 rw [ovL_append _ _ _ _ c1] at hw
 refine h.step hle (upd_glob h hg) ⟨fun j b hj => ?_, fun j b hj => ?_, fun d l hd => ?_⟩ (fun j b hj hm hrj => ?_) ⟨(setCells_os _ _ _ _).trans h.fr.os, (setCells_tape _ _ _ _).trans h.fr.tape, (setCells_output _ _ _ _).trans h.fr.output, by rw [setCells_size]; exact h.fr.size, fun k hk hq => ?_⟩
 ·by_cases hji : j = i
  ·subst hji
   simp only [if_true, Option.some.injEq] at hj
   subst hj
   refine ⟨_, PcsOk.mono hle _ _ c2, hl h2, ?_⟩
   rw [hr]
   exact ⟨rest, fz, hw, fun _ => ⟨hre _ e2'.1, by rw [e2'.2.1]; simp [ovL_length _ _ _ c1], by
    have := e2'.2.2
    rw [List.length_append] at this ⊢
    rw [ovL_length _ _ _ c1, hlb]
    exact this⟩, fun e => by cases e⟩
  ·simp only [hji, if_false] at hj
   exact BlkOk.mono hle rfl (fun hlv hrj => setCells_other _ _ (ha2 j b hji hj hlv hrj) _ _ _) (h.heap.ok j b hj)
 ·intro hm hrj
  by_cases hji : j = i
  ·subst hji
   refine ⟨ha1, fun i' b' hne hb' hlv hr' => ?_⟩
   simp only [hne, if_false] at hb'
   exact ha2 i' b' hne hb' hlv hr'
  ·simp only [hji, if_false] at hj
   obtain ⟨b1, b2⟩ := h.heap.alone j b hj hm hrj
   refine ⟨b1, fun i' b' hne hb' hlv hr' => ?_⟩
   by_cases hi' : i' = i
   ·subst hi'
    exact b2 i' _ hne hi rfl hr'
   ·simp only [hi', if_false] at hb'
    exact b2 i' b' hne hb' hlv hr'
 ·obtain ⟨rest', t', fz', e⟩ := h.heap.fm d l hd
  refine ⟨rest', t', fz', ?_⟩
  rw [setCells_other _ _ (fun e' => by rw [e', ha1] at hd; cases hd)]
  exact e
 ·by_cases hji : j = i
  ·subst hji; exact h.new j _ hi rfl hrj
  ·simp only [hji, if_false] at hj
   exact h.new j b hj hm hrj
 ·rw [setCells_other _ _ (fun e => ?_)]
  ·exact h.fr.block k hk hq
  ·rcases h.new i _ hi rfl hr with ho | ho
   ·exact hq (e ▸ ho)
   ·omega
theorem RelL.kill (h : RelL gl B loc fm n tm lk a w) {i : Nat} {b : Blk} (hi : lk i = some b) (hg : gl.length ≤ i) : RelL gl B loc fm n tm (fun j => if j = i then some .dead else lk j) a w := by
 have hle : Le loc loc fm fm lk (fun j => if j = i then some Blk.dead else lk j) := Le.upd hi
 refine h.step hle (upd_glob h hg) ⟨fun j c hj => ?_, fun j c hj => ?_, h.heap.fm⟩ (fun j c hj hm hrj => ?_) h.fr
 ·by_cases hji : j = i
  ·simp only [hji, if_true, Option.some.injEq] at hj
   subst hj
   trivial
  ·simp only [hji, if_false] at hj
   exact BlkOk.mono hle rfl (fun _ _ => rfl) (h.heap.ok j c hj)
 ·intro hm hrj
  by_cases hji : j = i
  ·simp only [hji, if_true, Option.some.injEq] at hj
   subst hj
   cases hm
  ·simp only [hji, if_false] at hj
   obtain ⟨b1, b2⟩ := h.heap.alone j c hj hm hrj
   refine ⟨b1, fun i' b' hne hb' hlv hr' => ?_⟩
   by_cases hi' : i' = i
   ·simp only [hi', if_true, Option.some.injEq] at hb'
    subst hb'
    cases hlv
   ·simp only [hi', if_false] at hb'
    exact b2 i' b' hne hb' hlv hr'
 ·by_cases hji : j = i
  ·simp only [hji, if_true, Option.some.injEq] at hj
   subst hj
   cases hm
  ·simp only [hji, if_false] at hj
   exact h.new j c hj hm hrj
theorem RelL.freeze (h : RelL gl B loc fm n tm lk a w) {i : Nat} {t : TypeId} {ps : List Pc} (hi : lk i = some (.cells true t ps)) (hg : gl.length ≤ i) :
  ∃ fm', (∀ b l, fm b = some l → fm' b = some l) ∧ ((loc i).real = true → ∃ cs rest, PcsOk loc fm lk ps cs ∧ fm' (loc i).blk = some (cs ++ rest)) ∧
   RelL gl B loc fm' n tm (fun j => if j = i then some (.cells false t ps) else lk j) a w := by
 have hb := h.heap.ok i _ hi
 obtain ⟨cs, h1, h2, h3⟩ := hb
 cases hr : (loc i).real with
 | false =>
  rw [hr] at h3
  have hle : Le loc loc fm fm lk (fun j => if j = i then some (Blk.cells false t ps) else lk j) := Le.upd hi
  refine ⟨fm, fun _ _ h => h, fun e => (by cases e), h.step hle (upd_glob h hg) ⟨fun j c hj => ?_, fun j c hj => ?_, h.heap.fm⟩ (fun j c hj hm hrj => ?_) h.fr⟩
  ·by_cases hji : j = i
   ·subst hji
    simp only [if_true, Option.some.injEq] at hj
    subst hj
    refine ⟨cs, PcsOk.mono hle _ _ h1, h2, ?_⟩
    rw [hr]
    exact h3
   ·simp only [hji, if_false] at hj
    exact BlkOk.mono hle rfl (fun _ _ => rfl) (h.heap.ok j c hj)
  ·intro hm hrj
   by_cases hji : j = i
   ·simp only [hji, if_true, Option.some.injEq] at hj
    subst hj
    cases hm
   ·simp only [hji, if_false] at hj
    obtain ⟨b1, b2⟩ := h.heap.alone j c hj hm hrj
    refine ⟨b1, fun i' b' hne hb' hlv hr' => ?_⟩
    by_cases hi' : i' = i
    ·subst hi'; rw [hr] at hr'; cases hr'
    ·simp only [hi', if_false] at hb'
     exact b2 i' b' hne hb' hlv hr'
  ·by_cases hji : j = i
   ·simp only [hji, if_true, Option.some.injEq] at hj
    subst hj
    cases hm
   ·simp only [hji, if_false] at hj
    exact h.new j c hj hm hrj
 | true =>
  rw [hr] at h3
  obtain ⟨rest, fz, e1, e2⟩ := h3
  obtain ⟨ha1, ha2⟩ := h.heap.alone i _ hi rfl hr
  have hfm : ∀ b l, fm b = some l → (fun b => if b = (loc i).blk then some (cs ++ rest) else fm b) b = some l := fun b l hb => by
   show (if b = (loc i).blk then _ else _) = _
   rw [if_neg (fun e => by rw [e, ha1] at hb; cases hb)]
   exact hb
  have hle : Le loc loc fm (fun b => if b = (loc i).blk then some (cs ++ rest) else fm b) lk (fun j => if j = i then some (Blk.cells false t ps) else lk j) := ⟨(Le.upd (fm := fm) hi).ids, hfm⟩
  refine ⟨_, hfm, fun _ => ⟨cs, rest, h1, by simp⟩, h.step hle (upd_glob h hg) ⟨fun j c hj => ?_, fun j c hj => ?_, fun d l hd => ?_⟩ (fun j c hj hm hrj => ?_) h.fr (fun b l hb => ?_)⟩
  ·by_cases hji : j = i
   ·subst hji
    simp only [if_true, Option.some.injEq] at hj
    subst hj
    refine ⟨cs, PcsOk.mono hle _ _ h1, h2, ?_⟩
    rw [hr]
    exact ⟨rest, fz, e1, fun e => (by cases e), fun _ => by simp⟩
   ·simp only [hji, if_false] at hj
    exact BlkOk.mono hle rfl (fun _ _ => rfl) (h.heap.ok j c hj)
  ·intro hm hrj
   by_cases hji : j = i
   ·simp only [hji, if_true, Option.some.injEq] at hj
    subst hj
    cases hm
   ·simp only [hji, if_false] at hj
    obtain ⟨b1, b2⟩ := h.heap.alone j c hj hm hrj
    refine ⟨?_, fun i' b' hne hb' hlv hr' => ?_⟩
    ·show (if (loc j).blk = (loc i).blk then _ else _) = _
     rw [if_neg (ha2 j c hji hj (Blk.live_of_mine hm) hrj)]
     exact b1
    ·by_cases hi' : i' = i
     ·subst hi'
      exact b2 i' _ hne hi rfl hr'
     ·simp only [hi', if_false] at hb'
      exact b2 i' b' hne hb' hlv hr'
  ·by_cases hd' : d = (loc i).blk
   ·simp only [hd', if_true, Option.some.injEq] at hd
    subst hd
    exact ⟨[], t, fz, by rw [hd', List.append_nil]; exact e1⟩
   ·simp only [hd', if_false] at hd
    exact h.heap.fm d l hd
  ·by_cases hji : j = i
   ·simp only [hji, if_true, Option.some.injEq] at hj
    subst hj
    cases hm
   ·simp only [hji, if_false] at hj
    exact h.new j c hj hm hrj
  ·by_cases hd' : b = (loc i).blk
   ·exact Or.inr (hd' ▸ h.new i _ hi rfl hr)
   ·simp only [hd', if_false] at hb
    exact Or.inl hb
theorem RelL.fill (h : RelL gl B loc fm n tm lk a w) {i nid : Nat} {t : TypeId} {ps ps' : List Pc} (hi : lk i = some (.cells true t ps)) (hg : gl.length ≤ i) (hn : lk nid = none) (vs : List Value)
  (hroom : vs = [] ∨ ((loc i).real = true ∧ wPs ps + vs.length ≤ (loc i).room)) (hc : ∀ cs, PcsOk loc fm lk ps cs → PcsOk loc fm lk ps' (cs ++ vs)) (hre : ∀ rest, RestOk fm ps rest → RestOk fm ps' (rest.drop vs.length)) (hlb : lstB ps' = lstB ps) :
  ∃ loc', loc' nid = (⟨(loc i).blk, baseL ps', stL ps', cntL ps', (loc i).room, (loc i).real⟩ : Spot) ∧ (∀ j, j ≠ nid → loc' j = loc j) ∧
   RelL gl B loc' fm n tm (updL lk [(nid, .cells true t ps'), (i, .dead)]) a (w.setCells (loc i).blk (wPs ps) vs) := by
 have hni : i ≠ nid := fun e => by rw [e, hn] at hi; cases hi
 have hp : ∀ j, (lk j).isSome = true → j ≠ nid := fun j hj e => by rw [e, hn] at hj; cases hj
 have hlk : ∀ j, updL lk [(nid, .cells true t ps'), (i, .dead)] j = if j = i then some .dead else if j = nid then some (.cells true t ps') else lk j := fun j => rfl
 obtain ⟨cs, h1, h2, h3⟩ := h.heap.ok i _ hi
 have hlen := PcsOk.length _ _ h1
 have hle : Le loc (fun j => if j = nid then (⟨(loc i).blk, baseL ps', stL ps', cntL ps', (loc i).room, (loc i).real⟩ : Spot) else loc j) fm fm lk (updL lk [(nid, .cells true t ps'), (i, .dead)]) :=
  ⟨fun j hj => ⟨by simp [hp j hj], by rw [hlk, if_neg (hp j hj)]; split <;> first | rfl | exact hj⟩, fun _ _ h => h⟩
 have hlive : ∀ j b, j ≠ i → lk j = some b → b.live = true → (loc j).real = true → (loc i).real = true → (loc j).blk ≠ (loc i).blk := fun j b hj hb hl hr hr' => (h.heap.alone i _ hi rfl hr').2 j b hj hb hl hr
 have hheap : ∀ j b, j ≠ i → lk j = some b → b.live = true → (loc j).real = true → (w.setCells (loc i).blk (wPs ps) vs).heap[(loc j).blk]? = w.heap[(loc j).blk]? := fun j b hj hb hl hr => by
  rcases hroom with e | ⟨hr', _⟩
  ·subst e; rfl
  ·exact setCells_other _ _ (hlive j b hj hb hl hr hr') _ _ _
 refine ⟨_, by simp, fun j hj => by simp [hj], h.step hle (fun g b hgb => ?_) ⟨fun j c hj => ?_, fun j c hj => ?_, fun d l hd => ?_⟩ (fun j c hj hm hrj => ?_)
  ⟨(setCells_os _ _ _ _).trans h.fr.os, (setCells_tape _ _ _ _).trans h.fr.tape, (setCells_output _ _ _ _).trans h.fr.output, by rw [setCells_size]; exact h.fr.size, fun k hk hq => ?_⟩⟩
 ·have hlt := (List.getElem?_eq_some_iff.1 hgb).1
  have hs := (h.glob g b hgb).2
  rw [hlk, if_neg (by omega), if_neg (hp g (by rw [hs]; rfl))]
  exact hs
 ·rw [hlk] at hj
  by_cases hji : j = i
  ·rw [if_pos hji, Option.some.injEq] at hj
   subst hj
   trivial
  ·rw [if_neg hji] at hj
   by_cases hjn : j = nid
   ·rw [if_pos hjn, Option.some.injEq] at hj
    subst hj hjn
    refine ⟨cs ++ vs, PcsOk.mono hle _ _ (hc cs h1), by simp only [if_true]; exact ⟨rfl, rfl, rfl⟩, ?_⟩
    simp only [if_true]
    revert h3
    cases hr : (loc i).real with
    | false =>
     intro h3
     rcases hroom with e | ⟨hr', _⟩
     ·rw [e, h3]; rfl
     ·rw [hr] at hr'; cases hr'
    | true =>
     rintro ⟨rest, fz, e1, e2⟩
     obtain ⟨e2, e3, e4⟩ := e2.1 rfl
     have hv : vs.length ≤ rest.length := by
      rcases hroom with e | ⟨_, e⟩
      ·rw [e]; exact Nat.zero_le _
      ·rw [e3, List.length_append] at e; omega
     have hw := setCells_heap (loc i).blk t fz vs (wPs ps) w (cs ++ rest) e1 (by rw [List.length_append]; omega)
     have ho : ovL (cs ++ rest) (wPs ps) vs = cs ++ vs ++ rest.drop vs.length := by
      unfold ovL
      rw [← hlen, List.take_left, ← List.drop_drop, List.drop_left]
     rw [ho] at hw
     have hll : (cs ++ vs ++ rest.drop vs.length).length = (cs ++ rest).length := by simp; omega
     exact ⟨rest.drop vs.length, fz, hw, fun _ => ⟨hre _ e2, by rw [e3, hll], by rw [hll, hlb]; exact e4⟩, fun e => by cases e⟩
   ·rw [if_neg hjn] at hj
    exact BlkOk.mono hle (by simp [hjn]) (fun hl hr => hheap j c hji hj hl hr) (h.heap.ok j c hj)
 ·intro hm hrj
  rw [hlk] at hj
  by_cases hji : j = i
  ·rw [if_pos hji, Option.some.injEq] at hj
   subst hj
   cases hm
  ·rw [if_neg hji] at hj
   by_cases hjn : j = nid
   ·rw [if_pos hjn, Option.some.injEq] at hj
    subst hj hjn
    simp only [if_true] at hrj ⊢
    obtain ⟨b1, b2⟩ := h.heap.alone i _ hi rfl hrj
    refine ⟨b1, fun i' b' hne hb' hlv hr' => ?_⟩
    rw [hlk] at hb'
    by_cases hi' : i' = i
    ·rw [if_pos hi', Option.some.injEq] at hb'
     subst hb'
     cases hlv
    ·rw [if_neg hi', if_neg hne] at hb'
     simp only [hne, if_false] at hr' ⊢
     exact b2 i' b' hi' hb' hlv hr'
   ·rw [if_neg hjn] at hj
    simp only [hjn, if_false] at hrj ⊢
    obtain ⟨b1, b2⟩ := h.heap.alone j c hj hm hrj
    refine ⟨b1, fun i' b' hne hb' hlv hr' => ?_⟩
    rw [hlk] at hb'
    by_cases hi' : i' = i
    ·rw [if_pos hi', Option.some.injEq] at hb'
     subst hb'
     cases hlv
    ·rw [if_neg hi'] at hb'
     by_cases hin : i' = nid
     ·subst hin
      simp only [if_true] at hr' ⊢
      exact b2 i _ (Ne.symm hji) hi rfl hr'
     ·rw [if_neg hin] at hb'
      simp only [hin, if_false] at hr' ⊢
      exact b2 i' b' hne hb' hlv hr'
 ·obtain ⟨rest', t', fz', e⟩ := h.heap.fm d l hd
  refine ⟨rest', t', fz', ?_⟩
  rcases hroom with e' | ⟨hr', _⟩
  ·rw [e']; exact e
  ·rw [setCells_other _ _ (fun e' => by rw [e', (h.heap.alone i _ hi rfl hr').1] at hd; cases hd)]
   exact e
 ·rw [hlk] at hj
  by_cases hji : j = i
  ·rw [if_pos hji, Option.some.injEq] at hj
   subst hj
   cases hm
  ·rw [if_neg hji] at hj
   by_cases hjn : j = nid
   ·subst hjn
    simp only [if_true] at hrj ⊢
    exact h.new i _ hi rfl hrj
   ·rw [if_neg hjn] at hj
    simp only [hjn, if_false] at hrj ⊢
    exact h.new j c hj hm hrj
 ·rcases hroom with e' | ⟨hr', _⟩
  ·rw [e']; exact h.fr.block k hk hq
  ·rw [setCells_other _ _ (fun e => ?_)]
   ·exact h.fr.block k hk hq
   ·rcases h.new i _ hi rfl hr' with ho | ho
    ·exact hq (e ▸ ho)
    ·omega
theorem RelL.setMap (h : RelL gl B loc fm n tm lk a w) {i : Nat} {c : Cd} {M M' : Int → Option c.T} (hi : lk i = some (.imap c M)) (hg : gl.length ≤ i) (es : Array MapEntry) (clock : Nat) (hm : MapOk fm c M' es.toList) :
  RelL gl B loc fm n tm (fun j => if j = i then some (.imap c M') else lk j) a { w with heap := w.heap.setIfInBounds (loc i).blk (.map es clock) } := by
 obtain ⟨hr, es0, clock0, h2, h3⟩ := h.heap.ok i _ hi
 obtain ⟨ha1, ha2⟩ := h.heap.alone i _ hi rfl hr
 have hlt := (Array.getElem?_eq_some_iff.1 h2).1
 have hle : Le loc loc fm fm lk (fun j => if j = i then some (Blk.imap c M') else lk j) := Le.upd hi
 have ho : ∀ k, k ≠ (loc i).blk → ({ w with heap := w.heap.setIfInBounds (loc i).blk (.map es clock) } : World).heap[k]? = w.heap[k]? := fun k hk => by
  simp [Array.getElem?_setIfInBounds_ne (Ne.symm hk)]
 refine h.step hle (upd_glob h hg) ⟨fun j b hj => ?_, fun j b hj => ?_, fun d l hd => ?_⟩ (fun j b hj hmi hrj => ?_) ⟨h.fr.os, h.fr.tape, h.fr.output, by simpa using h.fr.size, fun k hk hq => ?_⟩
 ·by_cases hji : j = i
  ·subst hji
   simp only [if_true, Option.some.injEq] at hj
   subst hj
   exact ⟨hr, es, clock, by simp [hlt], hm⟩
  ·simp only [hji, if_false] at hj
   exact BlkOk.mono hle rfl (fun hlv hrj => ho _ (ha2 j b hji hj hlv hrj)) (h.heap.ok j b hj)
 ·intro hmi hrj
  by_cases hji : j = i
  ·subst hji
   refine ⟨ha1, fun i' b' hne hb' hlv hr' => ?_⟩
   simp only [hne, if_false] at hb'
   exact ha2 i' b' hne hb' hlv hr'
  ·simp only [hji, if_false] at hj
   obtain ⟨b1, b2⟩ := h.heap.alone j b hj hmi hrj
   refine ⟨b1, fun i' b' hne hb' hlv hr' => ?_⟩
   by_cases hi' : i' = i
   ·subst hi'
    exact b2 i' _ hne hi rfl hr'
   ·simp only [hi', if_false] at hb'
    exact b2 i' b' hne hb' hlv hr'
 ·obtain ⟨rest', t', fz', e⟩ := h.heap.fm d l hd
  exact ⟨rest', t', fz', by rw [ho _ (fun e' => by rw [e', ha1] at hd; cases hd)]; exact e⟩
 ·by_cases hji : j = i
  ·subst hji; exact h.new j _ hi rfl hrj
  ·simp only [hji, if_false] at hj
   exact h.new j b hj hmi hrj
 ·rw [ho _ (fun e => ?_)]
  ·exact h.fr.block k hk hq
  ·rcases h.new i _ hi rfl hr with hq' | hq'
   ·exact hq (e ▸ hq')
   ·omega
theorem RelL.setMapL (h : RelL gl B loc fm n tm lk a w) {i : Nat} {l l' : List (Int × A)} (hi : lk i = some (.lmap l)) (hg : gl.length ≤ i) (es : Array MapEntry) (clock : Nat) (hm : LMap loc fm lk l' es.toList) (hd : (l'.map (·.1)).Nodup) :
  RelL gl B loc fm n tm (fun j => if j = i then some (.lmap l') else lk j) a { w with heap := w.heap.setIfInBounds (loc i).blk (.map es clock) } := by
 obtain ⟨hr, _, es0, clock0, h2, h3⟩ := h.heap.ok i _ hi
 obtain ⟨ha1, ha2⟩ := h.heap.alone i _ hi rfl hr
 have hlt := (Array.getElem?_eq_some_iff.1 h2).1
 have hle : Le loc loc fm fm lk (fun j => if j = i then some (Blk.lmap l') else lk j) := Le.upd hi
 have ho : ∀ k, k ≠ (loc i).blk → ({ w with heap := w.heap.setIfInBounds (loc i).blk (.map es clock) } : World).heap[k]? = w.heap[k]? := fun k hk => by
  simp [Array.getElem?_setIfInBounds_ne (Ne.symm hk)]
 refine h.step hle (upd_glob h hg) ⟨fun j b hj => ?_, fun j b hj => ?_, fun d l hd => ?_⟩ (fun j b hj hmi hrj => ?_) ⟨h.fr.os, h.fr.tape, h.fr.output, by simpa using h.fr.size, fun k hk hq => ?_⟩
 ·by_cases hji : j = i
  ·subst hji
   simp only [if_true, Option.some.injEq] at hj
   subst hj
   exact ⟨hr, hd, es, clock, by simp [hlt], LMap.mono hle _ _ hm⟩
  ·simp only [hji, if_false] at hj
   exact BlkOk.mono hle rfl (fun hlv hrj => ho _ (ha2 j b hji hj hlv hrj)) (h.heap.ok j b hj)
 ·intro hmi hrj
  by_cases hji : j = i
  ·subst hji
   refine ⟨ha1, fun i' b' hne hb' hlv hr' => ?_⟩
   simp only [hne, if_false] at hb'
   exact ha2 i' b' hne hb' hlv hr'
  ·simp only [hji, if_false] at hj
   obtain ⟨b1, b2⟩ := h.heap.alone j b hj hmi hrj
   refine ⟨b1, fun i' b' hne hb' hlv hr' => ?_⟩
   by_cases hi' : i' = i
   ·subst hi'
    exact b2 i' _ hne hi rfl hr'
   ·simp only [hi', if_false] at hb'
    exact b2 i' b' hne hb' hlv hr'
 ·obtain ⟨rest', t', fz', e⟩ := h.heap.fm d l hd
  exact ⟨rest', t', fz', by rw [ho _ (fun e' => by rw [e', ha1] at hd; cases hd)]; exact e⟩
 ·by_cases hji : j = i
  ·subst hji; exact h.new j _ hi rfl hrj
  ·simp only [hji, if_false] at hj
   exact h.new j b hj hmi hrj
 ·rw [ho _ (fun e => ?_)]
  ·exact h.fr.block k hk hq
  ·rcases h.new i _ hi rfl hr with hq' | hq'
   ·exact hq (e ▸ hq')
   ·omega
end
end
section
def bsOf (s : ByteArray) : List Int := s.data.toList.map fun b => (b.toNat : Int)
def absV (v : Value) : A :=
 match v with
 | .bool b => .bool true b
 | .int k n => match decide (k.wrap n = n) with
  | true => .int true k n
  | false => .any
 | .string s => .str true (bsOf s)
 | .pointer none => .val (.pointer none)
 | .slice none 0 0 => .val (.slice none 0 0)
 | .map none => .val (.map none)
 | .nilFunc => .val .nilFunc
 | .nilIface => .val .nilIface
 | _ => .any
def ev (C : Ctx) (tm : Nat → A) : Operand → A
 | .tmp t => tm t
 | .const v => absV v
 | .global g => match Nat.ble (g + 1) C.gl.length with
  | true => .ptr g 0 0 true 0
  | false => .any
 | .func f => .fn f [] []
def ret (v : A) : Tr Eff := .leaf ⟨v, []⟩
def retO (v : Option A) : Tr Eff :=
 match v with
 | some v => ret v
 | none => .fail
def numT (l : Bool) (k : IntKind) (n : Int) : Tr Eff :=
 match l, k with
 | false, .i64 => .ob (IntKind.i64.wrap n = n) (ret (.int false .i64 n))
 | l, k => ret (.int l k (k.wrap n))
def arith (op : BinOp) (l : Bool) (k : IntKind) (x y : Int) : Tr Eff :=
 match op with
 | .add => numT l k (x + y)
 | .sub => numT l k (x - y)
 | .mul => numT l k (x * y)
 | .quo => match l with
  | true => gd (decide (y ≠ 0)) (ret (.int true k (k.wrap (x.tdiv y))))
  | false => .ob (y ≠ 0) (ret (.int false k (k.wrap (x.tdiv y))))
 | .rem => match l with
  | true => gd (decide (y ≠ 0)) (ret (.int true k (x.tmod y)))
  | false => .ob (y ≠ 0) (ret (.int false k (x.tmod y)))
 | .and => ret (.int l k (bits .and k x y))
 | .or => ret (.int l k (bits .or k x y))
 | .xor => ret (.int l k (bits .xor k x y))
 | .andNot => ret (.int l k (bits .andNot k x y))
 | .eql => ret (.bool l (x == y))
 | .neq => ret (.bool l (x != y))
 | .lss => ret (.bool l (decide (x < y)))
 | .leq => ret (.bool l (decide (x ≤ y)))
 | .gtr => ret (.bool l (decide (x > y)))
 | .geq => ret (.bool l (decide (x ≥ y)))
 | _ => .fail
def shiftT (op : BinOp) (l : Bool) (k : IntKind) (x y : Int) : Tr Eff :=
 match op, l with
 | .shl, true => gd (decide (0 ≤ y)) (ret (.int true k (k.wrap (x * 2 ^ min y.toNat k.bits))))
 | .shl, false => .ob (0 ≤ y) (ret (.int false k (k.wrap (x * 2 ^ min y.toNat k.bits))))
 | .shr, true => gd (decide (0 ≤ y)) (ret (.int true k (x.fdiv (2 ^ min y.toNat k.bits))))
 | .shr, false => .ob (0 ≤ y) (ret (.int false k (x.fdiv (2 ^ min y.toNat k.bits))))
 | _, _ => .fail
def isShift : BinOp → Bool
 | .shl => true
 | .shr => true
 | _ => false
def noNil : A → Bool
 | .ptr .. => true
 | .fpt _ => true
 | .map _ => true
 | .fn .. => true
 | .ifc .. => true
 | _ => false
def eqT (op : BinOp) (l b : Bool) : Tr Eff :=
 match op with
 | .eql => ret (.bool l b)
 | .neq => ret (.bool l (!b))
 | _ => .fail
def nilKind (d : TypeDesc) (v : Value) : Bool :=
 match d, v with
 | .pointer _, .pointer none => true
 | .map _ _, .map none => true
 | .func _ _ _, .nilFunc => true
 | .interface _, .nilIface => true
 | _, _ => false
def aKind (d : TypeDesc) (a : A) : Bool :=
 match d, a with
 | .pointer _, .ptr .. => true
 | .pointer _, .fpt _ => true
 | .map _ _, .map _ => true
 | .func _ _ _, .fn .. => true
 | .interface _, .ifc .. => true
 | _, _ => false
def isConstO : Operand → Bool
 | .const _ => true
 | _ => false
def binT (C : Ctx) (op : BinOp) (t : TypeId) (ox oy : Operand) (x y : A) : Tr Eff :=
 match x, y with
 | .int l k a, .int l' k' b => match isShift op with
  | true => shiftT op (l && l') k a b
  | false => gd (decide (k = k')) (arith op (l && l') k a b)
 | .bool l a, .bool l' b => match C.P.underlying t with
  | some .bool => eqT op (l && l') (a == b)
  | _ => .fail
 | .str l a, .str l' b => match op with
  | .eql => ret (.bool (l && l') (decide (a = b)))
  | .neq => ret (.bool (l && l') (!decide (a = b)))
  | .add => .ob (a.length + b.length < lim63) (ret (.str (l && l') (a ++ b)))
  | _ => .fail
 | .arr l k n a, .arr l' k' n' b => match C.P.underlying t with
  | some (.array m e) => gd (decide (intT C.P e = some k) && decide (k = k') && Nat.beq m n && Nat.beq m n' && decide (sizeT C.P e = some 1) && !(C.P.eqGuardType C.P.depth t)) (eqT op (l && l') (decide (a = b)))
  | _ => .fail
 | .val u, .val v => match C.P.underlying t with
  | some d => gd (nilKind d u && nilKind d v && (isConstO ox || isConstO oy)) (eqT op true true)
  | none => .fail
 | .val u, a => match C.P.underlying t with
  | some d => gd (nilKind d u && aKind d a) (eqT op true false)
  | none => .fail
 | a, .val u => match C.P.underlying t with
  | some d => gd (nilKind d u && aKind d a) (eqT op true false)
  | none => .fail
 | _, _ => .fail
def unT (op : UnOp) (x : A) : Tr Eff :=
 match op, x with
 | .not, .bool l b => ret (.bool l (!b))
 | .neg, .int l k n => numT l k (0 - n)
 | .xor, .int l k n => ret (.int l k (bits .xor k (if k.signed then -1 else k.max) n))
 | _, _ => .fail
def fieldOf (P : Program) (t : TypeId) (f : Nat) : Option Field :=
 match P.underlying t with
 | some (.struct fs) => fs[f]?
 | _ => none
def fieldT (C : Ctx) (lk : Lk) (t : TypeId) (x : A) (f : Nat) : Option A :=
 match fieldOf C.P t f with
 | some fd => match sizeT C.P fd.type with
  | some (m + 1) => match x with
   | .ptr id s i l j => match lk id with
    | some (.cells _ _ ps) => match ps.drop s with
     | .lst .. :: _ => some (.ptr id s i l (j + fd.offset))
     | r => match l && Nat.beq i 0 && Nat.beq j 0 with
      | true => match skipP fd.offset r with
       | some q => some (.ptr id (s + q) 0 true 0)
       | none => none
      | false => none
    | _ => none
   | .fpt a => match isAggT C.P fd.type with
    | some g => (partC g fd.offset (m + 1) (flatA a)).map .fpt
    | none => none
   | _ => none
  | _ => none
 | none => none
inductive Sq
 | nil
 | ints (ln lc : Bool) (k : IntKind) (xs : List Int)
 | els (ln : Bool) (c : Cd) (xs : List c.T)
def subL {α : Type} (l : Bool) (off len n : Nat) (xs : List α) : List α :=
 match l && Nat.beq off 0 && Nat.beq len n with
 | true => xs
 | false => (xs.drop off).take len
def sqOf (lk : Lk) : A → Option Sq
 | .val (.slice none 0 0) => some .nil
 | .fzi l k xs => some (.ints l false k xs)
 | .fz c xs => some (.els false c xs)
 | .vec id => match lk id with
  | some (.cells _ _ [.row ln lc k _ xs]) => some (.ints ln lc k xs)
  | some (.cells _ _ [.lst ln c _ xs]) => some (.els ln c xs)
  | _ => none
 | .slc l id s off len _ => match lk id with
  | some (.cells _ _ ps) => match ps[s]? with
   | some (.row ln lc k n xs) => some (.ints l lc k (subL (l && ln) off len n xs))
   | some (.lst ln c n xs) => some (.els l c (subL (l && ln) off len n xs))
   | _ => none
  | _ => none
 | _ => none
def lenA (lk : Lk) : A → Option (Bool × Nat)
 | .val (.slice none 0 0) => some (true, 0)
 | .fzi l _ xs => some (l, xs.length)
 | .fz _ xs => some (false, xs.length)
 | .vec id => match lk id with
  | some (.cells _ _ [.row ln _ _ n _]) => some (ln, n)
  | some (.cells _ _ [.lst ln _ n _]) => some (ln, n)
  | some (.cells _ _ [.ones q]) => some (true, q.length)
  | _ => none
 | .slc l _ _ _ len _ => some (l, len)
 | _ => none
def allOne : List Pc → Bool
 | [] => true
 | .one _ :: r => allOne r
 | _ :: _ => false
def indexT (C : Ctx) (lk : Lk) (t : TypeId) (x i : A) : Tr Eff :=
 match i with
 | .int li _ j => match C.P.underlying t with
  | some (.array n e) => match x, sizeT C.P e with
   | .ptr id s i0 l j0, some m => match lk id with
    | some (.cells _ _ ps) => match ps.drop s with
     | .row .. :: _ => gd (Nat.beq j0 0) (idx li j n fun q => ret (.ptr id s (i0 + q * m) (l && li) 0))
     | .lst _ c _ _ :: _ => gd (Nat.beq j0 0 && Nat.beq m c.w && l && Nat.beq i0 0) (idx li j n fun q => ret (.ptr id s q li 0))
     | r => litT li j fun j => gd (l && true && Nat.beq i0 0 && Nat.beq j0 0) (idx true j n fun q => match skipP (q * m) r with
      | some d => ret (.ptr id (s + d) 0 true 0)
      | none => .fail)
    | _ => .fail
   | _, _ => .fail
  | some (.slice e) => match x, sizeT C.P e with
   | .vec id, some m => match lk id with
    | some (.cells _ _ [.row ln _ _ n _]) => gd (Nat.beq m 1) (idx (li && ln) j n fun q => ret (.ptr id 0 q li 0))
    | some (.cells _ _ [.lst ln c n _]) => gd (Nat.beq m c.w) (idx (li && ln) j n fun q => ret (.ptr id 0 q li 0))
    | some (.cells _ _ [.ones q]) => litT li j fun j => gd (Nat.beq m 1 && true) (idx true j q.length fun q => ret (.ptr id 0 q true 0))
    | _ => .fail
   | .slc l id s off len _, some m => match lk id with
    | some (.cells _ _ ps) => match ps[s]? with
     | some (.row ..) => gd (Nat.beq m 1) (idx (li && l) j len fun q => ret (.ptr id s (off + q) (li && l) 0))
     | some (.lst _ c _ _) => gd (Nat.beq m c.w) (idx (li && l) j len fun q => ret (.ptr id s (off + q) (li && l) 0))
     | some (.one _) => gd (Nat.beq m 1 && l && li && Nat.beq s 0 && allOne (ps.take (off + len))) (idx true j len fun q => ret (.ptr id (off + q) 0 true 0))
     | _ => .fail
    | _ => .fail
   | .fzi l k xs, some m => gd (Nat.beq m 1) (idx (li && l) j xs.length fun q => ret (.fpt (.int (li && l) k (xs.getD q 0))))
   | .fz c xs, some m => gd (Nat.beq m c.w) (.ob (0 ≤ j) (.opt c xs[j.toNat]? .fail fun x => ret (.fpt (elA c (encA c x)))))
   | _, _ => .fail
  | _ => .fail
 | _ => .fail
where
 idx (l : Bool) (j : Int) (n : Nat) (k : Nat → Tr Eff) : Tr Eff :=
  match l with
  | true => gd (decide (0 ≤ j) && decide (j < (n : Int))) (k j.toNat)
  | false => .ob (0 ≤ j ∧ j < (n : Int)) (k j.toNat)
def indexV (C : Ctx) (t : TypeId) (x i : A) : Tr Eff :=
 match i, x with
 | .int li _ j, .arr lc k n xs => match C.P.underlying t with
  | some (.array m e) => match intT C.P e, sizeT C.P e with
   | some k', some 1 => gd (decide (k' = k) && Nat.beq m n) (indexT.idx li j n fun q => ret (.int (li && lc) k (xs.getD q 0)))
   | none, some sz => gd (decide (isAggT C.P e = some true) && Nat.beq (m * sz) n) (indexT.idx li j m fun q => ret (.arr (li && lc) k sz ((xs.drop (q * sz)).take sz)))
   | _, _ => .fail
  | _ => .fail
 | .int li _ j, .str l s => match C.P.underlying t with
  | some .string => indexT.idx (li && l) j s.length fun q => ret (.int (li && l) .u8 (s.getD q 0))
  | _ => .fail
 | _, _ => .fail
def wAs : List A → Nat
 | [] => 0
 | a :: r => wA a + wAs r
def loadT (C : Ctx) (lk : Lk) (t : TypeId) (a : A) : Tr Eff :=
 match isAggT C.P t, sizeT C.P t with
 | some g, some n => match a with
  | .ptr id s i l j => match lk id with
   | some (.cells _ _ ps) => (ldP g n ps s i l j).map fun v => ⟨v, []⟩
   | _ => .fail
  | .fpt v => match aggA v, g with
   | true, true => gd (Nat.beq (wAs (flatA v)) n) (ret v)
   | false, false => ret v
   | _, _ => .fail
  | _ => .fail
 | _, _ => .fail
def frzA (lk : Lk) : A → Option (A × List (Nat × Blk))
 | .vec id => match lk id with
  | some (.cells true t [.row ln lc k n xs]) => some (.fzi ln k xs, [(id, .cells false t [.row ln lc k n xs])])
  | some (.cells true t [.lst ln c n xs]) => some (.fz c xs, [(id, .cells false t [.lst ln c n xs])])
  | some (.cells false _ [.row ln _ k _ xs]) => some (.fzi ln k xs, [])
  | some (.cells false _ [.lst _ c _ xs]) => some (.fz c xs, [])
  | _ => none
 | .agg l => match frzL l with
  | some (l', p) => some (.agg l', p)
  | none => none
 | .tup l => match frzL l with
  | some (l', p) => some (.tup l', p)
  | none => none
 | .slc l id s off len _ => match lk id with
  | some (.cells true t ps) => match ps[s]? with
   | some (.row ln _ k n xs) => some (.fzi l k (subL (l && ln) off len n xs), [(id, .cells false t ps)])
   | some (.lst ln c n xs) => some (.fz c (subL (l && ln) off len n xs), [(id, .cells false t ps)])
   | _ => none
  | some (.cells false _ ps) => match ps[s]? with
   | some (.row ln _ k n xs) => some (.fzi l k (subL (l && ln) off len n xs), [])
   | some (.lst ln c n xs) => some (.fz c (subL (l && ln) off len n xs), [])
   | _ => none
  | _ => none
 | a => some (a, [])
where frzL : List A → Option (List A × List (Nat × Blk))
 | [] => some ([], [])
 | a :: r => match frzA lk a, frzL r with
  | some (a', p), some (r', q) => some (a' :: r', p ++ q)
  | _, _ => none
def toEl (c : Cd) (a : A) : Option c.T :=
 match allSome ((flatA a).map aD) with
 | some ds => c.dec ds
 | none => none
def memN (x : Nat) : List Nat → Bool
 | [] => false
 | y :: r => match Nat.beq x y with
  | true => true
  | false => memN x r
def storeT (C : Ctx) (lk : Lk) (t : TypeId) (a x : A) : Tr Eff :=
 match sizeT C.P t with
 | some n => match a with
  | .ptr id s i l j => match lk id with
   | some (.cells true ty ps) => match ps.drop s with
    | .lst .. :: _ => match frzA lk x with
     | some (x', fz) => gd (Nat.ble 1 n && Nat.beq (wAs (flatA x')) n && cellsV x' && !(memN id (fz.map (·.1)))) ((stP x' ps s i l j).map fun q => ⟨.undef, fz ++ [(id, .cells true ty q)]⟩)
     | none => .fail
    | _ => gd (Nat.ble 1 n && Nat.beq (wAs (flatA x)) n && cellsV x) ((stP x ps s i l j).map fun q => ⟨.undef, [(id, .cells true ty q)]⟩)
   | _ => .fail
  | _ => .fail
 | none => .fail
def pcOf : A → Pc
 | .arr lc k n xs => .row true lc k n xs
 | .arrc c n xs => .lst true c n xs
 | a => .one a
def psA (agg : Bool) (ps : List Pc) : Option A :=
 match allSome (ps.map pcA) with
 | some l => match agg, l with
  | true, l => some (mkAgg l)
  | false, [a] => match aggA a with
   | false => some a
   | true => none
  | _, _ => none
 | none => none
def buildP (place : Nat → Option Nat) : List (Nat × A) → List Pc → Option (List Pc)
 | [], ps => some ps
 | (i, x) :: r, ps => match place i with
  | some o => match ps, x with
   | [.row ln lc k n xs], .int l k' v => match decide (k' = k) && Nat.ble (o + 1) n with
    | true => buildP place r [.row ln (lc && l) k n (xs.set o v)]
    | false => none
   | ps, x => match skipP o ps with
    | some s => match setPs (flatA x) (ps.drop s) with
     | some q => buildP place r (ps.take s ++ q)
     | none => none
    | none => none
  | none => none
def placeT (C : Ctx) (t : TypeId) : Nat → Option Nat :=
 match C.P.underlying t with
 | some (.struct fs) => fun i => (fs[i]?).map (·.offset)
 | some (.array _ e) => match sizeT C.P e with
  | some m => fun i => some (i * m)
  | none => fun _ => none
 | _ => fun _ => none
def fitsT (C : Ctx) (t : TypeId) (ps : List (Nat × A)) : Bool :=
 match C.P.underlying t with
 | some (.struct fs) => (fs.toList.all fun f => (C.P.info? f.type).isSome) && ps.all fun p => match fs[p.1]? with
  | some f => match sizeT C.P f.type with
   | some n => Nat.beq (wAs (flatA p.2)) n && cellsV p.2
   | none => false
  | none => false
 | some (.array _ e) => match sizeT C.P e with
  | some n => ps.all fun p => Nat.beq (wAs (flatA p.2)) n && cellsV p.2
  | none => false
 | _ => false
def buildT (C : Ctx) (t : TypeId) (parts : List (Nat × A)) : Tr Eff :=
 match zeroT C t with
 | some ps => gd (fitsT C t parts) (match buildP (placeT C t) parts ps with
  | some q => retO (psA true q)
  | none => .fail)
 | none => .fail
def fillI (k : IntKind) : List (Nat × A) → Bool → List Int → Option (Bool × List Int)
 | [], l, xs => some (l, xs)
 | (i, .int l' k' v) :: r, l, xs => match decide (k' = k) && Nat.ble (i + 1) xs.length with
  | true => fillI k r (l && l') (xs.set i v)
  | false => none
 | _, _, _ => none
def elsOf (lk : Lk) (c : Cd) : Nat → List (Nat × A) → Option (List c.T × List (Nat × Blk))
 | _, [] => some ([], [])
 | n, (i, a) :: r => match Nat.beq i n, frzA lk a with
  | true, some (a', p) => match toEl c a', elsOf lk c (n + 1) r with
   | some x, some (l, q) => some (x :: l, p ++ q)
   | _, _ => none
  | _, _ => none
def elemT (C : Ctx) (t : TypeId) : Option TypeId :=
 match C.P.underlying t with
 | some (.slice e) => some e
 | _ => none
def zeroSq (C : Ctx) (e : TypeId) (ln : Bool) (n : Nat) : Option Pc :=
 match C.P.info? e with
 | some i => match i.zero with
  | some z => match Nat.beq i.size z.cells.size with
   | true => match intT C.P e with
    | some k => match zeroRow k 1 z.cells.toList with
     | some [] => some (.row ln ln k n (List.replicate n 0))
     | _ => none
    | none => match assoc C.cod e with
     | some c => match zeroDs (zeroE c) z.cells.toList, c.dec (zeroE c) with
      | some [], some x => some (.lst ln c n (List.replicate n x))
      | _, _ => none
     | none => none
   | false => none
  | none => none
 | none => none
def buildSlice0 (C : Ctx) (lk : Lk) (nid : Nat) (t : TypeId) (len : Nat) (parts : List (Nat × A)) : Tr Eff :=
 match elemT C t with
 | some e => match sizeT C.P e with
  | some m => gd (Nat.ble (len * m) 16777216) (match zeroSq C e true len with
   | some (.row _ _ k _ zs) => gd (Nat.beq m 1) (match fillI k parts true zs with
    | some (l, xs) => .leaf ⟨.vec nid, [(nid, .cells true e [.row true l k len xs])]⟩
    | none => .fail)
   | some (.lst _ c _ _) => gd (Nat.beq m c.w && Nat.beq parts.length len) (match elsOf lk c 0 parts with
     | some (xs, fz) => .leaf ⟨.vec nid, fz ++ [(nid, .cells true e [.lst true c len xs])]⟩
     | none => .fail)
   | _ => .fail)
  | none => .fail
 | none => .fail
def onesOf : Nat → List (Nat × A) → Option (List A)
 | _, [] => some []
 | n, (i, a) :: r => match Nat.beq i n && cellV a && !(aggA a) with
  | true => match onesOf (n + 1) r with
   | some l => some (a :: l)
   | none => none
  | false => none
def isVec (p : Nat × A) : Bool :=
 match p.2 with
 | .vec _ => true
 | .fzi .. => true
 | _ => false
def pickOnes (C : Ctx) (e : TypeId) (len : Nat) (parts : List (Nat × A)) : Bool :=
 match zeroSq C e true len with
 | some (.lst _ .bys _ _) => !(parts.all isVec)
 | some _ => false
 | none => true
def onesT (C : Ctx) (nid : Nat) (t : TypeId) (len : Nat) (parts : List (Nat × A)) : Tr Eff :=
 match elemT C t with
 | some e => match sizeT C.P e, C.P.info? e with
  | some 1, some i => match i.zero, onesOf 0 parts with
   | some z, some l => gd (Nat.beq z.cells.size 1 && Nat.beq parts.length len && Nat.ble len 16777216) (.leaf ⟨.vec nid, [(nid, .cells true e [.ones l])]⟩)
   | _, _ => .fail
  | _, _ => .fail
 | none => .fail
def buildSliceT (C : Ctx) (lk : Lk) (nid : Nat) (t : TypeId) (len : Nat) (parts : List (Nat × A)) : Tr Eff :=
 match elemT C t with
 | some e => match pickOnes C e len parts with
  | true => onesT C nid t len parts
  | false => buildSlice0 C lk nid t len parts
 | none => .fail
def makeT (C : Ctx) (nid : Nat) (t : TypeId) (l c : A) : Tr Eff :=
 match elemT C t, l, c with
 | some e, .int l1 .i64 l, .int l2 .i64 c => match C.P.info? e with
  | some i => (match l1 && l2 with
   | true => gd (decide (0 ≤ l) && decide (l ≤ c) && decide ((i.bytes : Int) * c ≤ 281474976710656)) (Tr.leaf ())
   | false => .ob (0 ≤ l ∧ l ≤ c ∧ (i.bytes : Int) * c ≤ 281474976710656) (Tr.leaf ())).bind fun _ =>
    match zeroSq C e l1 l.toNat with
    | some p => .leaf ⟨.vec nid, [(nid, .cells true e [p])]⟩
    | none => .fail
  | none => .fail
 | _, _, _ => .fail
def bndA : Option A → Option (Bool × Option Int)
 | none => some (true, none)
 | some (.int l _ n) => some (l, some n)
 | some _ => none
def bndT (l : Bool) (lo hi mx top : Int) (t : Tr Eff) : Tr Eff :=
 match l with
 | true => gd (decide (0 ≤ lo) && decide (lo ≤ hi) && decide (hi ≤ mx) && decide (mx ≤ top)) t
 | false => .ob (0 ≤ lo ∧ lo ≤ hi ∧ hi ≤ mx ∧ mx ≤ top) t
def subS {α : Type} (l : Bool) (lo hi : Nat) (h0 : Bool) (xs : List α) : List α :=
 match h0 with
 | true => xs.drop lo
 | false => match l && Nat.beq lo 0 with
  | true => xs.take hi
  | false => (xs.take hi).drop lo
def sliceT (C : Ctx) (lk : Lk) (t : TypeId) (x : A) (lo hi mx : Option A) : Tr Eff :=
 match bndA lo, bndA hi, bndA mx with
 | some (l1, lo), some (l2, hi), some (l3, mx) => gd (hi.isSome || mx.isNone) (match C.P.underlying t, x with
  | some (.array n e), .ptr id s i l j => match lk id with
   | some (.cells _ _ ps) => match ps[s]? with
    | some (.row _ _ _ m _) => gd (Nat.beq j 0 && decide (sizeT C.P e = some 1) && l && Nat.ble (i + n) m && Nat.ble n 16777216)
      (bndT (l1 && l2 && l3) (lo.getD 0) (hi.getD n) (mx.getD n) n (ret (.slc (l1 && l2 && l3) id s (i + (lo.getD 0).toNat) ((hi.getD n).toNat - (lo.getD 0).toNat) (some ((mx.getD n).toNat - (lo.getD 0).toNat)))))
    | _ => .fail
   | _ => .fail
  | some (.slice e), x => match sizeT C.P e with
   | some m => match x with
    | .vec id => match lo, hi, mx with
     | none, none, none => ret (.vec id)
     | lo, hi, mx => match lk id with
      | some (.cells _ _ [.row ln _ _ n _]) => gd (Nat.beq m 1) (bndT (l1 && l2 && l3 && ln) (lo.getD 0) (hi.getD n) (mx.getD (hi.getD n)) n
       (ret (.slc (l1 && l2 && l3 && ln) id 0 (lo.getD 0).toNat ((hi.getD n).toNat - (lo.getD 0).toNat) (mx.map fun q => q.toNat - (lo.getD 0).toNat))))
      | some (.cells _ _ [.lst ln c n _]) => gd (Nat.beq m c.w) (bndT (l1 && l2 && l3 && ln) (lo.getD 0) (hi.getD n) (mx.getD (hi.getD n)) n
       (ret (.slc (l1 && l2 && l3 && ln) id 0 (lo.getD 0).toNat ((hi.getD n).toNat - (lo.getD 0).toNat) (mx.map fun q => q.toNat - (lo.getD 0).toNat))))
      | _ => .fail
    | .slc l id s off len cap => match lk id with
     | some (.cells _ _ ps) => match ps[s]? with
      | some (.row ln _ _ n _) => gd (Nat.beq m 1) (slcT (l1 && l2 && l3 && l) (ln && l) n id s off len cap lo hi mx)
      | some (.lst ln c n _) => gd (Nat.beq m c.w) (slcT (l1 && l2 && l3 && l) (ln && l) n id s off len cap lo hi mx)
      | _ => .fail
     | _ => .fail
    | .fzi l k xs => gd (Nat.beq m 1) (bndT (l1 && l2 && l3 && l) (lo.getD 0) (hi.getD xs.length) (mx.getD (hi.getD xs.length)) xs.length
      (ret (.fzi (l1 && l2 && l) k (subS (l1 && l2) (lo.getD 0).toNat (hi.getD 0).toNat hi.isNone xs))))
    | .fz c xs => gd (Nat.beq m c.w) (bndT false (lo.getD 0) (hi.getD xs.length) (mx.getD (hi.getD xs.length)) xs.length
      (ret (.fz c (subS (l1 && l2) (lo.getD 0).toNat (hi.getD 0).toNat hi.isNone xs))))
    | .val (.slice none 0 0) => bndT (l1 && l2 && l3) (lo.getD 0) (hi.getD 0) (mx.getD (hi.getD 0)) 0 (ret (.val (.slice none 0 0)))
    | _ => .fail
   | none => .fail
  | some .string, .str l s => match mx with
   | none => bndT (l1 && l2 && l) (lo.getD 0) (hi.getD s.length) (hi.getD s.length) s.length
     (ret (.str (l1 && l2 && l) (subS (l1 && l2) (lo.getD 0).toNat (hi.getD 0).toNat hi.isNone s)))
   | some _ => .fail
  | _, _ => .fail)
 | _, _, _ => .fail
where
 slcT (l ln : Bool) (n id s off len : Nat) (cap : Option Nat) (lo hi mx : Option Int) : Tr Eff :=
  bndT (l && ln) (lo.getD 0) (hi.getD len) (mx.getD (hi.getD len)) (cap.getD (n - off) : Nat)
   (inT (l && ln) (off + (hi.getD len).toNat) n hi cap (ret (.slc l id s (off + (lo.getD 0).toNat) ((hi.getD len).toNat - (lo.getD 0).toNat) (match mx with
    | some q => some (q.toNat - (lo.getD 0).toNat)
    | none => cap.map fun q => q - (lo.getD 0).toNat))))
 inT (l : Bool) (x n : Nat) (hi : Option Int) (cap : Option Nat) (t : Tr Eff) : Tr Eff :=
  match hi, cap with
  | some _, some _ => leT l x n t
  | _, _ => t
def arrayAtT (C : Ctx) (lk : Lk) (t : TypeId) (x : A) : Tr Eff :=
 match C.P.underlying t with
 | some (.array n e) => match intT C.P e with
  | some k => gd (Nat.ble 1 n) (match x with
   | .vec id => match lk id with
    | some (.cells _ _ [.row ln _ k' m _]) => gd (decide (k' = k)) (leT ln n m (ret (.ptr id 0 0 true 0)))
    | _ => .fail
   | .slc l id s off len _ => match lk id with
    | some (.cells _ _ ps) => match ps[s]? with
     | some (.row _ _ k' _ _) => gd (decide (k' = k)) (leT l n len (ret (.ptr id s off l 0)))
     | _ => .fail
    | _ => .fail
   | .fzi l k' xs => gd (decide (k' = k)) (leT l n xs.length (ret (.fpt (.arr false k n (xs.take n)))))
   | _ => .fail)
  | none => .fail
 | _ => .fail
def convT (C : Ctx) (lk : Lk) (nid : Nat) (s t : TypeId) (x : A) : Tr Eff :=
 match C.P.underlying s, C.P.underlying t, x with
 | some (.int _), some (.int k), .int l _ n => ret (.int l k (k.wrap n))
 | some .string, some .string, .str l b => ret (.str l b)
 | some .string, some (.slice e), .str l b => match intT C.P e with
  | some .u8 => .ob (b.length < lim63) (.leaf ⟨.vec nid, [(nid, .cells true e [.row l l .u8 b.length b])]⟩)
  | _ => .fail
 | some (.slice e), some .string, x => match intT C.P e, sqOf lk x with
  | some .u8, some .nil => ret (.str true [])
  | some .u8, some (.ints ln _ .u8 xs) => ret (.str ln xs)
  | _, _ => .fail
 | some (.slice _), some (.slice e), .vec id => match intT C.P e, lk id with
  | some .u8, some (.cells true _ [.row ln _ _ n _]) => gd (Nat.beq s t) (ltT ln 0 n (ret (.vec id)))
  | _, _ => .fail
 | _, _, _ => .fail
def roomT (l : Bool) (n bytes : Nat) (t : Tr Eff) : Tr Eff :=
 match l with
 | true => gd (Nat.ble (n * bytes) 140737488355328 && Nat.ble (n + 1) lim63) t
 | false => .ob (n * bytes ≤ 140737488355328 ∧ n < lim63) t
def catSq (C : Ctx) (e : TypeId) (x y : Sq) : Option (Bool × Nat × Pc) :=
 match intT C.P e with
 | some k => match x, y with
  | .nil, .nil => some (true, 0, .row true true k 0 [])
  | .nil, .ints ln lc k' ys => match decide (k' = k) with
   | true => some (ln, ys.length, .row ln lc k ys.length ys)
   | false => none
  | .ints ln lc k' xs, .nil => match decide (k' = k) with
   | true => some (ln, xs.length, .row ln lc k xs.length xs)
   | false => none
  | .ints ln lc k' xs, .ints ln' lc' k'' ys => match decide (k' = k) && decide (k'' = k) with
   | true => some (ln && ln', (xs ++ ys).length, .row (ln && ln') (lc && lc') k (xs ++ ys).length (xs ++ ys))
   | false => none
  | _, _ => none
 | none => match assoc C.cod e with
  | some c => match x, y with
   | .nil, .nil => some (true, 0, .lst true c 0 [])
   | .nil, .els ln c' ys => match decEq c' c with
    | isTrue h => some (ln, ys.length, .lst ln c ys.length (h ▸ ys))
    | isFalse _ => none
   | .els ln c' xs, .nil => match decEq c' c with
    | isTrue h => some (ln, xs.length, .lst ln c xs.length (h ▸ xs))
    | isFalse _ => none
   | .els ln c' xs, .els ln' c'' ys => match decEq c' c, decEq c'' c with
    | isTrue h, isTrue h' => some (ln && ln', xs.length + ys.length, .lst (ln && ln') c (xs.length + ys.length) ((h ▸ xs) ++ (h' ▸ ys)))
    | _, _ => none
   | _, _ => none
  | none => none
def lenSq : Sq → Nat
 | .nil => 0
 | .ints _ _ _ xs => xs.length
 | .els _ _ xs => xs.length
def overPc (off m : Nat) (y : Sq) : Pc → Option Pc
 | .row ln lc k n xs => match y with
  | .nil => some (.row ln lc k n xs)
  | .ints _ lc' k' ys => match decide (k' = k) with
   | true => some (.row ln (lc && lc') k n (xs.take off ++ ys.take m ++ xs.drop (off + m)))
   | false => none
  | .els .. => none
 | .lst ln c n xs => match y with
  | .nil => some (.lst ln c n xs)
  | .els _ c' ys => match decEq c' c with
   | isTrue h => some (.lst ln c n (xs.take off ++ (h ▸ ys : List c.T).take m ++ xs.drop (off + m)))
   | isFalse _ => none
  | .ints .. => none
 | .one _ => none
 | .ones _ => none
def placeS (lk : Lk) : A → Option (Bool × Nat × Nat × Nat × Nat)
 | .vec id => match lenA lk (.vec id) with
  | some (l, n) => some (l, id, 0, 0, n)
  | none => none
 | .slc l id s off len _ => some (l, id, s, off, len)
 | _ => none
def lnSq : Sq → Bool
 | .nil => true
 | .ints ln _ _ _ => ln
 | .els ln _ _ => ln
def copyT (C : Ctx) (lk : Lk) (t : TypeId) (x y : A) : Tr Eff :=
 match elemT C t with
 | some e => match sizeT C.P e, placeS lk x, sqOf lk y with
  | some m, some (l, id, s, off, len), some v => match lk id with
   | some (.cells true ty ps) => match ps[s]? with
    | some p => gd (Nat.beq (stOf p) m) (match overPc off (min (lenSq v) len) v p with
     | some q => .leaf ⟨.int (l && lnSq v) .i64 ((min (lenSq v) len : Nat) : Int), [(id, .cells true ty (ps.take s ++ q :: ps.drop (s + 1)))]⟩
     | none => .fail)
    | none => .fail
   | _ => .fail
  | _, _, _ => .fail
 | none => .fail
def roomB (l : Bool) (i n : Nat) (x y : Tr Eff) : Tr Eff :=
 match l with
 | true => match Nat.ble i n with
  | true => x
  | false => y
 | false => .br (Nat.ble i n) x y
def appendT0 (C : Ctx) (lk : Lk) (nid : Nat) (t : TypeId) (x : A) (y : Option Sq) : Tr Eff :=
 match elemT C t with
 | some e => match C.P.info? e, sqOf lk x, y with
  | some i, some u, some v => match catSq C e u v with
   | some (ln, n, p) => gd (Nat.beq (stOf p) i.size && zOk C e) (match x with
    | .val _ => roomT ln n i.bytes (.leaf ⟨.vec nid, [(nid, .cells true e [p])]⟩)
    | .vec id => match lk id with
     | some (.cells true e' _) => gd (Nat.beq e e') (roomT ln n i.bytes (.leaf ⟨.vec nid, [(nid, .cells true e [p]), (id, .dead)]⟩))
     | _ => .fail
    | .slc l id s off len (some cap) => roomB (l && ln) (len + lenSq v) cap (atT lk (l && ln) id s off len (some cap) i.size v) (roomT ln n i.bytes (.leaf ⟨.vec nid, [(nid, .cells true e [p])]⟩))
    | .slc l id s off len none => atT lk (l && ln) id s off len none i.size v
    | _ => .fail)
   | none => .fail
  | _, _, _ => .fail
 | none => .fail
where
 atT (lk : Lk) (l : Bool) (id s off len : Nat) (cap : Option Nat) (m : Nat) (v : Sq) : Tr Eff :=
  match lk id with
  | some (.cells true ty ps) => match ps[s]? with
   | some p => gd (Nat.beq (stOf p) m) (leT l (off + len + lenSq v) (cntOf p) (match overPc (off + len) (lenSq v) v p with
    | some q => .leaf ⟨.slc l id s off (len + lenSq v) cap, [(id, .cells true ty (ps.take s ++ q :: ps.drop (s + 1)))]⟩
    | none => .fail))
   | none => .fail
  | _ => .fail
 zOk (C : Ctx) (e : TypeId) : Bool :=
 match zeroSq C e true 0 with
 | some _ => true
 | none => false
def lenIs (p : Pc) (n : Nat) : Bool :=
 match p with
 | .lst true _ m _ => Nat.beq m n
 | .row true _ _ m _ => Nat.beq m n
 | _ => false
def wholeV (lk : Lk) (x : A) (y : Option Sq) : A :=
 match x with
 | .slc l id s off len none => match y with
  | some v => match l && lnSq v && Nat.ble 1 (lenSq v) && Nat.beq s 0 && Nat.beq off 0 with
   | true => match lk id with
    | some (.cells true _ [p]) => match lenIs p len with
     | true => .vec id
     | false => x
    | _ => x
   | false => x
  | none => x
 | _ => x
def appendT (C : Ctx) (lk : Lk) (nid : Nat) (t : TypeId) (x : A) (y : Option Sq) : Tr Eff := appendT0 C lk nid t (wholeV lk x y) y
def zerosN (C : Ctx) (t : TypeId) (l : Bool) (n : Nat) : Option Sq :=
 match elemT C t with
 | some e => match zeroSq C e l n with
  | some (.row ln lc k _ xs) => some (.ints ln lc k xs)
  | some (.lst ln c _ xs) => some (.els ln c xs)
  | _ => none
 | none => none
def appendZ (C : Ctx) (lk : Lk) (nid : Nat) (t t' : TypeId) (x y : A) : Tr Eff :=
 match C.P.underlying t', y, elemT C t with
 | some (.int _), .int l .i64 n, some e => match C.P.info? e with
  | some i => match l with
   | true => gd (decide (0 ≤ n) && decide (n * (i.bytes : Int) ≤ 281474976710656)) (appendT C lk nid t x (zerosN C t true n.toNat))
   | false => .ob (0 ≤ n ∧ n * (i.bytes : Int) ≤ 281474976710656) (appendT C lk nid t x (zerosN C t false n.toNat))
  | none => .fail
 | _, _, _ => .fail
def zerosLike (C : Ctx) (e : TypeId) (n : Nat) : Option Sq :=
 match zeroSq C e true n with
 | some (.row ln lc k _ xs) => some (.ints ln lc k xs)
 | some (.lst ln c _ xs) => some (.els ln c xs)
 | _ => none
def clearT (C : Ctx) (lk : Lk) (t : TypeId) (x : A) : Tr Eff :=
 match x with
 | .map id => match lk id, C.P.underlying t with
  | some (.imap c _), some _ => .leaf ⟨.tup [], [(id, .imap c fun _ => none)]⟩
  | some (.lmap _), some _ => .leaf ⟨.tup [], [(id, .lmap [])]⟩
  | _, _ => .fail
 | .val (.slice none 0 0) => gd (elemT C t).isSome (ret (.tup []))
 | x => match elemT C t with
  | some e => match placeS lk x with
   | some (_, id, s, off, len) => match lk id, zerosLike C e len with
    | some (.cells true ty ps), some z => match ps[s]? with
     | some p => match overPc off len z p with
      | some q => .leaf ⟨.tup [], [(id, .cells true ty (ps.take s ++ q :: ps.drop (s + 1)))]⟩
      | none => .fail
     | none => .fail
    | _, _ => .fail
   | none => .fail
  | none => .fail
def keyA : A → Option Int
 | .int _ .i64 n => some n
 | _ => none
def mapT (C : Ctx) (t : TypeId) : Option TypeId :=
 match C.P.underlying t with
 | some (.map k e) => match intT C.P k with
  | some .i64 => some e
  | _ => none
 | _ => none
def zeroA (C : Ctx) (e : TypeId) : Option A :=
 match C.P.info? e, zeroT C e with
 | some i, some ps => match i.zero with
  | some (.agg _) => psA true ps
  | some (.tuple _) => none
  | some _ => psA false ps
  | none => none
 | _, _ => none
def keyF : A → Bool
 | .int l _ _ => l
 | _ => false
def findL (n : Int) : List (Int × A) → Option A
 | [] => none
 | (k, a) :: r => match decide (k = n) with
  | true => some a
  | false => findL n r
def setL (n : Int) (x : A) : List (Int × A) → List (Int × A)
 | [] => [(n, x)]
 | (k, a) :: r => match decide (k = n) with
  | true => (n, x) :: r
  | false => (k, a) :: setL n x r
def cutL (n : Int) : List (Int × A) → List (Int × A)
 | [] => []
 | (k, a) :: r => match decide (k = n) with
  | true => r
  | false => (k, a) :: cutL n r
def okT (ok : Bool) (b : Bool) (v : A) : Tr Eff :=
 match ok with
 | true => ret (.tup [v, .bool true b])
 | false => ret v
def lookupT (C : Ctx) (lk : Lk) (t : TypeId) (x k : A) (ok : Bool) : Tr Eff :=
 match mapT C t, keyA k with
 | some e, some n => match zeroA C e with
  | some z => match x with
   | .val (.map none) => okT ok false z
   | .map id => match lk id with
    | some (.lmap l) => litT (keyF k) n fun n => match findL n l with
     | some a => okT ok true a
     | none => okT ok false z
    | some (.imap c M) => gd (decide (assoc C.cod e = some c) && decide (isAggT C.P e = some c.agg)) (.opt c (M n) (okT ok false z) fun x => okT ok true (elA c (encA c x)))
    | _ => .fail
   | _ => .fail
  | none => .fail
 | _, _ => .fail
def updateT (C : Ctx) (lk : Lk) (t : TypeId) (m k x : A) : Tr Eff :=
 match mapT C t, keyA k, m with
 | some e, some n, .map id => match lk id, frzA lk x with
  | some (.lmap l), _ => litT (keyF k) n fun n => .leaf ⟨.undef, [(id, .lmap (setL n x l))]⟩
  | some (.imap c M), some (x', fz) => gd (decide (assoc C.cod e = some c) && decide (aggA x' = c.agg)) (match toEl c x' with
   | some v => .leaf ⟨.undef, fz ++ [(id, .imap c fun q => if q = n then some v else M q)]⟩
   | none => .fail)
  | _, _ => .fail
 | _, _, _ => .fail
def deleteT (C : Ctx) (lk : Lk) (t : TypeId) (m k : A) : Tr Eff :=
 match mapT C t, keyA k, m with
 | some _, some n, .map id => match lk id with
  | some (.imap c M) => .leaf ⟨.tup [], [(id, .imap c fun q => if q = n then none else M q)]⟩
  | some (.lmap l) => litT (keyF k) n fun n => .leaf ⟨.tup [], [(id, .lmap (cutL n l))]⟩
  | _ => .fail
 | _, _, _ => .fail
def minT (x y : A) : Tr Eff :=
 match x, y with
 | .int l k a, .int l' k' b => gd (decide (k = k')) (match l && l' with
  | true => ret (.int true k (if b < a then b else a))
  | false => .br (decide (b < a)) (ret (.int l' k b)) (ret (.int l k a)))
 | _, _ => .fail
def maxT (x y : A) : Tr Eff :=
 match x, y with
 | .int l k a, .int l' k' b => gd (decide (k = k')) (match l && l' with
  | true => ret (.int true k (if b > a then b else a))
  | false => .br (decide (b > a)) (ret (.int l' k b)) (ret (.int l k a)))
 | _, _ => .fail
def builtT (C : Ctx) (lk : Lk) (nid : Nat) (b : Builtin) (ts : List TypeId) (args : List A) : Tr Eff :=
 match b, args, ts with
 | .len, [.str l s], [t] => match C.P.underlying t with
  | some .string => ltT l s.length lim63 (ret (.int l .i64 (s.length : Int)))
  | _ => .fail
 | .len, [x], [t] => match C.P.underlying t, lenA lk x with
  | some (.slice _), some (l, n) => ret (.int l .i64 (n : Int))
  | _, _ => .fail
 | .cap, [.slc l _ _ _ _ (some n)], [t] => match C.P.underlying t with
  | some (.slice _) => ret (.int l .i64 (n : Int))
  | _ => .fail
 | .cap, [.val (.slice none 0 0)], [t] => match C.P.underlying t with
  | some (.slice _) => ret (.int true .i64 0)
  | _ => .fail
 | .min, [x, y], _ => minT x y
 | .max, [x, y], _ => maxT x y
 | .copy, [x, y], t :: _ => copyT C lk t x y
 | .append, [x, y], [t, t'] => match Nat.beq t t' with
  | true => appendT C lk nid t x (sqOf lk y)
  | false => appendZ C lk nid t t' x y
 | .clear, [x], t :: _ => clearT C lk t x
 | .delete, [m, k], t :: _ => deleteT C lk t m k
 | _, _, _ => .fail
mutual
def idsA : A → List Nat
 | .ptr id _ _ _ _ => [id]
 | .slc _ id _ _ _ _ => [id]
 | .vec id => [id]
 | .map id => [id]
 | .fn _ a b => idsL a ++ idsL b
 | .ifc _ v => idsA v
 | .fpt v => idsA v
 | .agg l => idsL l
 | .tup l => idsL l
 | _ => []
def idsL : List A → List Nat
 | [] => []
 | a :: r => idsA a ++ idsL r
end
def idsP : List Pc → List Nat
 | [] => []
 | .one a :: r => idsA a ++ idsP r
 | .ones l :: r => idsL l ++ idsP r
 | _ :: r => idsP r
def idsM : List (Int × A) → List Nat
 | [] => []
 | (_, a) :: r => idsA a ++ idsM r
def idsB : Blk → List Nat
 | .lmap l => idsM l
 | .cells _ _ ps => idsP ps
 | _ => []
def reach (lk : Lk) (ng : Nat) : Nat → List Nat → List Nat → List Nat
 | 0, _, acc => acc
 | _ + 1, [], acc => acc
 | f + 1, i :: r, acc => match Nat.ble ng i && !(memN i acc) with
  | true => match lk i with
   | some b => reach lk ng f (idsB b ++ r) (acc ++ [i])
   | none => reach lk ng f r (acc ++ [i])
  | false => reach lk ng f r acc
def idxOf : List Nat → Nat → Nat → Option Nat
 | [], _, _ => none
 | j :: r, i, n => match Nat.beq i j with
  | true => some n
  | false => idxOf r i (n + 1)
mutual
def renA (f : Nat → Option Nat) : A → Option A
 | .ptr id s i l j => (f id).map fun id => .ptr id s i l j
 | .slc l id s off len cap => (f id).map fun id => .slc l id s off len cap
 | .vec id => (f id).map .vec
 | .map id => (f id).map .map
 | .fn g a b => match renL f a, renL f b with
  | some a, some b => some (.fn g a b)
  | _, _ => none
 | .ifc t v => (renA f v).map (.ifc t)
 | .fpt v => (renA f v).map .fpt
 | .agg l => (renL f l).map .agg
 | .tup l => (renL f l).map .tup
 | a => some a
def renL (f : Nat → Option Nat) : List A → Option (List A)
 | [] => some []
 | a :: r => match renA f a, renL f r with
  | some a, some r => some (a :: r)
  | _, _ => none
end
def renP (f : Nat → Option Nat) : List Pc → Option (List Pc)
 | [] => some []
 | .one a :: r => match renA f a, renP f r with
  | some a, some r => some (.one a :: r)
  | _, _ => none
 | .ones l :: r => match renL f l, renP f r with
  | some l, some r => some (.ones l :: r)
  | _, _ => none
 | p :: r => (renP f r).map (p :: ·)
def renM (f : Nat → Option Nat) : List (Int × A) → Option (List (Int × A))
 | [] => some []
 | (k, a) :: r => match renA f a, renM f r with
  | some a, some r => some ((k, a) :: r)
  | _, _ => none
def renB (f : Nat → Option Nat) : Blk → Option Blk
 | .cells o t ps => (renP f ps).map (.cells o t)
 | .lmap l => (renM f l).map .lmap
 | b => some b
def renBs (f : Nat → Option Nat) : List Blk → Option (List Blk)
 | [] => some []
 | b :: r => match renB f b, renBs f r with
  | some b, some r => some (b :: r)
  | _, _ => none
def inward (ng : Nat) (is : List Nat) (i : Nat) : Option Nat :=
 match Nat.ble (i + 1) ng with
 | true => some i
 | false => idxOf is i ng
def outward (ng : Nat) (is : List Nat) (nid : Nat) (j : Nat) : Option Nat :=
 match Nat.ble (j + 1) ng with
 | true => some j
 | false => match is[j - ng]? with
  | some i => some i
  | none => some (nid + (j - ng - is.length))
def putsOf (is : List Nat) (nid : Nat) : List Blk → List (Nat × Blk)
 | [] => []
 | b :: r => match is with
  | i :: is => (i, b) :: putsOf is nid r
  | [] => (nid, b) :: putsOf [] (nid + 1) r
def callT (C : Ctx) (fn : FuncId → Spec) (lk : Lk) (nid : Nat) (f : FuncId) (args : List A) : Tr Eff :=
 let is := reach lk C.ng 400 (idsL args) []
 match renL (inward C.ng is) args, allSome (is.map lk) with
 | some cargs, some bs => match renBs (inward C.ng is) bs with
  | some mem => (fn f cargs mem).bind fun r => gd (Nat.ble is.length r.mem.length && (!(memN f C.ro) || is.all fun i => Nat.ble (i + 1) nid)) (match renA (outward C.ng is nid) r.val, renBs (outward C.ng is nid) r.mem with
   | some v, some m => .leaf ⟨v, match memN f C.ro with
    | true => putsOf [] nid (m.drop is.length)
    | false => putsOf is nid m⟩
   | _, _ => .fail)
  | none => .fail
 | _, _ => .fail
def isNilS : A → Bool
 | .val (.slice none 0 0) => true
 | _ => false
def isSliceT (P : Program) (t : TypeId) : Bool :=
 match P.underlying t with
 | some (.slice _) => true
 | _ => false
def sliceNilT (lk : Lk) (op : BinOp) (x : A) : Tr Eff :=
 match x with
 | .val (.slice none 0 0) => eqT op true true
 | .slc l _ _ _ _ (some k) => ltT l 0 k (eqT op true false)
 | x => match lenA lk x with
  | some (l, n) => ltT l 0 n (eqT op true false)
  | none => .fail
def op1 (C : Ctx) (fn : FuncId → Spec) (lk : Lk) (nid : Nat) (ρ : Operand → A) (o : Oper) : Tr Eff :=
 match o.op with
 | .move x => ret (ρ x)
 | .assign x => ret (ρ x)
 | .pick c a b => match ρ c with
  | .bool true true => ret (ρ a)
  | .bool true false => ret (ρ b)
  | .bool false c => .br c (ret (ρ a)) (ret (ρ b))
  | _ => .fail
 | .alloc t => match zeroT C t with
  | some ps => .leaf ⟨.ptr nid 0 0 true 0, [(nid, .cells true t ps)]⟩
  | none => .fail
 | .box t x => gd (cellsV (ρ x)) (.leaf ⟨.ptr nid 0 0 true 0, [(nid, .cells true t ((flatA (ρ x)).map pcOf))]⟩)
 | .build t parts => buildT C t (parts.toList.map fun p => (p.1, ρ p.2))
 | .buildSlice t len parts => buildSliceT C lk nid t len (parts.toList.map fun p => (p.1, ρ p.2))
 | .load t a => loadT C lk t (ρ a)
 | .store t a x => storeT C lk t (ρ a) (ρ x)
 | .nilCheck x => gd (noNil (ρ x)) (ret (ρ x))
 | .binOp op t x y _ => match isNilS (ρ y) && isSliceT C.P t with
  | true => sliceNilT lk op (ρ x)
  | false => binT C op t x y (ρ x) (ρ y)
 | .unOp op _ x => unT op (ρ x)
 | .convert s t x => convT C lk nid s t (ρ x)
 | .fieldAddr t x f => retO (fieldT C lk t (ρ x) f)
 | .indexAddr t x i => indexT C lk t (ρ x) (ρ i)
 | .index t x i => indexV C t (ρ x) (ρ i)
 | .extract x i => match ρ x with
  | .tup l => retO l[i]?
  | _ => .fail
 | .slice t x lo hi mx => sliceT C lk t (ρ x) (lo.map ρ) (hi.map ρ) (mx.map ρ)
 | .makeSlice t l c => makeT C nid t (ρ l) (ρ c)
 | .sliceToArrayPointer t x => arrayAtT C lk t (ρ x)
 | .makeFunc (.func f) first cap => ret (.fn f (first.toList.map ρ) (cap.toList.map ρ))
 | .makeInterface t x => match C.P.underlying t with
  | some (.interface _) => .fail
  | some _ => ret (.ifc t (ρ x))
  | none => .fail
 | .makeMap t r => match mapT C t, r with
  | some _, none => .leaf ⟨.map nid, [(nid, .lmap [])]⟩
  | _, _ => .fail
 | .lookup t x k ok => lookupT C lk t (ρ x) (ρ k) ok
 | .mapUpdate t m k x => updateT C lk t (ρ m) (ρ k) (ρ x)
 | .call c => match c.callee with
  | .builtin b => builtT C lk nid b c.argTypes.toList (c.args.toList.map ρ)
  | .value x => match ρ x with
   | .fn f first cap => callT C fn lk nid f (first ++ c.args.toList.map ρ ++ cap)
   | _ => .fail
  | _ => .fail
 | _ => .fail
end
section
def Does (P : Program) (o : Oper) (a : Act) (w : World) (post : Value → World → Prop) : Prop :=
 (∃ v w', (execOp a.eval o).run P w = .ok (.value v) w' ∧ post v w') ∨
 (∃ w', (execOp a.eval o).run P w = .ok .skip w' ∧ post Go.undef w') ∨
 (∃ f args w', (execOp a.eval o).run P w = .ok (.enter f args) w' ∧ Calls P f args w' fun e w'' => ∃ v, e = .returned v ∧ post v w'')
theorem Does.wp {P : Program} {o : Oper} {a : Act} {w : World} {post : Value → World → Prop} {K : Act → World → Prop} {Q : Exit → Act → World → Prop}
  (h : Does P o a w post) (hK : ∀ v w', post v w' → K (a.put o.dst v) w') : o.wp P a w K Q := by
 unfold Oper.wp
 rcases h with ⟨v, w', hr, hp⟩ | ⟨w', hr, hp⟩ | ⟨f, args, w', hr, hp⟩
 ·rw [hr]; exact hK _ _ hp
 ·rw [hr]; exact hK _ _ hp
 ·rw [hr, Oper.upon_enter]
  exact hp.mono fun e w'' ⟨v, he, hq⟩ => by subst he; exact hK _ _ hq
theorem wrap_mod (k : IntKind) (n : Int) : k.wrap n % 2 ^ k.bits = n % 2 ^ k.bits := by
 unfold IntKind.wrap
 simp only []
 split
 ·simp
 ·simp
theorem wrap_congr (k : IntKind) (x y : Int) (h : x % 2 ^ k.bits = y % 2 ^ k.bits) : k.wrap x = k.wrap y := by
 unfold IntKind.wrap
 simp only [h]
theorem wf_wrap' (k : IntKind) (n : Int) : wf k (k.wrap n) := wrap_congr k _ _ (wrap_mod k n)
theorem wf_between {k : IntKind} {x y : Int} (h : wf k x) (hy : (0 ≤ y ∧ y ≤ x) ∨ (x ≤ y ∧ y ≤ 0)) : wf k y := by
 unfold wf IntKind.wrap at *
 cases k <;> simp only [IntKind.bits, IntKind.signed, Bool.true_and, Bool.false_and, Bool.false_eq_true, if_false, decide_eq_true_eq, ge_iff_le] at h ⊢ <;> (try split at h) <;> (try split) <;> omega
theorem tmod_between (x y : Int) : (0 ≤ x.tmod y ∧ x.tmod y ≤ x) ∨ (x ≤ x.tmod y ∧ x.tmod y ≤ 0) := by
 have h := Int.natAbs_tmod x y
 have h1 := Nat.mod_le x.natAbs y.natAbs
 rcases Int.le_total 0 x with hx | hx
 ·have := Int.tmod_nonneg y hx
  omega
 ·have := Int.tmod_nonneg y (show 0 ≤ -x by omega)
  rw [Int.neg_tmod] at this
  omega
theorem fdiv_between (x : Int) (n : Nat) : (0 ≤ x.fdiv (2 ^ n) ∧ x.fdiv (2 ^ n) ≤ x) ∨ (x ≤ x.fdiv (2 ^ n) ∧ x.fdiv (2 ^ n) ≤ 0) := by
 have hp : (0 : Int) < 2 ^ n := Int.pow_pos (by decide)
 rw [Int.fdiv_eq_ediv_of_nonneg x (by omega)]
 rcases Int.lt_or_le x 0 with hx | hx
 ·right
  refine ⟨?_, ?_⟩
  ·apply (Int.le_ediv_iff_mul_le hp).2
   have : x * 2 ^ n ≤ x * 1 := Int.mul_le_mul_of_nonpos_left (by omega) (by omega)
   omega
  ·have := Int.ediv_le_ediv hp (show x ≤ 0 by omega)
   simpa using this
 ·left
  exact ⟨Int.ediv_nonneg hx (by omega), Int.ediv_le_self _ hx⟩
theorem wf_i64 {n : Int} : wf .i64 n ↔ -9223372036854775808 ≤ n ∧ n < 9223372036854775808 := by
 unfold wf
 rw [IntKind.wrap_i64]
 omega
theorem wf_zero (k : IntKind) : wf k 0 := by unfold wf; cases k <;> decide
theorem wf_u8 {n : Int} : wf .u8 n ↔ 0 ≤ n ∧ n < 256 := by
 unfold wf IntKind.wrap
 simp only [IntKind.bits, IntKind.signed, Bool.false_and, Bool.false_eq_true, if_false]
 omega
theorem baOf_bsOf (s : ByteArray) : baOf (bsOf s) = s := by
 unfold baOf bsOf
 rw [List.map_map]
 have : (fun n : Int => UInt8.ofNat n.toNat) ∘ (fun b : UInt8 => (b.toNat : Int)) = id := by
  funext b
  simp
 rw [this, List.map_id]
theorem bytes_bsOf (s : ByteArray) : bytes (bsOf s) := fun x hx => by
 unfold bsOf at hx
 obtain ⟨b, _, rfl⟩ := List.mem_map.1 hx
 have := b.toNat_lt
 omega
theorem baOf_inj {a b : List Int} (ha : bytes a) (hb : bytes b) : baOf a = baOf b ↔ a = b := by
 refine ⟨fun h => ?_, fun h => by rw [h]⟩
 have h1 : (a.map fun n => UInt8.ofNat n.toNat) = b.map fun n => UInt8.ofNat n.toNat := by
  have := congrArg (fun s : ByteArray => s.data.toList) h
  simpa [baOf] using this
 have h2 := congrArg (fun l : List UInt8 => l.map fun b => (b.toNat : Int)) h1
 simp only [List.map_map] at h2
 have key : ∀ l : List Int, bytes l → l.map ((fun b : UInt8 => (b.toNat : Int)) ∘ fun n => UInt8.ofNat n.toNat) = l := fun l hl => by
  conv => rhs; rw [← List.map_id l]
  apply List.map_congr_left
  intro x hx
  have := hl x hx
  simp
  omega
 rwa [key a ha, key b hb] at h2
theorem baOf_size (a : List Int) : (baOf a).size = a.length := by simp [baOf, ByteArray.size]
theorem baOf_append (a b : List Int) : baOf a ++ baOf b = baOf (a ++ b) := by
 apply ByteArray.ext
 simp [baOf]
theorem beq_baOf {a b : List Int} (ha : bytes a) (hb : bytes b) : ((baOf a).toList == (baOf b).toList) = decide (a = b) := by
 rw [Bool.eq_iff_iff, beq_iff_eq, decide_eq_true_eq, ← baOf_inj ha hb]
 constructor
 ·intro h
  rw [Go.ByteArray.toList_eq, Go.ByteArray.toList_eq] at h
  exact ByteArray.ext (Array.ext' h)
 ·intro h; rw [h]
theorem bytes_append {a b : List Int} (ha : bytes a) (hb : bytes b) : bytes (a ++ b) := fun x hx => by
 rcases List.mem_append.1 hx with h | h
 ·exact ha x h
 ·exact hb x h
section
variable {loc : Loc} {fm : Fm} {lk : Lk}
theorem absV_ok (v : Value) : VR loc fm lk (absV v) v := by
 unfold absV
 split
 ·rfl
 ·rename_i k n
  split
  ·rename_i hd
   exact ⟨rfl, (of_decide_eq_true hd : k.wrap n = n)⟩
  ·exact VR_any _
 ·rename_i s
  exact ⟨by rw [baOf_bsOf], bytes_bsOf s⟩
 ·rfl
 ·rfl
 ·rfl
 ·rfl
 ·rfl
 ·exact VR_any _
theorem VR_int {l : Bool} {k : IntKind} {n : Int} {v : Value} (h : VR loc fm lk (.int l k n) v) : v = .int k n ∧ wf k n := by
 obtain ⟨h1, h2⟩ := (show [v] = [Value.int k n] ∧ wf k n from h)
 exact ⟨by simpa using h1, h2⟩
theorem VR_bool {l b : Bool} {v : Value} (h : VR loc fm lk (.bool l b) v) : v = .bool b := by
 have : [v] = [Value.bool b] := h
 simpa using this
theorem VR_str {l : Bool} {s : List Int} {v : Value} (h : VR loc fm lk (.str l s) v) : v = .string (baOf s) ∧ bytes s := by
 obtain ⟨h1, h2⟩ := (show [v] = [Value.string (baOf s)] ∧ bytes s from h)
 exact ⟨by simpa using h1, h2⟩
theorem VR_val {u v : Value} (h : VR loc fm lk (.val u) v) : v = u := by
 have : [v] = [u] := h
 simpa using this
theorem VR_ptr {id s i j : Nat} {l : Bool} {v : Value} (h : VR loc fm lk (.ptr id s i l j) v) : v = .pointer (some ⟨(loc id).blk, (loc id).base s + i * (loc id).st s + j, none⟩) ∧ (lk id).isSome = true := by
 obtain ⟨h1, h2⟩ := (show [v] = [Value.pointer (some ⟨(loc id).blk, (loc id).base s + i * (loc id).st s + j, none⟩)] ∧ (lk id).isSome = true from h)
 exact ⟨by simpa using h1, h2⟩
theorem VR_arr {lc : Bool} {k : IntKind} {n : Nat} {xs : List Int} {v : Value} (h : VR loc fm lk (.arr lc k n xs) v) : v = .agg (iv k xs).toArray ∧ xs.length = n ∧ wfs k xs := by
 obtain ⟨ds, h1, h2, h3, h4⟩ := (show ∃ ds : List Value, v = .agg ds.toArray ∧ ds = iv k xs ∧ xs.length = n ∧ wfs k xs from h)
 exact ⟨by rw [h1, h2], h3, h4⟩
theorem VR_map {id : Nat} {v : Value} (h : VR loc fm lk (.map id) v) : v = .map (some (loc id).blk) ∧ (lk id).isSome = true := by
 obtain ⟨h1, h2⟩ := (show [v] = [Value.map (some (loc id).blk)] ∧ (lk id).isSome = true from h)
 exact ⟨by simpa using h1, h2⟩
theorem VR_vec {id : Nat} {v : Value} (h : VR loc fm lk (.vec id) v) : ∃ a c, v = .slice a ((loc id).cnt 0) c ∧ (loc id).cnt 0 ≤ c ∧ c < lim63 ∧
   (c = 0 ∨ (a = some ⟨(loc id).blk, 0, none⟩ ∧ c * (loc id).st 0 ≤ (loc id).room ∧ (loc id).real = true)) ∧ (lk id).isSome = true := by
 obtain ⟨a, c, h1, h2⟩ := h
 exact ⟨a, c, by simpa using h1, h2⟩
theorem VR_slc {l : Bool} {id s off len : Nat} {cap : Option Nat} {v : Value} (h : VR loc fm lk (.slc l id s off len cap) v) : ∃ a c, v = .slice a len c ∧ len ≤ c ∧ c < lim63 ∧ CapOk (loc id) s off c cap ∧
   (0 < c → a = some ⟨(loc id).blk, (loc id).base s + off * (loc id).st s, none⟩) ∧ off + len ≤ (loc id).cnt s ∧ (lk id).isSome = true := by
 obtain ⟨a, c, h1, h2⟩ := h
 exact ⟨a, c, by simpa using h1, h2⟩
theorem VR_fzi {l : Bool} {k : IntKind} {xs : List Int} {v : Value} (h : VR loc fm lk (.fzi l k xs) v) : wfs k xs ∧ FzS fm xs.length (iv k xs) v := by
 obtain ⟨u, h1, h2⟩ := h
 simp only [List.cons.injEq, and_true] at h1
 subst h1
 exact h2
theorem VR_fz {c : Cd} {xs : List c.T} {v : Value} (h : VR loc fm lk (.fz c xs) v) : ∃ l, Els fm c xs l ∧ FzS fm xs.length l v := by
 obtain ⟨u, l, h1, h2⟩ := h
 simp only [List.cons.injEq, and_true] at h1
 subst h1
 exact ⟨l, h2⟩
theorem VR_fpt {x : A} {v : Value} (h : VR loc fm lk (.fpt x) v) : ∃ b o l m, v = .pointer (some ⟨b, o, none⟩) ∧ fm b = some l ∧ o + m ≤ l.length ∧ VC loc fm lk x ((l.drop o).take m) := by
 obtain ⟨b, o, l, m, h1, h2⟩ := h
 exact ⟨b, o, l, m, by simpa using h1, h2⟩
theorem VR_fn {f : FuncId} {x y : List A} {v : Value} (h : VR loc fm lk (.fn f x y) v) : ∃ us vs, v = .func (.func f) us.toArray vs.toArray ∧ VTs loc fm lk x us ∧ VTs loc fm lk y vs := by
 obtain ⟨us, vs, h1, h2⟩ := h
 exact ⟨us, vs, by simpa using h1, h2⟩
theorem VR_tup {x : List A} {v : Value} (h : VR loc fm lk (.tup x) v) : ∃ vs, v = .tuple vs.toArray ∧ VTs loc fm lk x vs := by
 obtain ⟨vs, h1, h2⟩ := h
 exact ⟨vs, by simpa using h1, h2⟩
theorem VR_ifc {t : TypeId} {x : A} {v : Value} (h : VR loc fm lk (.ifc t x) v) : ∃ u, v = .iface t u ∧ VR loc fm lk x u := by
 obtain ⟨u, h1, h2⟩ := h
 exact ⟨u, by simpa using h1, h2⟩
end
section
variable {C : Ctx} {n nid : Nat} {w : World} {B : Base} {loc : Loc} {fm : Fm} {tm : Nat → A} {lk : Lk} {a : Act} {o : Oper}
theorem RelL.ev (h : RelL C.gl B loc fm n tm lk a w) (x : Operand) : VR loc fm lk (ev C tm x) (a.eval x) := by
 cases x with
 | tmp t => exact h.getVR t
 | const v => exact absV_ok v
 | global g =>
  show VR loc fm lk (match Nat.ble (g + 1) C.gl.length with
   | true => .ptr g 0 0 true 0
   | false => .any) (a.eval (.global g))
  cases hg : Nat.ble (g + 1) C.gl.length with
  | false => exact VR_any _
  | true =>
   have hlt : g < C.gl.length := Nat.le_of_ble_eq_true hg
   obtain ⟨e, p⟩ := h.glob g C.gl[g] (List.getElem?_eq_getElem hlt)
   have : (loc g).blk = g ∧ (loc g).base 0 = 0 := by
    rw [e]
    cases C.gl[g] with
    | cells own t ps => exact ⟨rfl, rfl⟩
    | imap c M => exact ⟨rfl, rfl⟩
    | lmap l => exact ⟨rfl, rfl⟩
    | dead => exact ⟨rfl, rfl⟩
   show [a.eval (.global g)] = [Value.pointer (some ⟨(loc g).blk, (loc g).base 0 + 0 * (loc g).st 0 + 0, none⟩)] ∧ (lk g).isSome = true
   refine ⟨?_, by rw [p]; rfl⟩
   simp [Act.eval, this.1, this.2]
 | func f => exact ⟨[], [], rfl, rfl, rfl⟩
def Post (C : Ctx) (B : Base) (n : Nat) (tm : Nat → A) (lk : Lk) (a : Act) (dst : Option Tmp) (e : Eff) (v : Value) (w' : World) : Prop :=
 ∃ loc' fm', RelL C.gl B loc' fm' n (setT tm dst e.val) (updL lk e.puts) (a.put dst v) w'
theorem does_pure (h : RelL C.gl B loc fm n tm lk a w) (hd : ∀ d, o.dst = some d → d < n) {x : Value} {v : A} (hr : (execOp a.eval o).run C.P w = .ok (.value x) w) (hv : VR loc fm lk v x) :
  Does C.P o a w (Post C B n tm lk a o.dst ⟨v, []⟩) :=
 Or.inl ⟨x, w, hr, loc, fm, h.val o.dst hd hv⟩
theorem is_ret {v : A} {e : Eff} : (ret v).is e ↔ e = ⟨v, []⟩ := ⟨fun h => (Tr.is_leaf.1 h).symm, fun h => Tr.is_leaf.2 h.symm⟩
theorem is_retO {v : Option A} {e : Eff} : (retO v).is e ↔ ∃ x, v = some x ∧ e = ⟨x, []⟩ := by
 cases v with
 | none => exact ⟨fun h => h.elim, fun ⟨x, h, _⟩ => by cases h⟩
 | some x => exact ⟨fun h => ⟨x, rfl, is_ret.1 h⟩, fun ⟨y, h1, h2⟩ => by
   rw [Option.some.injEq] at h1
   subst h1
   exact is_ret.2 h2⟩
theorem numT_ok {l : Bool} {k : IntKind} {m : Int} {e : Eff} (h : (numT l k m).is e) : ∃ x, e = ⟨x, []⟩ ∧ VR loc fm lk x (.int k (k.wrap m)) := by
 unfold numT at h
 split at h
 ·obtain ⟨h1, h2⟩ := Tr.is_ob.1 h
  rw [is_ret] at h2
  exact ⟨_, h2, by rw [h1]; exact ⟨rfl, h1⟩⟩
 ·rw [is_ret] at h
  exact ⟨_, h, rfl, wf_wrap' _ _⟩
theorem arith_ok {op : BinOp} {l : Bool} {k : IntKind} {x y : Int} {e : Eff} (hs : isShift op = false) (hx : wf k x) (h : (arith op l k x y).is e) (t : TypeId) (w : World) :
  ∃ u v, e = ⟨v, []⟩ ∧ (binOp op t (.int k x) (.int k y)).run C.P w = .ok u w ∧ VR loc fm lk v u := by
 cases op <;> simp only [arith, isShift, reduceCtorEq] at h hs
 case add => obtain ⟨v, h1, h2⟩ := numT_ok (loc := loc) (fm := fm) (lk := lk) h; exact ⟨_, v, h1, by simp [binOp, Op.intArith], h2⟩
 case sub => obtain ⟨v, h1, h2⟩ := numT_ok (loc := loc) (fm := fm) (lk := lk) h; exact ⟨_, v, h1, by simp [binOp, Op.intArith], h2⟩
 case mul => obtain ⟨v, h1, h2⟩ := numT_ok (loc := loc) (fm := fm) (lk := lk) h; exact ⟨_, v, h1, by simp [binOp, Op.intArith], h2⟩
 case quo =>
  have key : y ≠ 0 ∧ ∃ l', e = ⟨.int l' k (k.wrap (x.tdiv y)), []⟩ := by
   cases l with
   | true =>
    obtain ⟨h1, h2⟩ := Tr.is_gd.1 h
    exact ⟨of_decide_eq_true h1, _, is_ret.1 h2⟩
   | false => exact ⟨h.1, _, is_ret.1 h.2⟩
  obtain ⟨hy, l', rfl⟩ := key
  exact ⟨_, _, rfl, by simp [binOp, Op.intDiv, hy], rfl, wf_wrap' _ _⟩
 case rem =>
  have key : y ≠ 0 ∧ ∃ l', e = ⟨.int l' k (x.tmod y), []⟩ := by
   cases l with
   | true =>
    obtain ⟨h1, h2⟩ := Tr.is_gd.1 h
    exact ⟨of_decide_eq_true h1, _, is_ret.1 h2⟩
   | false => exact ⟨h.1, _, is_ret.1 h.2⟩
  obtain ⟨hy, l', rfl⟩ := key
  exact ⟨_, _, rfl, by simp [binOp, Op.intDiv, hy], rfl, wf_between hx (tmod_between x y)⟩
 case andNot => rw [is_ret] at h; subst h; exact ⟨_, _, rfl, by simp [binOp, intBits_andNot], rfl, wf_wrap' _ _⟩
 case and => rw [is_ret] at h; subst h; exact ⟨_, _, rfl, by simp [binOp, intBits_and], rfl, wf_wrap' _ _⟩
 case or => rw [is_ret] at h; subst h; exact ⟨_, _, rfl, by simp [binOp, intBits_or], rfl, wf_wrap' _ _⟩
 case xor => rw [is_ret] at h; subst h; exact ⟨_, _, rfl, by simp [binOp, intBits_xor], rfl, wf_wrap' _ _⟩
 all_goals first
  | exact h.elim
  | (rw [is_ret] at h; subst h; exact ⟨_, _, rfl, by simp [binOp, Op.intCmp]; done, rfl⟩)
  | skip
theorem shiftT_ok {op : BinOp} {l : Bool} {k k' : IntKind} {x y : Int} {e : Eff} (hx : wf k x) (h : (shiftT op l k x y).is e) (t : TypeId) (w : World) :
  ∃ u v, e = ⟨v, []⟩ ∧ (binOp op t (.int k x) (.int k' y)).run C.P w = .ok u w ∧ VR loc fm lk v u := by
 unfold shiftT at h
 have shl : ∀ l', 0 ≤ y → e = ⟨.int l' k (k.wrap (x * 2 ^ min y.toNat k.bits)), []⟩ → ∃ u v, e = ⟨v, []⟩ ∧ (binOp .shl t (.int k x) (.int k' y)).run C.P w = .ok u w ∧ VR loc fm lk v u := fun l' h0 he => by
  subst he
  exact ⟨_, _, rfl, by simp [binOp, Op.shift, Int.not_lt.2 h0], rfl, wf_wrap' _ _⟩
 have shr : ∀ l', 0 ≤ y → e = ⟨.int l' k (x.fdiv (2 ^ min y.toNat k.bits)), []⟩ → ∃ u v, e = ⟨v, []⟩ ∧ (binOp .shr t (.int k x) (.int k' y)).run C.P w = .ok u w ∧ VR loc fm lk v u := fun l' h0 he => by
  subst he
  exact ⟨_, _, rfl, by simp [binOp, Op.shift, Int.not_lt.2 h0], rfl, wf_between hx (fdiv_between _ _)⟩
 split at h
 ·obtain ⟨h1, h2⟩ := Tr.is_gd.1 h
  exact shl _ (of_decide_eq_true h1) (is_ret.1 h2)
 ·exact shl _ h.1 (is_ret.1 h.2)
 ·obtain ⟨h1, h2⟩ := Tr.is_gd.1 h
  exact shr _ (of_decide_eq_true h1) (is_ret.1 h2)
 ·exact shr _ h.1 (is_ret.1 h.2)
 ·exact h.elim
end
end
section
section
variable {C : Ctx} {n nid : Nat} {w : World} {B : Base} {loc : Loc} {fm : Fm} {tm : Nat → A} {lk : Lk} {a : Act} {o : Oper}
theorem eqT_ok {op : BinOp} {l b : Bool} {e : Eff} (h : (eqT op l b).is e) : (op = .eql ∧ e = ⟨.bool l b, []⟩) ∨ (op = .neq ∧ e = ⟨.bool l (!b), []⟩) := by
 unfold eqT at h
 split at h
 ·exact Or.inl ⟨rfl, is_ret.1 h⟩
 ·exact Or.inr ⟨rfl, is_ret.1 h⟩
 ·exact h.elim
theorem does_eq (h : RelL C.gl B loc fm n tm lk a w) (hd : ∀ d, o.dst = some d → d < n) {op : BinOp} {t t' : TypeId} {x y : Operand} (ho : o.op = .binOp op t x y t') {l b : Bool} {e : Eff} (he : (eqT op l b).is e)
  (h1 : (binOp .eql t (a.eval x) (a.eval y)).run C.P w = .ok (.bool b) w) (h2 : (binOp .neq t (a.eval x) (a.eval y)).run C.P w = .ok (.bool (!b)) w) (hg : ∀ op, (eqGuard op t x y (a.eval x) (a.eval y)).run C.P w = .ok () w) :
  Does C.P o a w (Post C B n tm lk a o.dst e) := by
 rcases eqT_ok he with ⟨rfl, rfl⟩ | ⟨rfl, rfl⟩
 ·exact does_pure h hd (x := .bool b) (by simp [execOp, ho, hg, h1]) rfl
 ·exact does_pure h hd (x := .bool (!b)) (by simp [execOp, ho, hg, h2]) rfl
theorem part_int {e : TypeId} {k : IntKind} (hk : C.P.underlying e = some (.int k)) (q : List Int) (j : Nat) (hj : j < q.length) (w : World) : (part e (iv k q).toArray j).run C.P w = .ok (.int k q[j]) w := by
 simp [part, Go.isAgg, run_underlying hk, hj, iv]
theorem eqItems_int {e : TypeId} {k : IntKind} (hk : C.P.underlying e = some (.int k)) (d : Nat) (l l' : List Int) (hl : l.length = l'.length) (w : World) : ∀ (is : List Nat), (∀ j ∈ is, j < l.length) →
  (Op.eqItems (d + 1) e 1 (iv k l).toArray (iv k l').toArray is).run C.P w = .ok (is.all fun j => l.getD j 0 == l'.getD j 0) w
 | [], _ => by simp [Op.eqItems]
 | j :: is, h => by
  have h1 := h j (by simp)
  have h2 : j < l'.length := by omega
  have ih := eqItems_int hk d l l' hl w is (fun i hi => h i (by simp [hi]))
  simp only [Op.eqItems, Sem.run_bind, Nat.mul_one, part_int hk l j h1, part_int hk l' j h2, Result.andThen_ok, run_equalIn_int w d e k k l[j] l'[j] hk, Sem.run_ite, ih, List.all_cons]
  cases hq : (l[j] == l'[j]) <;> simp_all
theorem intT_ok {P : Program} {t : TypeId} {k : IntKind} (h : intT P t = some k) : P.underlying t = some (.int k) := by
 unfold intT at h
 split at h
 ·rename_i k' hu
  rw [Option.some.injEq] at h
  subst h
  exact hu
 ·cases h
theorem sizeT_ok {P : Program} {t : TypeId} {m : Nat} (h : sizeT P t = some m) : ∃ i, P.info? t = some i ∧ i.size = m := by
 unfold sizeT at h
 split at h
 ·rename_i i hi
  rw [Option.some.injEq] at h
  exact ⟨i, hi, h⟩
 ·cases h
theorem equal_agg {t e : TypeId} {m : Nat} {k : IntKind} (hu : C.P.underlying t = some (.array m e)) (hk : C.P.underlying e = some (.int k)) (hs : sizeT C.P e = some 1) (l l' : List Int) (hl : l.length = m) (hl' : l'.length = m) (w : World) :
  (Op.equal t (.agg (iv k l).toArray) (.agg (iv k l').toArray)).run C.P w = .ok (decide (l = l')) w := by
 obtain ⟨ie, hie, hse⟩ := sizeT_ok hs
 have hc : C.P.cellsOf e = 1 := by simp [Program.cellsOf, hie, hse]
 show (Op.equalIn (9999 + 1) t _ _).run C.P w = _
 rw [run_equalIn_array w 9999 _ _ hu hie, hc]
 rw [eqItems_int hk 9998 l l' (by omega) w (List.range m) (fun j hj => by have := List.mem_range.1 hj; omega)]
 congr 1
 rw [Bool.eq_iff_iff, List.all_eq_true, decide_eq_true_eq]
 constructor
 ·intro h
  apply List.ext_getElem (by omega)
  intro j h1 h2
  have := h j (List.mem_range.2 (by omega))
  simpa [List.getD, h1, h2] using this
 ·intro h j hj
  subst h
  simp
theorem aKind_ok {d : TypeDesc} {x : A} {v : Value} (hv : VR loc fm lk x v) (h : aKind d x = true) : (∃ e p, d = .pointer e ∧ v = .pointer (some p)) ∨ (∃ k e r, d = .map k e ∧ v = .map (some r)) ∨ (∃ p q r f u s, d = .func p q r ∧ v = .func f u s) ∨ (∃ ms t u, d = .interface ms ∧ v = .iface t u) := by
 unfold aKind at h
 split at h
 ·exact Or.inl ⟨_, _, rfl, (VR_ptr hv).1⟩
 ·obtain ⟨b, o, l, m, h1, _⟩ := VR_fpt hv
  exact Or.inl ⟨_, _, rfl, h1⟩
 ·exact Or.inr (Or.inl ⟨_, _, _, rfl, (VR_map hv).1⟩)
 ·obtain ⟨us, vs, h1, _⟩ := VR_fn hv
  exact Or.inr (Or.inr (Or.inl ⟨_, _, _, _, _, _, rfl, h1⟩))
 ·obtain ⟨u, h1, _⟩ := VR_ifc hv
  exact Or.inr (Or.inr (Or.inr ⟨_, _, _, rfl, h1⟩))
 ·cases h
theorem nilKind_ok {d : TypeDesc} {v : Value} (h : nilKind d v = true) : (∃ e, d = .pointer e ∧ v = .pointer none) ∨ (∃ k e, d = .map k e ∧ v = .map none) ∨ (∃ p q r, d = .func p q r ∧ v = .nilFunc) ∨ (∃ ms, d = .interface ms ∧ v = .nilIface) := by
 unfold nilKind at h
 split at h
 ·exact Or.inl ⟨_, rfl, rfl⟩
 ·exact Or.inr (Or.inl ⟨_, _, rfl, rfl⟩)
 ·exact Or.inr (Or.inr (Or.inl ⟨_, _, _, rfl, rfl⟩))
 ·exact Or.inr (Or.inr (Or.inr ⟨_, rfl, rfl⟩))
 ·cases h
theorem equalIn_nil {d : TypeDesc} {t : TypeId} {u : Value} {x : A} {v : Value} (hu : C.P.underlying t = some d) (hn : nilKind d u = true) (hk : aKind d x = true) (hv : VR loc fm lk x v) (w : World) :
  (Op.equalIn 10000 t u v).run C.P w = .ok false w ∧ (Op.equalIn 10000 t v u).run C.P w = .ok false w := by
 rcases nilKind_ok hn with ⟨e, rfl, rfl⟩ | ⟨k, e, rfl, rfl⟩ | ⟨p, q, r, rfl, rfl⟩ | ⟨ms, rfl, rfl⟩ <;>
  rcases aKind_ok hv hk with ⟨e', p', e1, rfl⟩ | ⟨k', e', r', e1, rfl⟩ | ⟨p', q', r', f', u', s', e1, rfl⟩ | ⟨ms', t', u', e1, rfl⟩ <;> first
  | (cases e1; done)
  | (constructor <;> (unfold Op.equalIn; simp [run_underlying hu]))
theorem equalIn_nils {d : TypeDesc} {t : TypeId} {u v : Value} (hu : C.P.underlying t = some d) (hn : nilKind d u = true) (hk : nilKind d v = true) (w : World) :
  (Op.equalIn 10000 t u v).run C.P w = .ok true w := by
 rcases nilKind_ok hn with ⟨e, rfl, rfl⟩ | ⟨k, e, rfl, rfl⟩ | ⟨p, q, r, rfl, rfl⟩ | ⟨ms, rfl, rfl⟩ <;>
  rcases nilKind_ok hk with ⟨e', e1, rfl⟩ | ⟨k', e', e1, rfl⟩ | ⟨p', q', r', e1, rfl⟩ | ⟨ms', e1, rfl⟩ <;> first
  | (cases e1; done)
  | (unfold Op.equalIn; simp [run_underlying hu])
theorem binT_ok (h : RelL C.gl B loc fm n tm lk a w) (hd : ∀ d, o.dst = some d → d < n) {op : BinOp} {t t' : TypeId} {x y : Operand} {e : Eff} (ho : o.op = .binOp op t x y t')
    (he : (binT C op t x y (ev C tm x) (ev C tm y)).is e) : Does C.P o a w (Post C B n tm lk a o.dst e) := by
  have hx := h.ev x
  have hy := h.ev y
  generalize ev C tm x = X at *
  generalize ev C tm y = Y at *
  have base : ∀ (v : A) (u : Value), e = ⟨v, []⟩ → (binOp op t (a.eval x) (a.eval y)).run C.P w = .ok u w → VR loc fm lk v u → (eqGuard op t x y (a.eval x) (a.eval y)).run C.P w = .ok () w →
      Does C.P o a w (Post C B n tm lk a o.dst e) := by
    intro v u he hr hv hg
    subst he
    exact does_pure h hd (x := u) (by simp [execOp, ho, hg, hr]) hv
  unfold binT at he
  split at he
  · rename_i l k p l' k' q
    obtain ⟨ex, wx⟩ := VR_int hx
    obtain ⟨ey, wy⟩ := VR_int hy
    split at he
    · obtain ⟨u, v, e1, hr, hu⟩ := shiftT_ok (C := C) (loc := loc) (fm := fm) (lk := lk) (k' := k') wx he t w
      exact base v u e1 (by rw [ex, ey]; exact hr) hu (by rw [ex]; simp [eqGuard_at_int])
    · rename_i hs
      obtain ⟨hkk, he1⟩ := Tr.is_gd.1 he
      have hkk := of_decide_eq_true hkk
      subst hkk
      obtain ⟨u, v, e1, hr, hu⟩ := arith_ok (C := C) (loc := loc) (fm := fm) (lk := lk) hs wx he1 t w
      exact base v u e1 (by rw [ex, ey]; exact hr) hu (by rw [ex]; simp [eqGuard_at_int])
  · rename_i l p l' q
    have ex := VR_bool hx
    have ey := VR_bool hy
    split at he
    · rename_i hu
      exact does_eq h hd ho he (by rw [ex, ey]; exact run_eql_bool w t p q hu) (by
        rw [ex, ey]
        have : (Op.equal t (.bool p) (.bool q)).run C.P w = .ok (p == q) w := run_equalIn_bool w 9999 t p q hu
        simp [binOp, this]) (fun op => by rw [ex]; simp [eqGuard_at_bool])
    · exact he.elim
  · rename_i l p l' q
    obtain ⟨ex, wx⟩ := VR_str hx
    obtain ⟨ey, wy⟩ := VR_str hy
    split at he
    · exact base _ (.bool (decide (p = q))) (is_ret.1 he) (by rw [ex, ey]; simp [binOp, Op.stringOp, beq_baOf wx wy]) rfl (by rw [ex]; simp [eqGuard_at_string])
    · exact base _ (.bool (!decide (p = q))) (is_ret.1 he) (by
        rw [ex, ey]
        have := beq_baOf wx wy
        simp only [binOp, Op.stringOp, this]
        rfl) rfl (by rw [ex]; simp [eqGuard_at_string])
    · obtain ⟨hl, he⟩ := Tr.is_ob.1 he
      refine base _ (.string (baOf (p ++ q))) (is_ret.1 he) ?_ ⟨rfl, bytes_append wx wy⟩ (by rw [ex]; simp [eqGuard_at_string])
      rw [ex, ey]
      have hk : ((baOf p).size : Int) + ((baOf q).size : Int) ≤ 9223372036854775807 := by
        rw [baOf_size, baOf_size]
        unfold lim63 at hl
        omega
      simp [binOp, Op.stringOp, hk, baOf_append]
    · exact he.elim
  · rename_i l k m p l' k' m' q
    obtain ⟨ex, lx, wx⟩ := VR_arr hx
    obtain ⟨ey, ly, wy⟩ := VR_arr hy
    split at he
    · rename_i mm ee hu
      obtain ⟨hb, he1⟩ := Tr.is_gd.1 he
      simp only [Bool.and_eq_true, Bool.not_eq_true'] at hb
      obtain ⟨⟨⟨⟨⟨b1, b2⟩, b3⟩, b4⟩, b5⟩, b6⟩ := hb
      have b1 := intT_ok (of_decide_eq_true b1)
      have b2 := of_decide_eq_true b2
      have b3 := Nat.eq_of_beq_eq_true b3
      have b4 := Nat.eq_of_beq_eq_true b4
      have b5 := of_decide_eq_true b5
      subst b2
      have key := equal_agg hu b1 b5 p q (by omega) (by omega) w
      exact does_eq h hd ho he1 (by rw [ex, ey]; simp [binOp, key]) (by rw [ex, ey]; simp [binOp, key]) (fun op => by rw [ex, ey]; exact run_eqGuard_agg w op t x y _ _ b6)
    · exact he.elim
  · rename_i u v
    have ex := VR_val hx
    have ey := VR_val hy
    split at he
    · rename_i d hu
      obtain ⟨hb, he⟩ := Tr.is_gd.1 he
      simp only [Bool.and_eq_true, Bool.or_eq_true] at hb
      obtain ⟨⟨b1, b2⟩, b3⟩ := hb
      have key : (Op.equal t u v).run C.P w = .ok true w := equalIn_nils hu b1 b2 w
      have hg : ∀ op, (eqGuard op t x y u v).run C.P w = .ok () w := fun op => by
        rcases nilKind_ok b1 with ⟨e1, rfl, rfl⟩ | ⟨k1, e1, rfl, rfl⟩ | ⟨p1, q1, r1, rfl, rfl⟩ | ⟨ms, rfl, rfl⟩
        · simp [eqGuard_at_pointer]
        · simp [eqGuard_at_map]
        · simp [eqGuard_at_nilFunc]
        · rcases nilKind_ok b2 with ⟨e1, e2, rfl⟩ | ⟨k1, e1, e2, rfl⟩ | ⟨p1, q1, r1, e2, rfl⟩ | ⟨ms, e2, rfl⟩ <;> first
            | (cases e2; done)
            | skip
          rcases b3 with b3 | b3
          · cases x with
            | const c => cases op <;> simp [eqGuard]
            | _ => cases b3
          · cases y with
            | const c => cases op <;> simp [eqGuard]
            | _ => cases b3
      refine does_eq h hd ho he ?_ ?_ (fun op => by rw [ex, ey]; exact hg op)
      · rw [ex, ey]
        rcases nilKind_ok b1 with ⟨e1, rfl, rfl⟩ | ⟨k1, e1, rfl, rfl⟩ | ⟨p1, q1, r1, rfl, rfl⟩ | ⟨ms, rfl, rfl⟩ <;>
          rcases nilKind_ok b2 with ⟨e1, e2, rfl⟩ | ⟨k1, e1, e2, rfl⟩ | ⟨p1, q1, r1, e2, rfl⟩ | ⟨ms, e2, rfl⟩ <;> first
          | (cases e2; done)
          | simp [binOp, key]
      · rw [ex, ey]
        rcases nilKind_ok b1 with ⟨e1, rfl, rfl⟩ | ⟨k1, e1, rfl, rfl⟩ | ⟨p1, q1, r1, rfl, rfl⟩ | ⟨ms, rfl, rfl⟩ <;>
          rcases nilKind_ok b2 with ⟨e1, e2, rfl⟩ | ⟨k1, e1, e2, rfl⟩ | ⟨p1, q1, r1, e2, rfl⟩ | ⟨ms, e2, rfl⟩ <;> first
          | (cases e2; done)
          | simp [binOp, key]
    · exact he.elim
  · rename_i u _
    have ex := VR_val hx
    split at he
    · rename_i d hu
      obtain ⟨hb, hE⟩ := Tr.is_gd.1 he
      simp only [Bool.and_eq_true] at hb
      have key : (Op.equal t u (a.eval y)).run C.P w = .ok false w := (equalIn_nil hu hb.1 hb.2 hy w).1
      rcases nilKind_ok hb.1 with ⟨e1, rfl, rfl⟩ | ⟨k1, e1, rfl, rfl⟩ | ⟨p1, q1, r1, rfl, rfl⟩ | ⟨ms, rfl, rfl⟩ <;>
        rcases aKind_ok hy hb.2 with ⟨e', p', e1, e2⟩ | ⟨k', e', r', e1, e2⟩ | ⟨p', q', r', f', u', s', e1, e2⟩ | ⟨ms', t', u', e1, e2⟩ <;> first
        | (cases e1; done)
        | (rw [e2] at key
           exact does_eq h hd ho hE (by rw [ex, e2]; simp [binOp, key]) (by rw [ex, e2]; simp [binOp, key]) (fun op => by rw [ex, e2]; cases op <;> simp [eqGuard]))
    · exact he.elim
  · rename_i u _
    have ey := VR_val hy
    split at he
    · rename_i d hu
      obtain ⟨hb, hE⟩ := Tr.is_gd.1 he
      simp only [Bool.and_eq_true] at hb
      have key : (Op.equal t (a.eval x) u).run C.P w = .ok false w := (equalIn_nil hu hb.1 hb.2 hx w).2
      rcases nilKind_ok hb.1 with ⟨e1, rfl, rfl⟩ | ⟨k1, e1, rfl, rfl⟩ | ⟨p1, q1, r1, rfl, rfl⟩ | ⟨ms, rfl, rfl⟩ <;>
        rcases aKind_ok hx hb.2 with ⟨e', p', e1, e2⟩ | ⟨k', e', r', e1, e2⟩ | ⟨p', q', r', f', u', s', e1, e2⟩ | ⟨ms', t', u', e1, e2⟩ <;> first
        | (cases e1; done)
        | (rw [e2] at key
           exact does_eq h hd ho hE (by rw [ey, e2]; simp [binOp, key]) (by rw [ey, e2]; simp [binOp, key]) (fun op => by rw [ey, e2]; cases op <;> simp [eqGuard]))
    · exact he.elim
  · exact he.elim
theorem unT_ok (h : RelL C.gl B loc fm n tm lk a w) (hd : ∀ d, o.dst = some d → d < n) {op : UnOp} {t : TypeId} {x : Operand} {e : Eff} (ho : o.op = .unOp op t x) (he : (unT op (ev C tm x)).is e) :
  Does C.P o a w (Post C B n tm lk a o.dst e) := by
 have hx := h.ev x
 generalize ev C tm x = X at *
 unfold unT at he
 split at he
 ·rename_i l b
  have ex := VR_bool hx
  rw [is_ret] at he
  subst he
  exact does_pure h hd (x := .bool (!b)) (by simp [execOp, ho, ex, Op.unary]) rfl
 ·rename_i l k m
  obtain ⟨ex, wx⟩ := VR_int hx
  obtain ⟨v, rfl, hv⟩ := numT_ok (loc := loc) (fm := fm) (lk := lk) he
  exact does_pure h hd (x := .int k (k.wrap (0 - m))) (by simp [execOp, ho, ex, Op.unary, Op.intArith]) hv
 ·rename_i l k m
  obtain ⟨ex, wx⟩ := VR_int hx
  rw [is_ret] at he
  subst he
  exact does_pure h hd (x := .int k (bits .xor k (if k.signed then -1 else k.max) m)) (by simp [execOp, ho, ex, Op.unary, intBits_xor]) ⟨rfl, by unfold bits; exact wf_wrap' _ _⟩
 ·exact he.elim
end
end
section
section
variable {loc : Loc} {fm : Fm} {lk : Lk}
def Flat (l : List A) : Prop := ∀ a ∈ l, ∀ q, a ≠ .agg q
theorem VC.len {x : A} {cs : List Value} (h : VC loc fm lk x cs) (hx : ∀ q, x ≠ .agg q) : cs.length = wA x := by
 cases hx' : aggA x with
 | false =>
  have := VC.len1 x cs h hx'
  cases x <;> first | exact this | cases hx'
 | true =>
  cases x with
  | agg q => exact absurd rfl (hx q)
  | arr lc k m xs => rw [show cs = iv k xs from h.1, iv_length]; exact h.2.1
  | arrc c m xs => rw [Els.length _ _ h.1, h.2]; rfl
  | _ => cases hx'
theorem dA_ok : ∀ (d : D) (cs : List Value), VD fm d cs → VC loc fm lk (dA d) cs
 | .int _ _, _, h => h
 | .bool _, _, h => h
 | .arr _ _ _, _, h => h
 | .nil, _, h => h
 | .ints _ _, _, h => h
 | .rngs xs, cs, ⟨v, h1, h2, h3⟩ => by
  refine ⟨v, xs.flatMap rngC, h1, ?_, h3⟩
  clear h3
  induction xs with
  | nil => rfl
  | cons r xs ih =>
   refine ⟨rngC r, xs.flatMap rngC, rfl, ?_, rfl, ih (fun q hq => h2 q (List.mem_cons_of_mem _ hq))⟩
   have := h2 r (List.mem_cons_self ..)
   exact ⟨[.int .i64 r.a], [.int .i64 r.b], rfl, ⟨rfl, this.1⟩, [.int .i64 r.b], [], rfl, ⟨rfl, this.2⟩, rfl⟩
 | .toks xs, cs, ⟨v, h1, h2, h3⟩ => by
  refine ⟨v, xs.flatMap (iv .u8), h1, ?_, h3⟩
  clear h3
  induction xs with
  | nil => rfl
  | cons r xs ih =>
   have := h2 r (List.mem_cons_self ..)
   refine ⟨iv .u8 r, xs.flatMap (iv .u8), rfl, ?_, by rw [iv_length, this.1]; rfl, ih (fun q hq => h2 q (List.mem_cons_of_mem _ hq))⟩
   exact ⟨iv .u8 r, [], by simp, ⟨rfl, this.1, this.2⟩, rfl⟩
theorem dAs_ok : ∀ (ds : List D) (cs : List Value), VDs fm ds cs → VCs loc fm lk (ds.map dA) cs
 | [], _, h => h
 | d :: r, _, ⟨c1, c2, h1, h2, h3⟩ => ⟨c1, c2, h1, dA_ok d _ h2, dAs_ok r _ h3⟩
theorem dA_flat (ds : List D) : Flat (ds.map dA) := fun a ha q => by
 obtain ⟨d, _, rfl⟩ := List.mem_map.1 ha
 cases d <;> simp [dA]
theorem Flat.tail {a : A} {l : List A} (h : Flat (a :: l)) : Flat l := fun b hb => h b (List.mem_cons_of_mem _ hb)
theorem dropC_ok : ∀ (l : List A) (j : Nat) (l' : List A) (cs : List Value), Flat l → VCs loc fm lk l cs → dropC j l = some l' → VCs loc fm lk l' (cs.drop j) ∧ Flat l'
 | l, 0, l', cs, hf, hv, h => by
  cases l <;> (simp only [dropC, Option.some.injEq] at h; subst h; exact ⟨by simpa using hv, hf⟩)
 | [], j + 1, l', cs, _, _, h => by simp [dropC] at h
 | a :: l, j + 1, l', cs, hf, ⟨c1, c2, h1, h2, h3⟩, h => by
  simp only [dropC] at h
  split at h
  ·rename_i hb
   have hb := Nat.le_of_ble_eq_true hb
   have hl := h2.len (hf a (List.mem_cons_self ..))
   obtain ⟨e1, e2⟩ := dropC_ok l _ l' c2 hf.tail h3 h
   refine ⟨?_, e2⟩
   rw [h1, List.drop_append]
   rw [List.drop_of_length_le (by omega), List.nil_append, hl]
   exact e1
  ·cases h
theorem takeC_ok : ∀ (l : List A) (n : Nat) (l' : List A) (cs : List Value), Flat l → VCs loc fm lk l cs → takeC n l = some l' → VCs loc fm lk l' (cs.take n) ∧ Flat l' ∧ n ≤ cs.length
 | l, 0, l', cs, _, _, h => by
  cases l <;> (simp only [takeC, Option.some.injEq] at h; subst h; exact ⟨by simp [VCs], fun _ h => (by cases h), Nat.zero_le _⟩)
 | [], j + 1, l', cs, _, _, h => by simp [takeC] at h
 | a :: l, n + 1, l', cs, hf, ⟨c1, c2, h1, h2, h3⟩, h => by
  simp only [takeC] at h
  split at h
  ·rename_i hb
   have hb := Nat.le_of_ble_eq_true hb
   have hl := h2.len (hf a (List.mem_cons_self ..))
   split at h
   ·rename_i r hr
    rw [Option.some.injEq] at h
    subst h
    obtain ⟨e1, e2, e3⟩ := takeC_ok l _ r c2 hf.tail h3 hr
    refine ⟨⟨c1, c2.take (n + 1 - wA a), ?_, h2, e1⟩, ?_, by rw [h1, List.length_append]; omega⟩
    ·rw [h1, List.take_append, List.take_of_length_le (by omega), hl]
    ·intro b hb'
     rcases List.mem_cons.1 hb' with rfl | hb'
     ·exact hf _ (List.mem_cons_self ..)
     ·exact e2 b hb'
   ·cases h
  ·cases h
theorem mkAgg_ok {l : List A} {cs : List Value} (h : VCs loc fm lk l cs) : VR loc fm lk (mkAgg l) (.agg cs.toArray) := by
 unfold mkAgg
 split
 ·obtain ⟨c1, c2, h1, h2, h3⟩ := h
  have h3 : c2 = [] := h3
  subst h3
  rw [List.append_nil] at h1
  rw [h1]
  exact ⟨c1, rfl, h2⟩
 ·obtain ⟨c1, c2, h1, h2, h3⟩ := h
  have h3 : c2 = [] := h3
  subst h3
  rw [List.append_nil] at h1
  rw [h1]
  exact ⟨c1, rfl, h2⟩
 ·exact ⟨cs, rfl, h⟩
def LdOk (loc : Loc) (fm : Fm) (lk : Lk) (agg : Bool) (off m : Nat) (cs : List Value) (x : A) : Prop :=
 match agg with
 | true => ∃ c : List Value, c.length = m ∧ (∀ j u, c[j]? = some u → cs[off + j]? = some u) ∧ VR loc fm lk x (.agg c.toArray)
 | false => ∃ u, cs[off]? = some u ∧ VR loc fm lk x u
theorem take_get {cs : List Value} {off m j : Nat} {u : Value} (h : ((cs.drop off).take m)[j]? = some u) : cs[off + j]? = some u := by
 rw [List.getElem?_take] at h
 split at h
 ·rwa [List.getElem?_drop] at h
 ·cases h
theorem partC_ok {agg : Bool} {j m : Nat} {l : List A} {x : A} {cs : List Value} (hf : Flat l) (hv : VCs loc fm lk l cs) (h : partC agg j m l = some x) : LdOk loc fm lk agg j m cs x := by
 unfold partC at h
 split at h
 ·rename_i l' hl'
  obtain ⟨h1, h2⟩ := dropC_ok l j l' cs hf hv hl'
  cases agg with
  | true =>
   simp only at h
   split at h
   ·rename_i r hr
    rw [Option.some.injEq] at h
    subst h
    obtain ⟨e1, e2, e3⟩ := takeC_ok l' m r _ h2 h1 hr
    exact ⟨_, by rw [List.length_take]; omega, fun q u hq => take_get hq, mkAgg_ok e1⟩
   ·cases h
  | false =>
   simp only at h
   split at h
   ·rename_i lc k n' xs r
    split at h
    ·rename_i hb
     have hb := Nat.le_of_ble_eq_true hb
     rw [Option.some.injEq] at h
     subst h
     obtain ⟨c1, c2, e1, e2, e3⟩ := h1
     obtain ⟨e4, e5, e6⟩ := (show c1 = iv k xs ∧ xs.length = n' ∧ wfs k xs from e2)
     cases xs with
     | nil => simp at e5; omega
     | cons y ys =>
      subst e4
      refine ⟨.int k y, ?_, rfl, e6 y (List.mem_cons_self ..)⟩
      have := congrArg (fun q : List Value => q[0]?) e1
      simpa [iv] using this
    ·cases h
   ·cases h
   ·rename_i a' r hna hnb
    rw [Option.some.injEq] at h
    subst h
    obtain ⟨c1, c2, e1, e2, e3⟩ := h1
    have ha : aggA a' = false := by
     cases a' with
     | agg q => exact absurd rfl (h2 _ (List.mem_cons_self ..) q)
     | arr lc k n' xs => exact (hna lc k n' xs rfl).elim
     | arrc c n' xs => exact (hnb c n' xs rfl).elim
     | _ => rfl
    have hl := VC.len1 _ _ e2 ha
    match c1, hl with
    | [u], _ =>
     refine ⟨u, ?_, ?_⟩
     ·have := congrArg (fun q : List Value => q[0]?) e1
      simpa using this
     ·unfold VR
      rw [ha]
      exact e2
   ·cases h
 ·cases h
theorem PcsOk.split : ∀ (ps : List Pc) (s : Nat) (cs : List Value), PcsOk loc fm lk ps cs → ∃ c1 c2, cs = c1 ++ c2 ∧ c1.length = baseL ps s ∧ PcsOk loc fm lk (ps.take s) c1 ∧ PcsOk loc fm lk (ps.drop s) c2
 | ps, 0, cs, h => ⟨[], cs, rfl, by simp [baseL, wPs], by simp [PcsOk], by simpa using h⟩
 | [], s + 1, cs, h => ⟨[], cs, rfl, by simp [baseL, wPs], by simp [PcsOk], by simpa using h⟩
 | p :: ps, s + 1, cs, ⟨c1, c2, h1, h2, h3⟩ => by
  obtain ⟨d1, d2, e1, e2, e3, e4⟩ := PcsOk.split ps s c2 h3
  refine ⟨c1 ++ d1, d2, by rw [h1, e1, List.append_assoc], ?_, ⟨c1, d1, rfl, h2, e3⟩, e4⟩
  rw [List.length_append, e2, PcOk.length p _ h2]
  rfl
theorem PcsOk.join : ∀ (ps qs : List Pc) (c1 c2 : List Value), PcsOk loc fm lk ps c1 → PcsOk loc fm lk qs c2 → PcsOk loc fm lk (ps ++ qs) (c1 ++ c2)
 | [], qs, c1, c2, h, h' => by
  have h : c1 = [] := h
  subst h
  exact h'
 | p :: ps, qs, _, c2, ⟨d1, d2, e1, e2, e3⟩, h' => ⟨d1, d2 ++ c2, by rw [e1, List.append_assoc], e2, PcsOk.join ps qs d2 c2 e3 h'⟩
theorem pcA_ok {p : Pc} {x : A} {cs : List Value} (h : PcOk loc fm lk p cs) (hp : pcA p = some x) : VC loc fm lk x cs ∧ (∀ q, x ≠ .agg q) ∧ cs.length = wA x ∧ wA x = wP p := by
 cases p with
 | one a =>
  simp only [pcA, Option.some.injEq] at hp
  subst hp
  have hl := VC.len1 _ _ h.1 h.2
  have hw : wA a = 1 := by
   have := h.2
   cases a <;> first | rfl | cases this
  refine ⟨h.1, fun q e => ?_, by rw [hl, hw], hw⟩
  rw [e] at h
  cases h.2
 | row ln lc k m xs =>
  simp only [pcA, Option.some.injEq] at hp
  subst hp
  exact ⟨h, fun q e => (by cases e), by rw [PcOk.length _ _ h]; rfl, rfl⟩
 | lst ln c m xs =>
  simp only [pcA, Option.some.injEq] at hp
  subst hp
  exact ⟨h, fun q e => (by cases e), by rw [PcOk.length _ _ h]; rfl, rfl⟩
 | ones l => cases hp
theorem takeP_ok : ∀ (ps : List Pc) (n : Nat) (l : List A) (cs : List Value), PcsOk loc fm lk ps cs → takeP n ps = some l → VCs loc fm lk l (cs.take n) ∧ n ≤ cs.length
 | ps, 0, l, cs, _, h => by
  cases ps <;> (simp only [takeP, Option.some.injEq] at h; subst h; exact ⟨by simp [VCs], Nat.zero_le _⟩)
 | [], n + 1, l, cs, _, h => by simp [takeP] at h
 | p :: ps, n + 1, l, cs, ⟨c1, c2, h1, h2, h3⟩, h => by
  simp only [takeP] at h
  split at h
  ·rename_i x hx hb
   have hb := Nat.le_of_ble_eq_true hb
   split at h
   ·rename_i r hr
    rw [Option.some.injEq] at h
    subst h
    obtain ⟨e1, e2⟩ := takeP_ok ps _ r c2 h3 hr
    have hl := PcOk.length p _ h2
    exact ⟨⟨c1, c2.take (n + 1 - wP p), by rw [h1, List.take_append, List.take_of_length_le (by omega), hl], (pcA_ok h2 hx).1, e1⟩, by rw [h1, List.length_append]; omega⟩
   ·cases h
  ·cases h
theorem Els.get {c : Cd} : ∀ (xs : List c.T) (i : Nat) (x : c.T) (cs : List Value), Els fm c xs cs → xs[i]? = some x → ∃ d1 d2 d3, cs = d1 ++ d2 ++ d3 ∧ d1.length = i * c.w ∧ d2.length = c.w ∧ VDs fm (c.enc x) d2 ∧ Els fm c (xs.take i) d1 ∧ Els fm c (xs.drop (i + 1)) d3
 | [], i, x, cs, _, h => by simp at h
 | y :: xs, 0, x, cs, ⟨c1, c2, h1, h2, h3, h4⟩, h => by
  simp only [List.getElem?_cons_zero, Option.some.injEq] at h
  subst h
  exact ⟨[], c1, c2, h1, by simp, h3, h2, rfl, h4⟩
 | y :: xs, i + 1, x, cs, ⟨c1, c2, h1, h2, h3, h4⟩, h => by
  obtain ⟨d1, d2, d3, e1, e2, e3, e4, e5, e6⟩ := Els.get xs i x c2 h4 (by simpa using h)
  exact ⟨c1 ++ d1, d2, d3, by rw [h1, e1]; simp, by rw [List.length_append, e2, h3, Nat.add_mul, Nat.one_mul, Nat.add_comm], e3, e4, ⟨c1, d1, rfl, h2, h3, e5⟩, e6⟩
theorem Els.join {c : Cd} : ∀ (xs ys : List c.T) (c1 c2 : List Value), Els fm c xs c1 → Els fm c ys c2 → Els fm c (xs ++ ys) (c1 ++ c2)
 | [], ys, c1, c2, h, h' => by
  have h : c1 = [] := h
  subst h
  exact h'
 | x :: xs, ys, _, c2, ⟨d1, d2, e1, e2, e3, e4⟩, h' => ⟨d1, d2 ++ c2, by rw [e1, List.append_assoc], e2, e3, Els.join xs ys d2 c2 e4 h'⟩
theorem VCs.get1 : ∀ (l : List A) (cs : List Value) (i : Nat) (x : A), VCs loc fm lk l cs → (∀ a ∈ l, aggA a = false) → l[i]? = some x → ∃ u, cs[i]? = some u ∧ VC loc fm lk x [u]
 | [], _, i, x, _, _, h => by simp at h
 | a :: l, _, 0, x, ⟨c1, c2, h1, h2, _⟩, ha, h => by
  simp only [List.getElem?_cons_zero, Option.some.injEq] at h
  subst h
  have hl := VC.len1 a c1 h2 (ha a (List.mem_cons_self ..))
  match c1, hl with
  | [u], _ => exact ⟨u, by rw [h1]; rfl, h2⟩
 | a :: l, _, i + 1, x, ⟨c1, c2, h1, h2, h3⟩, ha, h => by
  have hl := VC.len1 a c1 h2 (ha a (List.mem_cons_self ..))
  obtain ⟨u, e1, e2⟩ := VCs.get1 l c2 i x h3 (fun b hb => ha b (List.mem_cons_of_mem _ hb)) (by simpa using h)
  match c1, hl with
  | [v], _ => exact ⟨u, by rw [h1]; simpa using e1, e2⟩
theorem VCs.set1 : ∀ (l : List A) (cs : List Value) (i : Nat) (x : A) (u : Value), VCs loc fm lk l cs → (∀ a ∈ l, aggA a = false) → VC loc fm lk x [u] → VCs loc fm lk (l.set i x) (cs.set i u)
 | [], _, i, x, u, h, _, _ => by rw [show _ = [] from h]; exact rfl
 | a :: l, _, 0, x, u, ⟨c1, c2, h1, h2, h3⟩, ha, hx => by
  have hl := VC.len1 a c1 h2 (ha a (List.mem_cons_self ..))
  match c1, hl with
  | [v], _ => exact ⟨[u], c2, by rw [h1]; rfl, hx, h3⟩
 | a :: l, _, i + 1, x, u, ⟨c1, c2, h1, h2, h3⟩, ha, hx => by
  have hl := VC.len1 a c1 h2 (ha a (List.mem_cons_self ..))
  have ih := VCs.set1 l c2 i x u h3 (fun b hb => ha b (List.mem_cons_of_mem _ hb)) hx
  match c1, hl with
  | [v], _ => exact ⟨[v], c2.set i u, by rw [h1]; rfl, h2, ih⟩
theorem ldP_ok {agg : Bool} {m s i j : Nat} {l : Bool} {ps : List Pc} {x : A} {cs : List Value} (hp : PcsOk loc fm lk ps cs) (h : (ldP agg m ps s i l j).is x) : LdOk loc fm lk agg (baseL ps s + i * stL ps s + j) m cs x := by
 obtain ⟨c1, c2, e1, e2, _, e4⟩ := PcsOk.split ps s cs hp
 have up : ∀ off, LdOk loc fm lk agg off m c2 x → LdOk loc fm lk agg (baseL ps s + off) m cs x := fun off hL => by
  have key : ∀ q u, c2[q]? = some u → cs[baseL ps s + q]? = some u := fun q u hq => by
   rw [e1, List.getElem?_append_right (by omega), ← e2, Nat.add_sub_cancel_left]
   exact hq
  cases agg with
  | true =>
   obtain ⟨c, f1, f2, f3⟩ := hL
   exact ⟨c, f1, fun q u hq => by rw [Nat.add_assoc]; exact key _ _ (f2 q u hq), f3⟩
  | false =>
   obtain ⟨u, f1, f2⟩ := hL
   exact ⟨u, key _ _ f1, f2⟩
 have whole : ∀ q, takeP m (ps.drop s) = some q → agg = true → i = 0 → j = 0 → mkAgg q = x → LdOk loc fm lk agg (baseL ps s + i * stL ps s + j) m cs x := fun q hq ha hi hj hx => by
  subst ha hi hj hx
  obtain ⟨f1, f2⟩ := takeP_ok _ _ _ _ e4 hq
  rw [Nat.zero_mul, Nat.add_zero]
  refine up 0 ⟨c2.take m, by rw [List.length_take]; omega, fun q u hq => ?_, mkAgg_ok f1⟩
  have := take_get (off := 0) (by simpa using hq)
  exact this
 unfold ldP at h
 split at h
 ·exact h.elim
 ·rename_i b r hps
  obtain ⟨hg, h⟩ := Tr.is_gd.1 h
  simp only [Bool.and_eq_true] at hg
  have hi := Nat.eq_of_beq_eq_true hg.1.2
  have hj := Nat.eq_of_beq_eq_true hg.2
  cases agg with
  | false =>
   have h : b = x := h
   subst h hi hj
   rw [hps] at e4
   obtain ⟨d1, d2, f1, f2, f3⟩ := e4
   have hl := VC.len1 _ _ f2.1 f2.2
   match d1, hl with
   | [u], _ =>
    rw [Nat.zero_mul, Nat.add_zero]
    refine up 0 ⟨u, by rw [f1]; rfl, ?_⟩
    unfold VR
    rw [f2.2]
    exact f2.1
  | true =>
   simp only at h
   split at h
   ·rename_i q hq
    rw [← hps] at hq
    exact whole q hq rfl hi hj h
   ·exact h.elim
 ·rename_i ln lc k m' xs r hps
  obtain ⟨hg, h⟩ := Tr.is_gd.1 h
  have hj := Nat.eq_of_beq_eq_true hg
  have hst : stL ps s = 1 := by
   have : ps[s]? = some (.row ln lc k m' xs) := by
    have := congrArg (fun q : List Pc => q[0]?) hps
    simpa using this
   simp [stL, this, stOf]
  have e4' := e4
  rw [hps] at e4'
  obtain ⟨d1, d2, f1, ⟨f2, f3, f4⟩, f5⟩ := e4'
  cases agg with
  | false =>
   obtain ⟨hlt, h⟩ := Tr.is_lt.1 h
   have h : A.int (l && lc) k (xs.getD i 0) = x := h
   subst h hj
   rw [hst, Nat.mul_one, Nat.add_zero]
   have hi : i < xs.length := by omega
   refine up i ⟨.int k xs[i], by rw [f1, f2, List.getElem?_append_left (by rw [iv_length]; exact hi)]; simp [iv, hi], ?_, ?_⟩
   ·simp [hi]
   ·simp only [List.getD_eq_getElem?_getD, List.getElem?_eq_getElem hi, Option.getD_some]
    exact f4 _ (List.getElem_mem hi)
  | true =>
   simp only at h
   split at h
   ·rename_i hc
    simp only [Bool.and_eq_true] at hc
    have hi := Nat.eq_of_beq_eq_true hc.1.2
    split at h
    ·rename_i q hq
     rw [← hps] at hq
     exact whole q hq rfl hi hj h
    ·exact h.elim
   ·obtain ⟨hle, h⟩ := Tr.is_le.1 h
    have h : A.arr (l && lc) k m ((xs.drop i).take m) = x := h
    subst h hj
    rw [hst, Nat.mul_one, Nat.add_zero]
    have hlen : ((xs.drop i).take m).length = m := by rw [List.length_take, List.length_drop]; omega
    refine up i ⟨iv k ((xs.drop i).take m), by rw [iv_length, hlen], fun q u hq => ?_, _, rfl, rfl, hlen, fun y hy => f4 y (List.mem_of_mem_drop (List.mem_of_mem_take hy))⟩
    rw [iv, List.getElem?_map, Option.map_eq_some_iff] at hq
    obtain ⟨y, hy, rfl⟩ := hq
    rw [List.getElem?_take] at hy
    split at hy
    ·rw [List.getElem?_drop] at hy
     have hlt : i + q < xs.length := (List.getElem?_eq_some_iff.1 hy).1
     rw [f1, f2, List.getElem?_append_left (by rw [iv_length]; exact hlt), iv, List.getElem?_map, hy]
     rfl
    ·cases hy
 ·rename_i ln c m' xs r hps
  rw [Tr.is_opt] at h
  split at h
  ·exact h.elim
  ·rename_i y hy
   have hst : stL ps s = c.w := by
    have : ps[s]? = some (.lst ln c m' xs) := by
     have := congrArg (fun q : List Pc => q[0]?) hps
     simpa using this
    simp [stL, this, stOf]
   rw [hps] at e4
   obtain ⟨d1, d2, f1, ⟨f2, f3⟩, f5⟩ := e4
   split at h
   ·rename_i x' hx'
    have h : x' = x := h
    subst h
    obtain ⟨g1, g2, g3, k1, k2, k3, k4, _, _⟩ := Els.get xs i y d1 f2 hy
    have hL := partC_ok (dA_flat _) (dAs_ok (loc := loc) (lk := lk) _ _ k4) hx'
    have key : ∀ q u, g2[q]? = some u → c2[i * c.w + q]? = some u := fun q u hq => by
     rw [f1, k1, List.append_assoc, List.append_assoc, List.getElem?_append_right (by omega), k2, Nat.add_sub_cancel_left, List.getElem?_append_left (List.getElem?_eq_some_iff.1 hq).1]
     exact hq
    rw [hst, Nat.add_assoc]
    refine up _ ?_
    cases agg with
    | true =>
     obtain ⟨c0, n1, n2, n3⟩ := hL
     exact ⟨c0, n1, fun q u hq => by rw [Nat.add_assoc]; exact key _ _ (n2 q u hq), n3⟩
    | false =>
     obtain ⟨u, n1, n2⟩ := hL
     exact ⟨u, key _ _ n1, n2⟩
   ·exact h.elim
 ·rename_i q r hps
  replace h := Tr.is_gd.1 h
  obtain ⟨hg, h⟩ := h
  simp only [Bool.and_eq_true] at hg
  have hj := Nat.eq_of_beq_eq_true hg.1.2
  cases agg with
  | true => exact absurd hg.2 (by decide)
  | false =>
   split at h
   ·rename_i y hy
    have h : y = x := h
    subst h hj
    have hst : stL ps s = 1 := by
     have : ps[s]? = some (.ones q) := by
      have := congrArg (fun q : List Pc => q[0]?) hps
      simpa using this
     simp [stL, this, stOf]
    rw [hps] at e4
    obtain ⟨d1, d2, f1, ⟨f2, f3⟩, f5⟩ := e4
    obtain ⟨u, g1, g2⟩ := VCs.get1 q d1 i y f2 f3 hy
    rw [hst, Nat.mul_one, Nat.add_zero]
    refine up i ⟨u, by rw [f1, List.getElem?_append_left (List.getElem?_eq_some_iff.1 g1).1]; exact g1, ?_⟩
    unfold VR
    rw [f3 _ (List.mem_of_getElem? hy)]
    exact g2
   ·exact h.elim
end
end
section
section
variable {loc : Loc} {fm : Fm} {lk : Lk}
theorem VCs_append : ∀ (l m : List A) (c d : List Value), VCs loc fm lk l c → VCs loc fm lk m d → VCs loc fm lk (l ++ m) (c ++ d)
 | [], m, c, d, h, h' => by
  have h : c = [] := h
  subst h
  exact h'
 | x :: l, m, _, d, ⟨c1, c2, h1, h2, h3⟩, h' => ⟨c1, c2 ++ d, by rw [h1, List.append_assoc], h2, VCs_append l m c2 d h3 h'⟩
mutual
theorem flatA_ok : ∀ (x : A) (cs : List Value), VC loc fm lk x cs → VCs loc fm lk (flatA x) cs
 | .agg l, cs, h => flatL_ok l cs h
 | .any, cs, h => ⟨cs, [], by simp, h, rfl⟩
 | .undef, cs, h => ⟨cs, [], by simp, h, rfl⟩
 | .bool _ _, cs, h => ⟨cs, [], by simp, h, rfl⟩
 | .int _ _ _, cs, h => ⟨cs, [], by simp, h, rfl⟩
 | .str _ _, cs, h => ⟨cs, [], by simp, h, rfl⟩
 | .val _, cs, h => ⟨cs, [], by simp, h, rfl⟩
 | .ptr _ _ _ _ _, cs, h => ⟨cs, [], by simp, h, rfl⟩
 | .slc _ _ _ _ _ _, cs, h => ⟨cs, [], by simp, h, rfl⟩
 | .vec _, cs, h => ⟨cs, [], by simp, h, rfl⟩
 | .fzi _ _ _, cs, h => ⟨cs, [], by simp, h, rfl⟩
 | .fz _ _, cs, h => ⟨cs, [], by simp, h, rfl⟩
 | .fpt _, cs, h => ⟨cs, [], by simp, h, rfl⟩
 | .map _, cs, h => ⟨cs, [], by simp, h, rfl⟩
 | .fn _ _ _, cs, h => ⟨cs, [], by simp, h, rfl⟩
 | .ifc _ _, cs, h => ⟨cs, [], by simp, h, rfl⟩
 | .arr _ _ _ _, cs, h => ⟨cs, [], by simp, h, rfl⟩
 | .arrc _ _ _, cs, h => ⟨cs, [], by simp, h, rfl⟩
 | .tup _, cs, h => ⟨cs, [], by simp, h, rfl⟩
theorem flatL_ok : ∀ (l : List A) (cs : List Value), VCs loc fm lk l cs → VCs loc fm lk (flatA.flatL l) cs
 | [], _, h => h
 | x :: l, cs, ⟨c1, c2, h1, h2, h3⟩ => by
  rw [h1]
  exact VCs_append _ _ _ _ (flatA_ok x c1 h2) (flatL_ok l c2 h3)
end
mutual
theorem flatA_flat : ∀ x : A, Flat (flatA x)
 | .agg l => flatL_flat l
 | .any => fun a ha q => by rw [List.mem_singleton.1 ha]; exact fun e => by cases e
 | .undef => fun a ha q => by rw [List.mem_singleton.1 ha]; exact fun e => by cases e
 | .bool _ _ => fun a ha q => by rw [List.mem_singleton.1 ha]; exact fun e => by cases e
 | .int _ _ _ => fun a ha q => by rw [List.mem_singleton.1 ha]; exact fun e => by cases e
 | .str _ _ => fun a ha q => by rw [List.mem_singleton.1 ha]; exact fun e => by cases e
 | .val _ => fun a ha q => by rw [List.mem_singleton.1 ha]; exact fun e => by cases e
 | .ptr _ _ _ _ _ => fun a ha q => by rw [List.mem_singleton.1 ha]; exact fun e => by cases e
 | .slc _ _ _ _ _ _ => fun a ha q => by rw [List.mem_singleton.1 ha]; exact fun e => by cases e
 | .vec _ => fun a ha q => by rw [List.mem_singleton.1 ha]; exact fun e => by cases e
 | .fzi _ _ _ => fun a ha q => by rw [List.mem_singleton.1 ha]; exact fun e => by cases e
 | .fz _ _ => fun a ha q => by rw [List.mem_singleton.1 ha]; exact fun e => by cases e
 | .fpt _ => fun a ha q => by rw [List.mem_singleton.1 ha]; exact fun e => by cases e
 | .map _ => fun a ha q => by rw [List.mem_singleton.1 ha]; exact fun e => by cases e
 | .fn _ _ _ => fun a ha q => by rw [List.mem_singleton.1 ha]; exact fun e => by cases e
 | .ifc _ _ => fun a ha q => by rw [List.mem_singleton.1 ha]; exact fun e => by cases e
 | .arr _ _ _ _ => fun a ha q => by rw [List.mem_singleton.1 ha]; exact fun e => by cases e
 | .arrc _ _ _ => fun a ha q => by rw [List.mem_singleton.1 ha]; exact fun e => by cases e
 | .tup _ => fun a ha q => by rw [List.mem_singleton.1 ha]; exact fun e => by cases e
theorem flatL_flat : ∀ l : List A, Flat (flatA.flatL l)
 | [] => fun a ha => by cases ha
 | x :: l => fun a ha => by
  rcases List.mem_append.1 ha with h | h
  ·exact flatA_flat x a h
  ·exact flatL_flat l a h
end
theorem VCs_len : ∀ (l : List A) (cs : List Value), Flat l → VCs loc fm lk l cs → cs.length = wAs l
 | [], cs, _, h => by rw [show cs = [] from h]; rfl
 | x :: l, cs, hf, ⟨c1, c2, h1, h2, h3⟩ => by
  rw [h1, List.length_append, h2.len (hf x (List.mem_cons_self ..)), VCs_len l c2 hf.tail h3]
  rfl
theorem flat_len {x : A} {cs : List Value} (h : VC loc fm lk x cs) : cs.length = wAs (flatA x) := VCs_len _ _ (flatA_flat x) (flatA_ok x cs h)
theorem VD.ones0 {d : D} {cs : List Value} (h : VD fm d cs) : ∀ u ∈ cs, u.oneCell' = true := by
 cases d with
 | int k n => rw [show cs = _ from h.1]; simp [Value.oneCell']
 | bool b => rw [show cs = _ from h]; simp [Value.oneCell']
 | arr k n xs =>
  rw [h.1]
  intro u hu
  obtain ⟨x, _, rfl⟩ := List.mem_map.1 hu
  rfl
 | nil => rw [show cs = _ from h]; simp [Value.oneCell']
 | ints k xs => obtain ⟨v, rfl, _, ad, c, rfl, _⟩ := h; simp [Value.oneCell']
 | rngs xs => obtain ⟨v, rfl, _, ad, c, rfl, _⟩ := h; simp [Value.oneCell']
 | toks xs => obtain ⟨v, rfl, _, ad, c, rfl, _⟩ := h; simp [Value.oneCell']
theorem VDs.ones0 : ∀ (ds : List D) (cs : List Value), VDs fm ds cs → ∀ u ∈ cs, u.oneCell' = true
 | [], cs, h, u, hu => by rw [show cs = [] from h] at hu; cases hu
 | d :: ds, cs, ⟨c1, c2, e, h1, h2⟩, u, hu => by
  rw [e] at hu
  rcases List.mem_append.1 hu with hu | hu
  ·exact h1.ones0 u hu
  ·exact VDs.ones0 ds c2 h2 u hu
theorem Els.ones0 {c : Cd} : ∀ (xs : List c.T) (cs : List Value), Els fm c xs cs → ∀ u ∈ cs, u.oneCell' = true
 | [], cs, h, u, hu => by rw [show cs = [] from h] at hu; cases hu
 | x :: xs, cs, ⟨c1, c2, e, h1, _, h2⟩, u, hu => by
  rw [e] at hu
  rcases List.mem_append.1 hu with hu | hu
  ·exact VDs.ones0 _ _ h1 u hu
  ·exact Els.ones0 xs c2 h2 u hu
theorem one_of_cellV {x : A} {cs : List Value} (h : VC loc fm lk x cs) (hx : cellV x = true) : ∀ u ∈ cs, u.oneCell' = true := by
 cases x with
 | any => cases hx
 | undef => cases hx
 | bool l b => rw [show cs = _ from h]; simp [Value.oneCell']
 | int l k m => rw [show cs = _ from h.1]; simp [Value.oneCell']
 | str l s => rw [show cs = _ from h.1]; simp [Value.oneCell']
 | val v =>
  rw [show cs = _ from h]
  simp only [cellV, nilAny] at hx
  split at hx <;> simp_all [Value.oneCell']
 | ptr id s i l j => rw [show cs = _ from h.1]; simp [Value.oneCell']
 | slc l id s off len cap => obtain ⟨a, c, h1, _⟩ := h; rw [h1]; simp [Value.oneCell']
 | vec id => obtain ⟨a, c, h1, _⟩ := h; rw [h1]; simp [Value.oneCell']
 | fzi l k xs => obtain ⟨v, h1, _, a, c, h2, _⟩ := h; rw [h1, h2]; simp [Value.oneCell']
 | fz c xs => obtain ⟨v, l, h1, _, a, c, h2, _⟩ := h; rw [h1, h2]; simp [Value.oneCell']
 | fpt a => obtain ⟨b, o, l, m, h1, _⟩ := h; rw [h1]; simp [Value.oneCell']
 | map id => rw [show cs = _ from h.1]; simp [Value.oneCell']
 | fn f p q => obtain ⟨us, vs, h1, _⟩ := h; rw [h1]; simp [Value.oneCell']
 | ifc t v => obtain ⟨u, h1, _⟩ := h; rw [h1]; simp [Value.oneCell']
 | agg l => cases hx
 | arr lc k m xs =>
  rw [show cs = _ from h.1]
  intro u hu
  obtain ⟨y, _, rfl⟩ := List.mem_map.1 hu
  rfl
 | arrc c m xs => exact Els.ones0 xs cs h.1
 | tup l => cases hx
theorem ones_of_cellV : ∀ (l : List A) (cs : List Value), VCs loc fm lk l cs → l.all cellV = true → ∀ u ∈ cs, u.oneCell' = true
 | [], cs, h, _, u, hu => by rw [show cs = [] from h] at hu; cases hu
 | x :: l, cs, ⟨c1, c2, h1, h2, h3⟩, ha, u, hu => by
  rw [List.all_cons, Bool.and_eq_true] at ha
  rw [h1] at hu
  rcases List.mem_append.1 hu with hu | hu
  ·exact one_of_cellV h2 ha.1 u hu
  ·exact ones_of_cellV l c2 h3 ha.2 u hu
theorem VR_cells {x : A} {v : Value} (h : VR loc fm lk x v) (hx : cellsV x = true) : VC loc fm lk x v.cells.toList := by
 cases ha : aggA x with
 | true =>
  unfold VR at h
  rw [ha] at h
  obtain ⟨ds, rfl, h2⟩ := h
  exact h2
 | false =>
  unfold VR at h
  rw [ha] at h
  have hc : cellV x = true := by
   have : flatA x = [x] := by cases x <;> first | rfl | cases ha
   rw [cellsV, this] at hx
   simpa using hx
  have h1 := one_of_cellV h hc v (List.mem_singleton.2 rfl)
  have : v.cells.toList = [v] := by cases v <;> first | rfl | cases h1
  rw [this]
  exact h
theorem Els_rng : ∀ (xs : List Rng) (l : List Value), Els fm .rng xs l → l = xs.flatMap rngC ∧ ∀ r ∈ xs, wfR r
 | [], l, h => ⟨h, fun _ h => by cases h⟩
 | r :: xs, l, ⟨c1, c2, h1, h2, _, h4⟩ => by
  obtain ⟨e1, e2⟩ := Els_rng xs c2 h4
  obtain ⟨d1, d2, f1, ⟨f2, f3⟩, d3, d4, f4, ⟨f5, f6⟩, f7⟩ := h2
  have f7 : d4 = [] := f7
  refine ⟨by rw [h1, f1, f2, f4, f5, f7, e1]; rfl, fun q hq => ?_⟩
  rcases List.mem_cons.1 hq with rfl | hq
  ·exact ⟨f3, f6⟩
  ·exact e2 q hq
theorem Els_tok : ∀ (xs : List (List Int)) (l : List Value), Els fm .tok xs l → l = xs.flatMap (iv .u8) ∧ ∀ t ∈ xs, t.length = 8 ∧ wfs .u8 t
 | [], l, h => ⟨h, fun _ h => by cases h⟩
 | r :: xs, l, ⟨c1, c2, h1, h2, _, h4⟩ => by
  obtain ⟨e1, e2⟩ := Els_tok xs c2 h4
  obtain ⟨d1, d2, f1, ⟨f2, f3⟩, f7⟩ := h2
  have f7 : d2 = [] := f7
  refine ⟨by rw [h1, f1, f2, f7, e1]; simp, fun q hq => ?_⟩
  rcases List.mem_cons.1 hq with rfl | hq
  ·exact f3
  ·exact e2 q hq
theorem aD_ok {x : A} {d : D} {cs : List Value} (h : aD x = some d) (hv : VC loc fm lk x cs) : VD fm d cs := by
  unfold aD at h
  split at h <;> first
    | (cases h; done)
    | (simp only [Option.some.injEq] at h; subst h; first
        | exact hv
        | (obtain ⟨v, l, h1, h2, h3⟩ := hv
           first
            | (obtain ⟨e1, e2⟩ := Els_rng _ _ h2; subst e1; exact ⟨v, h1, e2, h3⟩)
            | (obtain ⟨e1, e2⟩ := Els_tok _ _ h2; subst e1; exact ⟨v, h1, e2, h3⟩)))
theorem allSome_spec {α : Type} : ∀ (l : List (Option α)) (r : List α), allSome l = some r → l = r.map some
 | [], r, h => by simp only [allSome, Option.some.injEq] at h; subst h; rfl
 | none :: _, r, h => by cases h
 | some x :: l, r, h => by
  simp only [allSome] at h
  split at h
  ·rename_i q hq
   rw [Option.some.injEq] at h
   subst h
   rw [allSome_spec l q hq]
   rfl
  ·cases h
theorem aDs_ok : ∀ (l : List A) (ds : List D) (cs : List Value), l.map aD = ds.map some → VCs loc fm lk l cs → VDs fm ds cs
 | [], [], cs, _, h => h
 | [], _ :: _, cs, h, _ => by cases h
 | _ :: _, [], cs, h, _ => by cases h
 | x :: l, d :: ds, cs, h, ⟨c1, c2, h1, h2, h3⟩ => by
  simp only [List.map_cons, List.cons.injEq] at h
  exact ⟨c1, c2, h1, aD_ok h.1 h2, aDs_ok l ds c2 h.2 h3⟩
theorem VD.len {d : D} {cs : List Value} (h : VD fm d cs) : cs.length = wD d := by
 cases d with
 | int k n => rw [show cs = _ from h.1]; rfl
 | bool b => rw [show cs = _ from h]; rfl
 | arr k n xs => rw [show cs = _ from h.1, iv_length]; exact h.2.1
 | nil => rw [show cs = _ from h]; rfl
 | ints k xs => obtain ⟨v, h1, _⟩ := h; rw [h1]; rfl
 | rngs xs => obtain ⟨v, h1, _⟩ := h; rw [h1]; rfl
 | toks xs => obtain ⟨v, h1, _⟩ := h; rw [h1]; rfl
theorem VDs_append : ∀ (l m : List D) (c d : List Value), VDs fm l c → VDs fm m d → VDs fm (l ++ m) (c ++ d)
 | [], m, c, d, h, h' => by
  have h : c = [] := h
  subst h
  exact h'
 | x :: l, m, _, d, ⟨c1, c2, h1, h2, h3⟩, h' => ⟨c1, c2 ++ d, by rw [h1, List.append_assoc], h2, VDs_append l m c2 d h3 h'⟩
theorem splitD_ok : ∀ (l : List D) (j : Nat) (p q : List D) (cs : List Value), splitD j l = some (p, q) → VDs fm l cs → ∃ c1 c2, cs = c1 ++ c2 ∧ c1.length = j ∧ VDs fm p c1 ∧ VDs fm q c2
 | l, 0, p, q, cs, h, hv => by
  cases l <;> (simp only [splitD, Option.some.injEq, Prod.mk.injEq] at h; obtain ⟨rfl, rfl⟩ := h; exact ⟨[], cs, rfl, rfl, rfl, hv⟩)
 | [], j + 1, p, q, cs, h, _ => by simp [splitD] at h
 | d :: l, j + 1, p, q, cs, h, ⟨c1, c2, h1, h2, h3⟩ => by
  simp only [splitD] at h
  split at h
  ·rename_i hb
   have hb := Nat.le_of_ble_eq_true hb
   split at h
   ·rename_i p' q' hr
    simp only [Option.some.injEq, Prod.mk.injEq] at h
    obtain ⟨rfl, rfl⟩ := h
    obtain ⟨d1, d2, e1, e2, e3, e4⟩ := splitD_ok l _ p' q' c2 hr h3
    refine ⟨c1 ++ d1, d2, by rw [h1, e1, List.append_assoc], ?_, ⟨c1, d1, rfl, h2, e3⟩, e4⟩
    rw [List.length_append, e2, h2.len]
    omega
   ·cases h
  ·cases h
theorem replD_ok : ∀ (ds l l' : List D) (c cs : List Value), replD ds l = some l' → VDs fm ds c → VDs fm l cs → c.length ≤ cs.length ∧ VDs fm l' (c ++ cs.drop c.length)
 | [], l, l', c, cs, h, hc, hv => by
  have hc : c = [] := hc
  simp only [replD, Option.some.injEq] at h
  subst h hc
  exact ⟨Nat.zero_le _, by simpa using hv⟩
 | d :: ds, [], l', c, cs, h, _, _ => by simp [replD] at h
 | d :: ds, e :: l, l', c, cs, h, ⟨c1, c2, h1, h2, h3⟩, ⟨d1, d2, k1, k2, k3⟩ => by
  simp only [replD] at h
  split at h
  ·rename_i q hb hq
   rw [Option.some.injEq] at h
   subst h
   have hb := Nat.eq_of_beq_eq_true hb
   have hl : c1.length = d1.length := by rw [h2.len, k2.len, hb]
   obtain ⟨e1, e2⟩ := replD_ok ds l q c2 d2 hq h3 k3
   refine ⟨by rw [h1, k1, List.length_append, List.length_append]; omega, c1, c2 ++ d2.drop c2.length, ?_, h2, e2⟩
   rw [h1, k1, List.append_assoc, List.length_append, List.drop_append, List.drop_of_length_le (by omega), List.nil_append]
   congr 3
   omega
  ·cases h
theorem setDs_ok {j : Nat} {ds l l' : List D} {c cs : List Value} (h : setDs j ds l = some l') (hc : VDs fm ds c) (hv : VDs fm l cs) : j + c.length ≤ cs.length ∧ VDs fm l' (ovL cs j c) := by
 unfold setDs at h
 split at h
 ·rename_i p q hs
  split at h
  ·rename_i q' hr
   rw [Option.some.injEq] at h
   subst h
   obtain ⟨c1, c2, e1, e2, e3, e4⟩ := splitD_ok l j p q cs hs hv
   obtain ⟨k1, k2⟩ := replD_ok ds q q' c c2 hr hc e4
   refine ⟨by rw [e1, List.length_append]; omega, ?_⟩
   have : ovL cs j c = c1 ++ (c ++ c2.drop c.length) := by
    unfold ovL
    rw [e1, ← e2, List.take_left, ← List.drop_drop, List.drop_left, List.append_assoc]
   rw [this]
   exact VDs_append _ _ _ _ e3 k2
  ·cases h
 ·cases h
theorem dI_ok {d : D} {n : Int} {cs : List Value} (h : dI d = some n) (hv : VD fm d cs) : VD fm (.int .i64 n) cs := by
 unfold dI at h
 split at h
 ·rw [Option.some.injEq] at h; subst h; exact hv
 ·cases h
theorem dB_ok {d : D} {b : Bool} {cs : List Value} (h : dB d = some b) (hv : VD fm d cs) : VD fm (.bool b) cs := by
 unfold dB at h
 split at h
 ·rw [Option.some.injEq] at h; subst h; exact hv
 ·cases h
theorem dTok_ok {d : D} {xs : List Int} {cs : List Value} (h : dTok d = some xs) (hv : VD fm d cs) : VD fm (.arr .u8 8 xs) cs := by
 unfold dTok at h
 split at h
 ·rw [Option.some.injEq] at h; subst h; exact hv
 ·cases h
theorem FzS.nil : FzS fm 0 [] (.slice none 0 0) := ⟨none, 0, rfl, Nat.le_refl _, by decide, fun h => absurd h (Nat.lt_irrefl _)⟩
theorem dInts_ok {d : D} {xs : List Int} {cs : List Value} (h : dInts d = some xs) (hv : VD fm d cs) : VD fm (.ints .u8 xs) cs := by
 unfold dInts at h
 split at h
 ·rw [Option.some.injEq] at h; subst h; exact ⟨_, hv, fun _ h => (by cases h), FzS.nil⟩
 ·rw [Option.some.injEq] at h; subst h; exact hv
 ·cases h
theorem dRngs_ok {d : D} {xs : List Rng} {cs : List Value} (h : dRngs d = some xs) (hv : VD fm d cs) : VD fm (.rngs xs) cs := by
 unfold dRngs at h
 split at h
 ·rw [Option.some.injEq] at h; subst h; exact ⟨_, hv, fun _ h => (by cases h), FzS.nil⟩
 ·rw [Option.some.injEq] at h; subst h; exact hv
 ·cases h
theorem dToks_ok {d : D} {xs : List (List Int)} {cs : List Value} (h : dToks d = some xs) (hv : VD fm d cs) : VD fm (.toks xs) cs := by
 unfold dToks at h
 split at h
 ·rw [Option.some.injEq] at h; subst h; exact ⟨_, hv, fun _ h => (by cases h), FzS.nil⟩
 ·rw [Option.some.injEq] at h; subst h; exact hv
 ·cases h
theorem ap_some {α β : Type} {f : Option (α → β)} {x : Option α} {y : β} (h : ap f x = some y) : ∃ g z, f = some g ∧ x = some z ∧ y = g z := by
 cases f with
 | none => cases h
 | some g =>
  cases x with
  | none => cases h
  | some z =>
   simp only [ap, Option.some.injEq] at h
   exact ⟨g, z, rfl, rfl, h.symm⟩
theorem dec_ok {c : Cd} {ds : List D} {x : c.T} {cs : List Value} (h : c.dec ds = some x) (hv : VDs fm ds cs) : VDs fm (c.enc x) cs := by
 unfold Cd.dec at h
 split at h
 ·obtain ⟨c1, c2, h1, h2, h3⟩ := hv
  exact ⟨c1, c2, h1, dI_ok h h2, h3⟩
 ·obtain ⟨c1, c2, h1, h2, c3, c4, h3, h4, h5⟩ := hv
  obtain ⟨g, z, e1, e2, rfl⟩ := ap_some h
  obtain ⟨g', z', e3, e4, rfl⟩ := ap_some e1
  cases e3
  exact ⟨c1, c2, h1, dI_ok e4 h2, c3, c4, h3, dI_ok e2 h4, h5⟩
 ·obtain ⟨c1, c2, h1, h2, h3⟩ := hv
  exact ⟨c1, c2, h1, dInts_ok h h2, h3⟩
 ·obtain ⟨c1, c2, h1, h2, h3⟩ := hv
  exact ⟨c1, c2, h1, dTok_ok h h2, h3⟩
 ·obtain ⟨c1, c2, h1, h2, c3, c4, h3, h4, c5, c6, h5, h6, h7⟩ := hv
  obtain ⟨g, z, e1, e2, rfl⟩ := ap_some h
  obtain ⟨g', z', e3, e4, rfl⟩ := ap_some e1
  obtain ⟨g'', z'', e5, e6, rfl⟩ := ap_some e3
  cases e5
  exact ⟨c1, c2, h1, dI_ok e6 h2, c3, c4, h3, dI_ok e4 h4, c5, c6, h5, dRngs_ok e2 h6, h7⟩
 ·obtain ⟨c1, c2, h1, h2, c3, c4, h3, h4, h5⟩ := hv
  obtain ⟨g, z, e1, e2, rfl⟩ := ap_some h
  obtain ⟨g', z', e3, e4, rfl⟩ := ap_some e1
  cases e3
  exact ⟨c1, c2, h1, dI_ok e4 h2, c3, c4, h3, dInts_ok e2 h4, h5⟩
 ·obtain ⟨c1, c2, h1, h2, c3, c4, h3, h4, c5, c6, h5, h6, c7, c8, h7, h8, c9, c10, h9, h10, c11, c12, h11, h12, h13⟩ := hv
  obtain ⟨g, z, e1, e2, rfl⟩ := ap_some h
  obtain ⟨g', z', e3, e4, rfl⟩ := ap_some e1
  obtain ⟨g'', z'', e5, e6, rfl⟩ := ap_some e3
  obtain ⟨g3, z3, e7, e8, rfl⟩ := ap_some e5
  obtain ⟨g4, z4, e9, e10, rfl⟩ := ap_some e7
  obtain ⟨g5, z5, e11, e12, rfl⟩ := ap_some e9
  cases e11
  exact ⟨c1, c2, h1, dI_ok e12 h2, c3, c4, h3, dI_ok e10 h4, c5, c6, h5, dI_ok e8 h6, c7, c8, h7, dRngs_ok e6 h8, c9, c10, h9, dInts_ok e4 h10, c11, c12, h11, dTok_ok e2 h12, h13⟩
 ·obtain ⟨c1, c2, h1, h2, c3, c4, h3, h4, c5, c6, h5, h6, c7, c8, h7, h8, c9, c10, h9, h10, c11, c12, h11, h12, h13⟩ := hv
  obtain ⟨g, z, e1, e2, rfl⟩ := ap_some h
  obtain ⟨g', z', e3, e4, rfl⟩ := ap_some e1
  obtain ⟨g'', z'', e5, e6, rfl⟩ := ap_some e3
  obtain ⟨g3, z3, e7, e8, rfl⟩ := ap_some e5
  obtain ⟨g4, z4, e9, e10, rfl⟩ := ap_some e7
  obtain ⟨g5, z5, e11, e12, rfl⟩ := ap_some e9
  cases e11
  exact ⟨c1, c2, h1, dI_ok e12 h2, c3, c4, h3, dI_ok e10 h4, c5, c6, h5, dI_ok e8 h6, c7, c8, h7, dI_ok e6 h8, c9, c10, h9, dI_ok e4 h10, c11, c12, h11, dInts_ok e2 h12, h13⟩
 ·obtain ⟨c1, c2, h1, h2, c3, c4, h3, h4, c5, c6, h5, h6, c7, c8, h7, h8, c9, c10, h9, h10, h11⟩ := hv
  obtain ⟨g, z, e1, e2, rfl⟩ := ap_some h
  obtain ⟨g', z', e3, e4, rfl⟩ := ap_some e1
  obtain ⟨g'', z'', e5, e6, rfl⟩ := ap_some e3
  obtain ⟨g3, z3, e7, e8, rfl⟩ := ap_some e5
  obtain ⟨g4, z4, e9, e10, rfl⟩ := ap_some e7
  cases e9
  exact ⟨c1, c2, h1, dI_ok e10 h2, c3, c4, h3, dI_ok e8 h4, c5, c6, h5, dI_ok e6 h6, c7, c8, h7, dI_ok e4 h8, c9, c10, h9, dTok_ok e2 h10, h11⟩
 ·obtain ⟨c1, c2, h1, h2, c3, c4, h3, h4, c5, c6, h5, h6, h7⟩ := hv
  obtain ⟨g, z, e1, e2, rfl⟩ := ap_some h
  obtain ⟨g', z', e3, e4, rfl⟩ := ap_some e1
  obtain ⟨g'', z'', e5, e6, rfl⟩ := ap_some e3
  cases e5
  exact ⟨c1, c2, h1, dI_ok e6 h2, c3, c4, h3, dI_ok e4 h4, c5, c6, h5, dInts_ok e2 h6, h7⟩
 ·obtain ⟨c1, c2, h1, h2, c3, c4, h3, h4, c5, c6, h5, h6, h7⟩ := hv
  obtain ⟨g, z, e1, e2, rfl⟩ := ap_some h
  obtain ⟨g', z', e3, e4, rfl⟩ := ap_some e1
  obtain ⟨g'', z'', e5, e6, rfl⟩ := ap_some e3
  cases e5
  exact ⟨c1, c2, h1, dToks_ok e6 h2, c3, c4, h3, dB_ok e4 h4, c5, c6, h5, dB_ok e2 h6, h7⟩
 ·exfalso
  cases c <;> (rcases ds with _ | ⟨d1, _ | ⟨d2, _ | ⟨d3, _ | ⟨d4, _ | ⟨d5, _ | ⟨d6, _ | ⟨d7, ds⟩⟩⟩⟩⟩⟩⟩) <;> first
   | (cases h; done)
   | (simp_all; done)
   | (simp_all; rename_i hx; exact hx _ _ _ _ _ _ rfl rfl rfl rfl rfl rfl)
   | (simp_all; rename_i hx; exact hx _ _ _ _ _ rfl rfl rfl rfl rfl)
end
end
section
def Like (p q : Pc) : Prop :=
 match p, q with
 | .one _, .one _ => True
 | .row _ _ k n _, .row _ _ k' n' _ => k = k' ∧ n = n'
 | .lst _ c n _, .lst _ c' n' _ => c = c' ∧ n = n'
 | .ones l, .ones l' => l.length = l'.length
 | _, _ => False
def Likes : List Pc → List Pc → Prop
 | [], [] => True
 | p :: ps, q :: qs => Like p q ∧ Likes ps qs
 | _, _ => False
theorem Like.refl (p : Pc) : Like p p := by
 cases p with
 | one a => trivial
 | row ln lc k n xs => exact ⟨rfl, rfl⟩
 | lst ln c n xs => exact ⟨rfl, rfl⟩
 | ones l => rfl
theorem Likes.refl : ∀ ps : List Pc, Likes ps ps
 | [] => trivial
 | p :: ps => ⟨Like.refl p, Likes.refl ps⟩
theorem Like.facts {p q : Pc} (h : Like p q) : wP p = wP q ∧ stOf p = stOf q ∧ cntOf p = cntOf q := by
 cases p <;> cases q <;> first
  | (cases h; done)
  | exact ⟨rfl, rfl, rfl⟩
  | (obtain ⟨rfl, rfl⟩ := h; exact ⟨rfl, rfl, rfl⟩)
  | exact ⟨h, rfl, h⟩
theorem Likes.base : ∀ {ps qs : List Pc}, Likes ps qs → ∀ s, baseL ps s = baseL qs s ∧ stL ps s = stL qs s ∧ cntL ps s = cntL qs s
 | [], [], _, s => ⟨rfl, rfl, rfl⟩
 | [], _ :: _, h, _ => h.elim
 | _ :: _, [], h, _ => h.elim
 | p :: ps, q :: qs, h, 0 => by
  obtain ⟨h1, h2, h3⟩ := h.1.facts
  exact ⟨rfl, by simp [stL, h2], by simp [cntL, h3]⟩
 | p :: ps, q :: qs, h, s + 1 => by
  obtain ⟨h1, h2, h3⟩ := h.1.facts
  obtain ⟨e1, e2, e3⟩ := Likes.base h.2 s
  refine ⟨?_, by simpa [stL] using e2, by simpa [cntL] using e3⟩
  show wP p + baseL ps s = wP q + baseL qs s
  rw [h1, e1]
theorem Likes.lies {ps qs : List Pc} (h : Likes ps qs) {q : Spot} (hl : Lies ps q) : Lies qs q :=
 ⟨by rw [hl.base]; funext s; exact (h.base s).1, by rw [hl.st]; funext s; exact (h.base s).2.1, by rw [hl.cnt]; funext s; exact (h.base s).2.2⟩
theorem Likes.rest {fm : Fm} : ∀ {ps qs : List Pc}, Likes ps qs → ∀ r, RestOk fm ps r → RestOk fm qs r
 | [], [], _, _, h => h
 | [], _ :: _, h, _, _ => h.elim
 | _ :: _, [], h, _, _ => h.elim
 | [p], [q], h, r, hr => by
  have h := h.1
  cases p <;> cases q <;> first
   | (cases h; done)
   | trivial
   | (obtain ⟨rfl, rfl⟩ := h; exact hr)
 | [_], _ :: _ :: _, h, _, _ => h.2.elim
 | _ :: _ :: _, [_], h, _, _ => h.2.elim
 | p :: _ :: _, q :: _ :: _, _, _, _ => by cases q <;> trivial
theorem Likes.lst : ∀ {ps qs : List Pc}, Likes ps qs → lstB qs = lstB ps
 | [], [], _ => rfl
 | [], _ :: _, h => h.elim
 | _ :: _, [], h => h.elim
 | [p], [q], h => by
  have h := h.1
  cases p <;> cases q <;> first
   | (cases h; done)
   | rfl
 | [_], _ :: _ :: _, h => h.2.elim
 | _ :: _ :: _, [_], h => h.2.elim
 | p :: _ :: _, q :: _ :: _, _ => by cases p <;> cases q <;> rfl
theorem Likes.join : ∀ {a b c d : List Pc}, Likes a b → Likes c d → Likes (a ++ c) (b ++ d)
 | [], [], _, _, _, h => h
 | [], _ :: _, _, _, h, _ => h.elim
 | _ :: _, [], _, _, h, _ => h.elim
 | _ :: _, _ :: _, _, _, h, h' => ⟨h.1, Likes.join h.2 h'⟩
theorem ovL_mid (c1 c2 : List Value) (o : Nat) (vs : List Value) : ovL (c1 ++ c2) (c1.length + o) vs = c1 ++ ovL c2 o vs := by
 unfold ovL
 rw [List.take_length_add_append, Nat.add_assoc, List.drop_length_add_append]
 simp
theorem ovL_set (k : IntKind) (xs : List Int) (i : Nat) (v : Int) (h : i < xs.length) : ovL (iv k xs) i [.int k v] = iv k (xs.set i v) := by
 unfold ovL iv
 rw [← List.map_take, ← List.map_drop, List.set_eq_take_append_cons_drop]
 simp [h]
theorem ovL_row (k : IntKind) (xs ys : List Int) (i : Nat) : ovL (iv k xs) i (iv k ys) = iv k (xs.take i ++ ys ++ xs.drop (i + ys.length)) := by
 unfold ovL iv
 simp
theorem wfs_set {k : IntKind} {xs : List Int} {i : Nat} {v : Int} (h : wfs k xs) (hv : wf k v) : wfs k (xs.set i v) := fun x hx => by
 rcases List.mem_or_eq_of_mem_set hx with h' | h'
 ·exact h x h'
 ·rw [h']; exact hv
theorem wfs_over {k : IntKind} {xs ys : List Int} {i m : Nat} (h : wfs k xs) (hv : wfs k ys) : wfs k (xs.take i ++ ys ++ xs.drop m) := fun x hx => by
 rcases List.mem_append.1 hx with h' | h'
 ·rcases List.mem_append.1 h' with h' | h'
  ·exact h x (List.mem_of_mem_take h')
  ·exact hv x h'
 ·exact h x (List.mem_of_mem_drop h')
section
variable {loc : Loc} {fm : Fm} {lk : Lk}
theorem setPs_ok : ∀ (l : List A) (ps q : List Pc) (c cs : List Value), setPs l ps = some q → VCs loc fm lk l c → PcsOk loc fm lk ps cs → c.length ≤ cs.length ∧ PcsOk loc fm lk q (c ++ cs.drop c.length) ∧ Likes ps q
 | [], ps, q, c, cs, h, hc, hp => by
  have hc : c = [] := hc
  simp only [setPs, Option.some.injEq] at h
  subst h hc
  exact ⟨Nat.zero_le _, by simpa using hp, Likes.refl _⟩
 | a :: l, ps, q, c, cs, h, ⟨c1, c2, h1, h2, h3⟩, hp => by
  have step : ∀ (p p' : Pc) (ps' qs : List Pc), ps = p :: ps' → setPs l ps' = some qs → q = p' :: qs → Like p p' → PcOk loc fm lk p' c1 → (∀ d, PcOk loc fm lk p d → d.length = c1.length) → c.length ≤ cs.length ∧ PcsOk loc fm lk q (c ++ cs.drop c.length) ∧ Likes ps q := by
   intro p p' ps' qs e1 e2 e3 e4 e5 e6
   subst e1 e3
   obtain ⟨d1, d2, k1, k2, k3⟩ := hp
   obtain ⟨f1, f2, f3⟩ := setPs_ok l ps' qs c2 d2 e2 h3 k3
   have hl := e6 d1 k2
   refine ⟨by rw [h1, k1, List.length_append, List.length_append]; omega, ⟨c1, c2 ++ d2.drop c2.length, ?_, e5, f2⟩, e4, f3⟩
   rw [h1, k1, List.append_assoc, List.length_append, List.drop_append, List.drop_of_length_le (by omega), List.nil_append]
   congr 3
   omega
  cases ps with
  | nil => cases a <;> simp [setPs] at h
  | cons p ps' =>
   cases p with
   | ones q => cases a <;> simp [setPs] at h
   | lst ln c' n' xs' =>
    cases a with
    | arrc c k xs =>
     simp only [setPs] at h
     split at h
     ·rename_i hb
      simp only [Bool.and_eq_true] at hb
      have hk := of_decide_eq_true hb.1
      have hn := Nat.eq_of_beq_eq_true hb.2
      subst hk hn
      split at h
      ·rename_i qs hq
       rw [Option.some.injEq] at h
       exact step _ _ _ _ rfl hq h.symm ⟨rfl, rfl⟩ h2 (fun d hd => by rw [PcOk.length _ _ hd, Els.length _ _ h2.1, h2.2]; rfl)
      ·cases h
     ·cases h
    | _ => simp [setPs] at h
   | row ln lc' k' n' xs' =>
    cases a with
    | arr lc k n xs =>
     simp only [setPs] at h
     split at h
     ·rename_i hb
      simp only [Bool.and_eq_true] at hb
      have hk := of_decide_eq_true hb.1
      have hn := Nat.eq_of_beq_eq_true hb.2
      subst hk hn
      split at h
      ·rename_i qs hq
       rw [Option.some.injEq] at h
       obtain ⟨e4, e5, e6⟩ := (show c1 = iv k xs ∧ xs.length = n ∧ wfs k xs from h2)
       exact step _ _ _ _ rfl hq h.symm ⟨rfl, rfl⟩ h2 (fun d hd => by rw [PcOk.length _ _ hd, e4, iv_length, e5]; rfl)
      ·cases h
     ·cases h
    | _ => simp [setPs] at h
   | one b =>
    have gen : aggA a = false → (match setPs l ps' with
      | some q => some (Pc.one a :: q)
      | none => none) = some q → c.length ≤ cs.length ∧ PcsOk loc fm lk q (c ++ cs.drop c.length) ∧ Likes (.one b :: ps') q := fun ha h => by
     split at h
     ·rename_i qs hq
      rw [Option.some.injEq] at h
      have hl := VC.len1 _ _ h2 ha
      exact step _ _ _ _ rfl hq h.symm trivial ⟨h2, ha⟩ (fun d hd => by rw [PcOk.length _ _ hd, hl]; rfl)
     ·cases h
    cases a with
    | arr lc k n xs => simp [setPs] at h
    | arrc c n xs => simp [setPs] at h
    | agg l' => simp [setPs] at h
    | tup l' => simp [setPs] at h
    | _ => exact gen rfl h
theorem stP_ok {a : A} {s i j : Nat} {l : Bool} {ps q : List Pc} {c cs : List Value} (hp : PcsOk loc fm lk ps cs) (hv : VC loc fm lk a c) (h : (stP a ps s i l j).is q) :
  Likes ps q ∧ baseL ps s + i * stL ps s + j + c.length ≤ cs.length ∧ PcsOk loc fm lk q (ovL cs (baseL ps s + i * stL ps s + j) c) := by
 obtain ⟨c1, c2, e1, e2, e3, e4⟩ := PcsOk.split ps s cs hp
 have hf := flatA_ok a c hv
 have up : ∀ (o : Nat) (q' : List Pc), q = ps.take s ++ q' → o = i * stL ps s + j → Likes (ps.drop s) q' → o + c.length ≤ c2.length → PcsOk loc fm lk q' (ovL c2 o c) →
   Likes ps q ∧ baseL ps s + i * stL ps s + j + c.length ≤ cs.length ∧ PcsOk loc fm lk q (ovL cs (baseL ps s + i * stL ps s + j) c) := fun o q' h1 h2 h3 h4 h5 => by
  subst h1
  rw [Nat.add_assoc (baseL ps s), ← h2]
  refine ⟨?_, by rw [e1, List.length_append]; omega, ?_⟩
  ·have := Likes.join (Likes.refl (ps.take s)) h3
   rwa [List.take_append_drop] at this
  ·rw [e1, ← e2, ovL_mid]
   exact PcsOk.join _ _ _ _ e3 h5
 have set : ∀ (r : List Pc), setPs (flatA a) (ps.drop s) = some r → i = 0 → j = 0 → q = ps.take s ++ r → Likes ps q ∧ baseL ps s + i * stL ps s + j + c.length ≤ cs.length ∧ PcsOk loc fm lk q (ovL cs (baseL ps s + i * stL ps s + j) c) := fun r hr hi hj hq => by
  obtain ⟨f1, f2, f3⟩ := setPs_ok _ _ _ _ _ hr hf e4
  refine up 0 r hq (by rw [hi, hj]; simp) f3 (by omega) ?_
  have : ovL c2 0 c = c ++ c2.drop c.length := by simp [ovL]
  rw [this]
  exact f2
 unfold stP at h
 split at h
 ·exact h.elim
 ·rename_i b r hps
  obtain ⟨hg, h⟩ := Tr.is_gd.1 h
  simp only [Bool.and_eq_true] at hg
  split at h
  ·rename_i r' hr
   rw [← hps] at hr
   exact set r' hr (Nat.eq_of_beq_eq_true hg.1.2) (Nat.eq_of_beq_eq_true hg.2) (Tr.is_leaf.1 h).symm
  ·exact h.elim
 ·rename_i ln lc k m xs r hps
  obtain ⟨hg, h⟩ := Tr.is_gd.1 h
  have hj := Nat.eq_of_beq_eq_true hg
  have hst : stL ps s = 1 := by
   have : ps[s]? = some (.row ln lc k m xs) := by
    have := congrArg (fun q : List Pc => q[0]?) hps
    simpa using this
   simp [stL, this, stOf]
  have e4' := e4
  rw [hps] at e4'
  obtain ⟨d1, d2, f1, ⟨f2, f3, f4⟩, f5⟩ := e4'
  have row : ∀ (xs' : List Int) (o : Nat) (lc' : Bool), q = ps.take s ++ .row ln lc' k m xs' :: r → o = i → o + c.length ≤ xs.length → ovL (iv k xs) o c = iv k xs' → xs'.length = m → wfs k xs' →
    Likes ps q ∧ baseL ps s + i * stL ps s + j + c.length ≤ cs.length ∧ PcsOk loc fm lk q (ovL cs (baseL ps s + i * stL ps s + j) c) := fun xs' o lc' h1 h2 h3 h4 h5 h6 => by
   refine up o _ h1 (by rw [hst, hj, h2]; omega) (by rw [hps]; exact ⟨⟨rfl, rfl⟩, Likes.refl _⟩) (by rw [f1, f2, List.length_append, iv_length]; omega) ?_
   rw [f1, f2, ovL_append _ _ _ _ (by rw [iv_length]; exact h3), h4]
   exact ⟨iv k xs', d2, rfl, ⟨rfl, h5, h6⟩, f5⟩
  split at h
  ·rename_i lv k' v hfl
   obtain ⟨hk, hA⟩ := Tr.is_gd.1 h
   have hk := of_decide_eq_true hk
   subst hk
   obtain ⟨hlt, hB⟩ := Tr.is_lt.1 hA
   rw [hfl] at hf
   obtain ⟨g1, g2, k1, ⟨k2, k3⟩, k4⟩ := hf
   have k4 : g2 = [] := k4
   subst k2 k4
   rw [List.append_nil] at k1
   subst k1
   exact row _ i _ (Tr.is_leaf.1 hB).symm rfl (by simp; omega) (ovL_set _ _ _ _ (by omega)) (by rw [List.length_set]; exact f3) (wfs_set f4 k3)
  ·rename_i lv k' n' ys hfl
   rw [hfl] at hf
   obtain ⟨g1, g2, k1, ⟨k2, k3, k3'⟩, k4⟩ := hf
   have k4 : g2 = [] := k4
   subst k2 k4
   rw [List.append_nil] at k1
   subst k1
   split at h
   ·rename_i hc
    simp only [Bool.and_eq_true] at hc
    have hi := Nat.eq_of_beq_eq_true hc.1.2
    have hn := Nat.eq_of_beq_eq_true hc.2
    obtain ⟨hk, hA⟩ := Tr.is_gd.1 h
    have hk := of_decide_eq_true hk
    subst hk
    refine row ys 0 _ (Tr.is_leaf.1 hA).symm hi.symm (by rw [iv_length]; omega) ?_ (by omega) k3'
    rw [ovL_row, List.drop_of_length_le (by omega)]
    simp
   ·obtain ⟨hk, hA⟩ := Tr.is_gd.1 h
    have hk := of_decide_eq_true hk
    subst hk
    obtain ⟨hle, hB⟩ := Tr.is_le.1 hA
    refine row _ i _ (Tr.is_leaf.1 hB).symm rfl (by rw [iv_length]; omega) (by rw [ovL_row, k3]) ?_ (wfs_over f4 k3')
    simp only [List.length_append, List.length_take, List.length_drop]
    omega
  ·split at h
   ·rename_i hc
    simp only [Bool.and_eq_true] at hc
    split at h
    ·rename_i r' hr
     rw [← hps] at hr
     exact set r' hr (Nat.eq_of_beq_eq_true hc.2) hj (Tr.is_leaf.1 h).symm
    ·exact h.elim
   ·exact h.elim
 ·rename_i ln cd m xs r hps
  rw [Tr.is_opt] at h
  split at h
  ·exact h.elim
  ·rename_i y hy
   have hst : stL ps s = cd.w := by
    have : ps[s]? = some (.lst ln cd m xs) := by
     have := congrArg (fun q : List Pc => q[0]?) hps
     simpa using this
    simp [stL, this, stOf]
   split at h
   ·rename_i ds hds
    split at h
    ·rename_i ds' hds'
     split at h
     ·rename_i x' hx'
      have e4' := e4
      rw [hps] at e4'
      obtain ⟨d1, d2, f1, ⟨f2, f3⟩, f5⟩ := e4'
      obtain ⟨g1, g2, g3, k1, k2, k3, k4, k5, k6⟩ := Els.get xs i y d1 f2 hy
      obtain ⟨n1, n2⟩ := setDs_ok hds' (aDs_ok _ _ _ (allSome_spec _ _ hds) hf) k4
      have hov : ovL d1 (i * cd.w + j) c = g1 ++ ovL g2 j c ++ g3 := by
       rw [k1, List.append_assoc, ← k2, ovL_mid, ovL_append _ _ _ _ n1, List.append_assoc]
      have hlen : i * cd.w + j + c.length ≤ d1.length := by
       rw [k1, List.length_append, List.length_append]
       omega
      refine up (i * cd.w + j) _ (Tr.is_leaf.1 h).symm (by rw [hst]) (by rw [hps]; exact ⟨⟨rfl, rfl⟩, Likes.refl _⟩) (by rw [f1, List.length_append]; omega) ?_
      rw [f1, ovL_append _ _ _ _ hlen, hov]
      refine ⟨_, d2, rfl, ⟨?_, by rw [List.length_set]; exact f3⟩, f5⟩
      have hi := (List.getElem?_eq_some_iff.1 hy).1
      have hset : xs.set i x' = xs.take i ++ [x'] ++ xs.drop (i + 1) := by
       rw [List.set_eq_take_append_cons_drop, if_pos hi]
       simp
      rw [hset]
      exact Els.join _ _ _ _ (Els.join _ _ _ _ k5 ⟨ovL g2 j c, [], by simp, dec_ok hx' n2, by rw [ovL_length _ _ _ n1, k3], rfl⟩) k6
     ·exact h.elim
    ·exact h.elim
   ·exact h.elim
 ·rename_i q0 r hps
  replace h := Tr.is_gd.1 h
  obtain ⟨hg, h⟩ := h
  simp only [Bool.and_eq_true] at hg
  have hj := Nat.eq_of_beq_eq_true hg.1.2
  have hi := Nat.le_of_ble_eq_true hg.2
  split at h
  ·rename_i x hfl
   replace h := Tr.is_gd.1 h
   obtain ⟨hx, h⟩ := h
   have hx : aggA x = false := by
    cases hq : aggA x with
    | true => rw [hq] at hx; cases hx
    | false => rfl
   have hst : stL ps s = 1 := by
    have : ps[s]? = some (.ones q0) := by
     have := congrArg (fun q : List Pc => q[0]?) hps
     simpa using this
    simp [stL, this, stOf]
   rw [hfl] at hf
   obtain ⟨g1, g2, k1, k2, k4⟩ := hf
   have k4 : g2 = [] := k4
   subst k4
   rw [List.append_nil] at k1
   subst k1
   have hl := VC.len1 _ _ k2 hx
   have e4' := e4
   rw [hps] at e4'
   obtain ⟨d1, d2, f1, ⟨f2, f3⟩, f5⟩ := e4'
   have hdl := VCs.len1 _ _ f2 f3
   match c, hl with
   | [u], _ =>
    have hov : ovL d1 i [u] = d1.set i u := by
     unfold ovL
     rw [List.set_eq_take_append_cons_drop, if_pos (by omega)]
     simp
    refine up i _ (Tr.is_leaf.1 h).symm (by rw [hst, hj]; omega) (by rw [hps]; exact ⟨by simp [Like], Likes.refl _⟩) (by rw [f1, List.length_append]; simp only [List.length_singleton]; omega) ?_
    rw [f1, ovL_append _ _ _ _ (by simp only [List.length_singleton]; omega), hov]
    exact ⟨_, d2, rfl, ⟨VCs.set1 _ _ _ _ _ f2 f3 k2, fun b hb => by
     rcases List.mem_or_eq_of_mem_set hb with hb | rfl
     ·exact f3 b hb
     ·exact hx⟩, f5⟩
  ·exact h.elim
end
end
end Go.Proofs.YtiojkpgcmhlhnaaGreatDoor.Ty
