/-
  The document's reduce, piece by piece, as its text reckons it.
-/
import Derived.Test.YtbdmahidobjaoaaDoorSxTail
import Derived.Test.YtbdmahidobjaoaaDoorClampBlock
namespace Go.Proofs.YtbdmahidobjaoaaDoor.Sx
open Go
set_option maxRecDepth 100000

noncomputable def bodyR : Code := (Tryd.f41.body).getD .skip
noncomputable def loopR : Code := loopC (blkC (seqL (post 5 bodyR)))
noncomputable def chkR : Code := seqL (seqR (post 5 bodyR))
noncomputable def tailR : Code := seqR (seqR (post 5 bodyR))

theorem bodyR_eq : Tryd.f41.body = some bodyR := by kernel_rfl
theorem post_eq : post 5 bodyR = .seq (.block 6 (.loop loopR)) (.seq chkR tailR) := by kernel_rfl

abbrev WI (n : Int) : Int := IntKind.i64.wrap n

def gl0 : Blk := ⟨.u64, 0, [18446744073709551611, 18446744073709551615, 3], false⟩

def tmR (rest : Int) : List A := List.replicate 2 .any ++ ([.ptr 2 0, .slc 3 0 5 5] ++ (List.replicate 3 .any ++ ([.int .i64 rest] ++ List.replicate 148 .any)))
def hpR (b : Blk) (d : List Int) : Hp := [(0, gl0), (1, b), (2, ⟨.u8, 28, List.replicate 17 0, true⟩), (3, ⟨.i64, 3, d, true⟩)]

def red6 : List Int → List Int
  | [x0, x1, x2, x3, x4, x5] => [WI (WI (0 + x0) + WI (5 * x5)), WI (0 + x1), WI (0 + x2), WI (0 + x3), WI (0 + x4)]
  | l => l

def red11 : List Int → List Int
  | [x0, x1, x2, x3, x4, x5, x6, x7, x8, x9, x10] => [WI (WI (0 + x0) + WI (5 * x5)), WI (WI (0 + x1) + WI (5 * x6)), WI (WI (0 + x2) + WI (5 * x7)), WI (WI (0 + x3) + WI (5 * x8)), WI (WI (0 + x4) + WI (5 * x9)), WI (0 + WI (5 * x10))]
  | l => l

theorem pre6_run (ty : TypeId) (rw : Bool) (x0 x1 x2 x3 x4 x5 : Int) : execF (mk []) 600 (pre 5 bodyR) 2 [2, 3, 7] [0, 1, 2, 3] (s0 (mk []) 156 [.slc 1 0 6 6] [⟨.i64, ty, [x0, x1, x2, x3, x4, x5], rw⟩]) =
    some (.normal, ⟨tmR 1, hpR ⟨.i64, ty, [x0, x1, x2, x3, x4, x5], rw⟩ (red6 [x0, x1, x2, x3, x4, x5]), []⟩) := by kernel_rfl

theorem pre11_run (ty : TypeId) (rw : Bool) (x0 x1 x2 x3 x4 x5 x6 x7 x8 x9 x10 : Int) : execF (mk []) 600 (pre 5 bodyR) 2 [2, 3, 7] [0, 1, 2, 3] (s0 (mk []) 156 [.slc 1 0 11 11] [⟨.i64, ty, [x0, x1, x2, x3, x4, x5, x6, x7, x8, x9, x10], rw⟩]) =
    some (.normal, ⟨tmR 1, hpR ⟨.i64, ty, [x0, x1, x2, x3, x4, x5, x6, x7, x8, x9, x10], rw⟩ (red6 (red11 [x0, x1, x2, x3, x4, x5, x6, x7, x8, x9, x10])), []⟩) := by kernel_rfl

/-- One round of carries. -/
def rnd : List Int → Int × List Int
  | [d0, d1, d2, d3, d4] =>
    let r0 := WI (0 + d0)
    let r1 := WI (WI (r0.tdiv 67108864) + d1)
    let r2 := WI (WI (r1.tdiv 67108864) + d2)
    let r3 := WI (WI (r2.tdiv 67108864) + d3)
    let r4 := WI (WI (r3.tdiv 67108864) + d4)
    let c := WI (r4.tdiv 67108864)
    (c, [WI (r0.tmod 67108864 + WI (5 * c)), r1.tmod 67108864, r2.tmod 67108864, r3.tmod 67108864, r4.tmod 67108864])
  | l => (0, l)

theorem round_run (b : Blk) (rest d0 d1 d2 d3 d4 : Int) : execF (mkh (hintAt 70 true) []) 300 loopR 2 [2, 3, 7] [0, 1, 2, 3] ⟨tmR rest, hpR b [d0, d1, d2, d3, d4], []⟩ =
    some (.normal, ⟨tmR (rnd [d0, d1, d2, d3, d4]).1, hpR b (rnd [d0, d1, d2, d3, d4]).2, [decide (rest > 0) = true]⟩) := by kernel_rfl

theorem round_end (b : Blk) (rest : Int) (d : List Int) : execF (mkh (hintAt 70 false) []) 300 loopR 2 [2, 3, 7] [0, 1, 2, 3] ⟨tmR rest, hpR b d, []⟩ =
    some (.exit 6, ⟨tmR rest, hpR b d, [decide (rest > 0) = false]⟩) := by kernel_rfl

/-! ### The last look -/

def tmE (i : Nat) : List A := List.replicate 2 .any ++ ([.ptr 2 0, .slc i 0 5 5] ++ List.replicate 152 .any)
def hpE (i : Nat) (b : Blk) (d : List Int) : Hp := [(0, gl0), (1, b), (2, ⟨.u8, 28, List.replicate 17 0, true⟩), (i, ⟨.i64, 3, d, true⟩)]

def hintC (p : Nat) (t : Tmp) : Option Bool :=
  match t with
  | 99 => some (Nat.ble 1 p)
  | 104 => some (Nat.ble 2 p)
  | 110 => some (Nat.ble 3 p)
  | 116 => some (Nat.ble 4 p)
  | 122 => some (Nat.ble 5 p)
  | _ => none

theorem chk_run0 (b : Blk) (rest d0 d1 d2 d3 d4 : Int) : execF (mkh (hintC 0) []) 300 chkR 2 [2, 3] [0, 1, 2, 3] ⟨tmR rest, hpR b [d0, d1, d2, d3, d4], []⟩ =
    some (.normal, ⟨tmE 3, hpE 3 b [d0, d1, d2, d3, d4], [(d4 == 67108863) = false]⟩) := by kernel_rfl
theorem chk_run1 (b : Blk) (rest d0 d1 d2 d3 d4 : Int) : execF (mkh (hintC 1) []) 300 chkR 2 [2, 3] [0, 1, 2, 3] ⟨tmR rest, hpR b [d0, d1, d2, d3, d4], []⟩ =
    some (.normal, ⟨tmE 3, hpE 3 b [d0, d1, d2, d3, d4], [(d4 == 67108863) = true, (d3 == 67108863) = false]⟩) := by kernel_rfl
theorem chk_run2 (b : Blk) (rest d0 d1 d2 d3 d4 : Int) : execF (mkh (hintC 2) []) 300 chkR 2 [2, 3] [0, 1, 2, 3] ⟨tmR rest, hpR b [d0, d1, d2, d3, d4], []⟩ =
    some (.normal, ⟨tmE 3, hpE 3 b [d0, d1, d2, d3, d4], [(d4 == 67108863) = true, (d3 == 67108863) = true, (d2 == 67108863) = false]⟩) := by kernel_rfl
theorem chk_run3 (b : Blk) (rest d0 d1 d2 d3 d4 : Int) : execF (mkh (hintC 3) []) 300 chkR 2 [2, 3] [0, 1, 2, 3] ⟨tmR rest, hpR b [d0, d1, d2, d3, d4], []⟩ =
    some (.normal, ⟨tmE 3, hpE 3 b [d0, d1, d2, d3, d4], [(d4 == 67108863) = true, (d3 == 67108863) = true, (d2 == 67108863) = true, (d1 == 67108863) = false]⟩) := by kernel_rfl
theorem chk_run4 (b : Blk) (rest d0 d1 d2 d3 d4 : Int) : execF (mkh (hintC 4) []) 300 chkR 2 [2, 3] [0, 1, 2, 3] ⟨tmR rest, hpR b [d0, d1, d2, d3, d4], []⟩ =
    some (.normal, ⟨tmE 3, hpE 3 b [d0, d1, d2, d3, d4], [(d4 == 67108863) = true, (d3 == 67108863) = true, (d2 == 67108863) = true, (d1 == 67108863) = true, decide (d0 ≥ 67108859) = false]⟩) := by kernel_rfl
theorem chk_run5 (b : Blk) (rest d0 d1 d2 d3 d4 : Int) : execF (mkh (hintC 5) []) 300 chkR 2 [2, 3] [0, 1, 2, 4] ⟨tmR rest, hpR b [d0, d1, d2, d3, d4], []⟩ =
    some (.normal, ⟨tmE 4, hpE 4 b [WI (d0 - 67108859), 0, 0, 0, 0], [(d4 == 67108863) = true, (d3 == 67108863) = true, (d2 == 67108863) = true, (d1 == 67108863) = true, decide (d0 ≥ 67108859) = true]⟩) := by kernel_rfl

/-! ### The bytes -/

def outStep (d o : List Int) (i : Nat) : List Int :=
  o.set (i / 8) (bits .or .u8 (o.getD (i / 8) 0) (IntKind.u8.wrap (IntKind.u8.wrap (bits .and .i64 ((d.getD (i / 26) 0).fdiv (2 ^ (i % 26))) 1) * 2 ^ (i % 8))))

def outGo (d : List Int) : Nat → List Int
  | 0 => List.replicate 17 0
  | n + 1 => outStep d (outGo d n) n

def tmO (i oi : Nat) (n : Int) : List A := List.replicate 2 .any ++ ([.ptr 2 0, .slc i 0 5 5] ++ (List.replicate 5 .any ++ ([.ptr oi 0, .int .i64 n] ++ List.replicate 145 .any)))
def hpO (i oi : Nat) (b : Blk) (d o : List Int) : Hp := [(0, gl0), (1, b), (2, ⟨.u8, 28, List.replicate 17 0, true⟩), (i, ⟨.i64, 3, d, true⟩), (oi, ⟨.u8, 28, o, true⟩)]

noncomputable def loopO : Code := loopC (blkC (seqR (seqL (seqR tailR))))
noncomputable def endO : Code := seqR (seqR tailR)

theorem tail_eq : tailR = .seq (seqL tailR) (.seq (.seq (seqL (seqL (seqR tailR))) (.block 10 (.loop loopO))) endO) := by kernel_rfl

def round1 (i oi n : Nat) : Prop := ∀ (b : Blk) (d0 d1 d2 d3 d4 o0 o1 o2 o3 o4 o5 o6 o7 o8 o9 o10 o11 o12 o13 o14 o15 o16 : Int),
      execF (mk []) 100 loopO 2 [2, 3, 9, 10] [0, 1, 2, i, oi] ⟨tmO i oi (n : Int), hpO i oi b [d0, d1, d2, d3, d4] [o0, o1, o2, o3, o4, o5, o6, o7, o8, o9, o10, o11, o12, o13, o14, o15, o16], []⟩ =
        some (.normal, ⟨tmO i oi ((n + 1 : Nat) : Int), hpO i oi b [d0, d1, d2, d3, d4] (outStep [d0, d1, d2, d3, d4] [o0, o1, o2, o3, o4, o5, o6, o7, o8, o9, o10, o11, o12, o13, o14, o15, o16] n), []⟩)

/-- The rounds, one by one: what each does to any bytes. -/
def rounds (i oi : Nat) : Nat → Prop
  | 0 => True
  | n + 1 => rounds i oi n ∧ round1 i oi n

theorem rd3_0 : round1 3 4 0 := fun b d0 d1 d2 d3 d4 o0 o1 o2 o3 o4 o5 o6 o7 o8 o9 o10 o11 o12 o13 o14 o15 o16 => by kernel_rfl
theorem rd3_1 : round1 3 4 1 := fun b d0 d1 d2 d3 d4 o0 o1 o2 o3 o4 o5 o6 o7 o8 o9 o10 o11 o12 o13 o14 o15 o16 => by kernel_rfl
theorem rd3_2 : round1 3 4 2 := fun b d0 d1 d2 d3 d4 o0 o1 o2 o3 o4 o5 o6 o7 o8 o9 o10 o11 o12 o13 o14 o15 o16 => by kernel_rfl
theorem rd3_3 : round1 3 4 3 := fun b d0 d1 d2 d3 d4 o0 o1 o2 o3 o4 o5 o6 o7 o8 o9 o10 o11 o12 o13 o14 o15 o16 => by kernel_rfl
theorem rd3_4 : round1 3 4 4 := fun b d0 d1 d2 d3 d4 o0 o1 o2 o3 o4 o5 o6 o7 o8 o9 o10 o11 o12 o13 o14 o15 o16 => by kernel_rfl
theorem rd3_5 : round1 3 4 5 := fun b d0 d1 d2 d3 d4 o0 o1 o2 o3 o4 o5 o6 o7 o8 o9 o10 o11 o12 o13 o14 o15 o16 => by kernel_rfl
theorem rd3_6 : round1 3 4 6 := fun b d0 d1 d2 d3 d4 o0 o1 o2 o3 o4 o5 o6 o7 o8 o9 o10 o11 o12 o13 o14 o15 o16 => by kernel_rfl
theorem rd3_7 : round1 3 4 7 := fun b d0 d1 d2 d3 d4 o0 o1 o2 o3 o4 o5 o6 o7 o8 o9 o10 o11 o12 o13 o14 o15 o16 => by kernel_rfl
theorem rd3_8 : round1 3 4 8 := fun b d0 d1 d2 d3 d4 o0 o1 o2 o3 o4 o5 o6 o7 o8 o9 o10 o11 o12 o13 o14 o15 o16 => by kernel_rfl
theorem rd3_9 : round1 3 4 9 := fun b d0 d1 d2 d3 d4 o0 o1 o2 o3 o4 o5 o6 o7 o8 o9 o10 o11 o12 o13 o14 o15 o16 => by kernel_rfl
theorem rd3_10 : round1 3 4 10 := fun b d0 d1 d2 d3 d4 o0 o1 o2 o3 o4 o5 o6 o7 o8 o9 o10 o11 o12 o13 o14 o15 o16 => by kernel_rfl
theorem rd3_11 : round1 3 4 11 := fun b d0 d1 d2 d3 d4 o0 o1 o2 o3 o4 o5 o6 o7 o8 o9 o10 o11 o12 o13 o14 o15 o16 => by kernel_rfl
theorem rd3_12 : round1 3 4 12 := fun b d0 d1 d2 d3 d4 o0 o1 o2 o3 o4 o5 o6 o7 o8 o9 o10 o11 o12 o13 o14 o15 o16 => by kernel_rfl
theorem rd3_13 : round1 3 4 13 := fun b d0 d1 d2 d3 d4 o0 o1 o2 o3 o4 o5 o6 o7 o8 o9 o10 o11 o12 o13 o14 o15 o16 => by kernel_rfl
theorem rd3_14 : round1 3 4 14 := fun b d0 d1 d2 d3 d4 o0 o1 o2 o3 o4 o5 o6 o7 o8 o9 o10 o11 o12 o13 o14 o15 o16 => by kernel_rfl
theorem rd3_15 : round1 3 4 15 := fun b d0 d1 d2 d3 d4 o0 o1 o2 o3 o4 o5 o6 o7 o8 o9 o10 o11 o12 o13 o14 o15 o16 => by kernel_rfl
theorem rd3_16 : round1 3 4 16 := fun b d0 d1 d2 d3 d4 o0 o1 o2 o3 o4 o5 o6 o7 o8 o9 o10 o11 o12 o13 o14 o15 o16 => by kernel_rfl
theorem rd3_17 : round1 3 4 17 := fun b d0 d1 d2 d3 d4 o0 o1 o2 o3 o4 o5 o6 o7 o8 o9 o10 o11 o12 o13 o14 o15 o16 => by kernel_rfl
theorem rd3_18 : round1 3 4 18 := fun b d0 d1 d2 d3 d4 o0 o1 o2 o3 o4 o5 o6 o7 o8 o9 o10 o11 o12 o13 o14 o15 o16 => by kernel_rfl
theorem rd3_19 : round1 3 4 19 := fun b d0 d1 d2 d3 d4 o0 o1 o2 o3 o4 o5 o6 o7 o8 o9 o10 o11 o12 o13 o14 o15 o16 => by kernel_rfl
theorem rd3_20 : round1 3 4 20 := fun b d0 d1 d2 d3 d4 o0 o1 o2 o3 o4 o5 o6 o7 o8 o9 o10 o11 o12 o13 o14 o15 o16 => by kernel_rfl
theorem rd3_21 : round1 3 4 21 := fun b d0 d1 d2 d3 d4 o0 o1 o2 o3 o4 o5 o6 o7 o8 o9 o10 o11 o12 o13 o14 o15 o16 => by kernel_rfl
theorem rd3_22 : round1 3 4 22 := fun b d0 d1 d2 d3 d4 o0 o1 o2 o3 o4 o5 o6 o7 o8 o9 o10 o11 o12 o13 o14 o15 o16 => by kernel_rfl
theorem rd3_23 : round1 3 4 23 := fun b d0 d1 d2 d3 d4 o0 o1 o2 o3 o4 o5 o6 o7 o8 o9 o10 o11 o12 o13 o14 o15 o16 => by kernel_rfl
theorem rd3_24 : round1 3 4 24 := fun b d0 d1 d2 d3 d4 o0 o1 o2 o3 o4 o5 o6 o7 o8 o9 o10 o11 o12 o13 o14 o15 o16 => by kernel_rfl
theorem rd3_25 : round1 3 4 25 := fun b d0 d1 d2 d3 d4 o0 o1 o2 o3 o4 o5 o6 o7 o8 o9 o10 o11 o12 o13 o14 o15 o16 => by kernel_rfl
theorem rd3_26 : round1 3 4 26 := fun b d0 d1 d2 d3 d4 o0 o1 o2 o3 o4 o5 o6 o7 o8 o9 o10 o11 o12 o13 o14 o15 o16 => by kernel_rfl
theorem rd3_27 : round1 3 4 27 := fun b d0 d1 d2 d3 d4 o0 o1 o2 o3 o4 o5 o6 o7 o8 o9 o10 o11 o12 o13 o14 o15 o16 => by kernel_rfl
theorem rd3_28 : round1 3 4 28 := fun b d0 d1 d2 d3 d4 o0 o1 o2 o3 o4 o5 o6 o7 o8 o9 o10 o11 o12 o13 o14 o15 o16 => by kernel_rfl
theorem rd3_29 : round1 3 4 29 := fun b d0 d1 d2 d3 d4 o0 o1 o2 o3 o4 o5 o6 o7 o8 o9 o10 o11 o12 o13 o14 o15 o16 => by kernel_rfl
theorem rd3_30 : round1 3 4 30 := fun b d0 d1 d2 d3 d4 o0 o1 o2 o3 o4 o5 o6 o7 o8 o9 o10 o11 o12 o13 o14 o15 o16 => by kernel_rfl
theorem rd3_31 : round1 3 4 31 := fun b d0 d1 d2 d3 d4 o0 o1 o2 o3 o4 o5 o6 o7 o8 o9 o10 o11 o12 o13 o14 o15 o16 => by kernel_rfl
theorem rd3_32 : round1 3 4 32 := fun b d0 d1 d2 d3 d4 o0 o1 o2 o3 o4 o5 o6 o7 o8 o9 o10 o11 o12 o13 o14 o15 o16 => by kernel_rfl
theorem rd3_33 : round1 3 4 33 := fun b d0 d1 d2 d3 d4 o0 o1 o2 o3 o4 o5 o6 o7 o8 o9 o10 o11 o12 o13 o14 o15 o16 => by kernel_rfl
theorem rd3_34 : round1 3 4 34 := fun b d0 d1 d2 d3 d4 o0 o1 o2 o3 o4 o5 o6 o7 o8 o9 o10 o11 o12 o13 o14 o15 o16 => by kernel_rfl
theorem rd3_35 : round1 3 4 35 := fun b d0 d1 d2 d3 d4 o0 o1 o2 o3 o4 o5 o6 o7 o8 o9 o10 o11 o12 o13 o14 o15 o16 => by kernel_rfl
theorem rd3_36 : round1 3 4 36 := fun b d0 d1 d2 d3 d4 o0 o1 o2 o3 o4 o5 o6 o7 o8 o9 o10 o11 o12 o13 o14 o15 o16 => by kernel_rfl
theorem rd3_37 : round1 3 4 37 := fun b d0 d1 d2 d3 d4 o0 o1 o2 o3 o4 o5 o6 o7 o8 o9 o10 o11 o12 o13 o14 o15 o16 => by kernel_rfl
theorem rd3_38 : round1 3 4 38 := fun b d0 d1 d2 d3 d4 o0 o1 o2 o3 o4 o5 o6 o7 o8 o9 o10 o11 o12 o13 o14 o15 o16 => by kernel_rfl
theorem rd3_39 : round1 3 4 39 := fun b d0 d1 d2 d3 d4 o0 o1 o2 o3 o4 o5 o6 o7 o8 o9 o10 o11 o12 o13 o14 o15 o16 => by kernel_rfl
theorem rd3_40 : round1 3 4 40 := fun b d0 d1 d2 d3 d4 o0 o1 o2 o3 o4 o5 o6 o7 o8 o9 o10 o11 o12 o13 o14 o15 o16 => by kernel_rfl
theorem rd3_41 : round1 3 4 41 := fun b d0 d1 d2 d3 d4 o0 o1 o2 o3 o4 o5 o6 o7 o8 o9 o10 o11 o12 o13 o14 o15 o16 => by kernel_rfl
theorem rd3_42 : round1 3 4 42 := fun b d0 d1 d2 d3 d4 o0 o1 o2 o3 o4 o5 o6 o7 o8 o9 o10 o11 o12 o13 o14 o15 o16 => by kernel_rfl
theorem rd3_43 : round1 3 4 43 := fun b d0 d1 d2 d3 d4 o0 o1 o2 o3 o4 o5 o6 o7 o8 o9 o10 o11 o12 o13 o14 o15 o16 => by kernel_rfl
theorem rd3_44 : round1 3 4 44 := fun b d0 d1 d2 d3 d4 o0 o1 o2 o3 o4 o5 o6 o7 o8 o9 o10 o11 o12 o13 o14 o15 o16 => by kernel_rfl
theorem rd3_45 : round1 3 4 45 := fun b d0 d1 d2 d3 d4 o0 o1 o2 o3 o4 o5 o6 o7 o8 o9 o10 o11 o12 o13 o14 o15 o16 => by kernel_rfl
theorem rd3_46 : round1 3 4 46 := fun b d0 d1 d2 d3 d4 o0 o1 o2 o3 o4 o5 o6 o7 o8 o9 o10 o11 o12 o13 o14 o15 o16 => by kernel_rfl
theorem rd3_47 : round1 3 4 47 := fun b d0 d1 d2 d3 d4 o0 o1 o2 o3 o4 o5 o6 o7 o8 o9 o10 o11 o12 o13 o14 o15 o16 => by kernel_rfl
theorem rd3_48 : round1 3 4 48 := fun b d0 d1 d2 d3 d4 o0 o1 o2 o3 o4 o5 o6 o7 o8 o9 o10 o11 o12 o13 o14 o15 o16 => by kernel_rfl
theorem rd3_49 : round1 3 4 49 := fun b d0 d1 d2 d3 d4 o0 o1 o2 o3 o4 o5 o6 o7 o8 o9 o10 o11 o12 o13 o14 o15 o16 => by kernel_rfl
theorem rd3_50 : round1 3 4 50 := fun b d0 d1 d2 d3 d4 o0 o1 o2 o3 o4 o5 o6 o7 o8 o9 o10 o11 o12 o13 o14 o15 o16 => by kernel_rfl
theorem rd3_51 : round1 3 4 51 := fun b d0 d1 d2 d3 d4 o0 o1 o2 o3 o4 o5 o6 o7 o8 o9 o10 o11 o12 o13 o14 o15 o16 => by kernel_rfl
theorem rd3_52 : round1 3 4 52 := fun b d0 d1 d2 d3 d4 o0 o1 o2 o3 o4 o5 o6 o7 o8 o9 o10 o11 o12 o13 o14 o15 o16 => by kernel_rfl
theorem rd3_53 : round1 3 4 53 := fun b d0 d1 d2 d3 d4 o0 o1 o2 o3 o4 o5 o6 o7 o8 o9 o10 o11 o12 o13 o14 o15 o16 => by kernel_rfl
theorem rd3_54 : round1 3 4 54 := fun b d0 d1 d2 d3 d4 o0 o1 o2 o3 o4 o5 o6 o7 o8 o9 o10 o11 o12 o13 o14 o15 o16 => by kernel_rfl
theorem rd3_55 : round1 3 4 55 := fun b d0 d1 d2 d3 d4 o0 o1 o2 o3 o4 o5 o6 o7 o8 o9 o10 o11 o12 o13 o14 o15 o16 => by kernel_rfl
theorem rd3_56 : round1 3 4 56 := fun b d0 d1 d2 d3 d4 o0 o1 o2 o3 o4 o5 o6 o7 o8 o9 o10 o11 o12 o13 o14 o15 o16 => by kernel_rfl
theorem rd3_57 : round1 3 4 57 := fun b d0 d1 d2 d3 d4 o0 o1 o2 o3 o4 o5 o6 o7 o8 o9 o10 o11 o12 o13 o14 o15 o16 => by kernel_rfl
theorem rd3_58 : round1 3 4 58 := fun b d0 d1 d2 d3 d4 o0 o1 o2 o3 o4 o5 o6 o7 o8 o9 o10 o11 o12 o13 o14 o15 o16 => by kernel_rfl
theorem rd3_59 : round1 3 4 59 := fun b d0 d1 d2 d3 d4 o0 o1 o2 o3 o4 o5 o6 o7 o8 o9 o10 o11 o12 o13 o14 o15 o16 => by kernel_rfl
theorem rd3_60 : round1 3 4 60 := fun b d0 d1 d2 d3 d4 o0 o1 o2 o3 o4 o5 o6 o7 o8 o9 o10 o11 o12 o13 o14 o15 o16 => by kernel_rfl
theorem rd3_61 : round1 3 4 61 := fun b d0 d1 d2 d3 d4 o0 o1 o2 o3 o4 o5 o6 o7 o8 o9 o10 o11 o12 o13 o14 o15 o16 => by kernel_rfl
theorem rd3_62 : round1 3 4 62 := fun b d0 d1 d2 d3 d4 o0 o1 o2 o3 o4 o5 o6 o7 o8 o9 o10 o11 o12 o13 o14 o15 o16 => by kernel_rfl
theorem rd3_63 : round1 3 4 63 := fun b d0 d1 d2 d3 d4 o0 o1 o2 o3 o4 o5 o6 o7 o8 o9 o10 o11 o12 o13 o14 o15 o16 => by kernel_rfl
theorem rd3_64 : round1 3 4 64 := fun b d0 d1 d2 d3 d4 o0 o1 o2 o3 o4 o5 o6 o7 o8 o9 o10 o11 o12 o13 o14 o15 o16 => by kernel_rfl
theorem rd3_65 : round1 3 4 65 := fun b d0 d1 d2 d3 d4 o0 o1 o2 o3 o4 o5 o6 o7 o8 o9 o10 o11 o12 o13 o14 o15 o16 => by kernel_rfl
theorem rd3_66 : round1 3 4 66 := fun b d0 d1 d2 d3 d4 o0 o1 o2 o3 o4 o5 o6 o7 o8 o9 o10 o11 o12 o13 o14 o15 o16 => by kernel_rfl
theorem rd3_67 : round1 3 4 67 := fun b d0 d1 d2 d3 d4 o0 o1 o2 o3 o4 o5 o6 o7 o8 o9 o10 o11 o12 o13 o14 o15 o16 => by kernel_rfl
theorem rd3_68 : round1 3 4 68 := fun b d0 d1 d2 d3 d4 o0 o1 o2 o3 o4 o5 o6 o7 o8 o9 o10 o11 o12 o13 o14 o15 o16 => by kernel_rfl
theorem rd3_69 : round1 3 4 69 := fun b d0 d1 d2 d3 d4 o0 o1 o2 o3 o4 o5 o6 o7 o8 o9 o10 o11 o12 o13 o14 o15 o16 => by kernel_rfl
theorem rd3_70 : round1 3 4 70 := fun b d0 d1 d2 d3 d4 o0 o1 o2 o3 o4 o5 o6 o7 o8 o9 o10 o11 o12 o13 o14 o15 o16 => by kernel_rfl
theorem rd3_71 : round1 3 4 71 := fun b d0 d1 d2 d3 d4 o0 o1 o2 o3 o4 o5 o6 o7 o8 o9 o10 o11 o12 o13 o14 o15 o16 => by kernel_rfl
theorem rd3_72 : round1 3 4 72 := fun b d0 d1 d2 d3 d4 o0 o1 o2 o3 o4 o5 o6 o7 o8 o9 o10 o11 o12 o13 o14 o15 o16 => by kernel_rfl
theorem rd3_73 : round1 3 4 73 := fun b d0 d1 d2 d3 d4 o0 o1 o2 o3 o4 o5 o6 o7 o8 o9 o10 o11 o12 o13 o14 o15 o16 => by kernel_rfl
theorem rd3_74 : round1 3 4 74 := fun b d0 d1 d2 d3 d4 o0 o1 o2 o3 o4 o5 o6 o7 o8 o9 o10 o11 o12 o13 o14 o15 o16 => by kernel_rfl
theorem rd3_75 : round1 3 4 75 := fun b d0 d1 d2 d3 d4 o0 o1 o2 o3 o4 o5 o6 o7 o8 o9 o10 o11 o12 o13 o14 o15 o16 => by kernel_rfl
theorem rd3_76 : round1 3 4 76 := fun b d0 d1 d2 d3 d4 o0 o1 o2 o3 o4 o5 o6 o7 o8 o9 o10 o11 o12 o13 o14 o15 o16 => by kernel_rfl
theorem rd3_77 : round1 3 4 77 := fun b d0 d1 d2 d3 d4 o0 o1 o2 o3 o4 o5 o6 o7 o8 o9 o10 o11 o12 o13 o14 o15 o16 => by kernel_rfl
theorem rd3_78 : round1 3 4 78 := fun b d0 d1 d2 d3 d4 o0 o1 o2 o3 o4 o5 o6 o7 o8 o9 o10 o11 o12 o13 o14 o15 o16 => by kernel_rfl
theorem rd3_79 : round1 3 4 79 := fun b d0 d1 d2 d3 d4 o0 o1 o2 o3 o4 o5 o6 o7 o8 o9 o10 o11 o12 o13 o14 o15 o16 => by kernel_rfl
theorem rd3_80 : round1 3 4 80 := fun b d0 d1 d2 d3 d4 o0 o1 o2 o3 o4 o5 o6 o7 o8 o9 o10 o11 o12 o13 o14 o15 o16 => by kernel_rfl
theorem rd3_81 : round1 3 4 81 := fun b d0 d1 d2 d3 d4 o0 o1 o2 o3 o4 o5 o6 o7 o8 o9 o10 o11 o12 o13 o14 o15 o16 => by kernel_rfl
theorem rd3_82 : round1 3 4 82 := fun b d0 d1 d2 d3 d4 o0 o1 o2 o3 o4 o5 o6 o7 o8 o9 o10 o11 o12 o13 o14 o15 o16 => by kernel_rfl
theorem rd3_83 : round1 3 4 83 := fun b d0 d1 d2 d3 d4 o0 o1 o2 o3 o4 o5 o6 o7 o8 o9 o10 o11 o12 o13 o14 o15 o16 => by kernel_rfl
theorem rd3_84 : round1 3 4 84 := fun b d0 d1 d2 d3 d4 o0 o1 o2 o3 o4 o5 o6 o7 o8 o9 o10 o11 o12 o13 o14 o15 o16 => by kernel_rfl
theorem rd3_85 : round1 3 4 85 := fun b d0 d1 d2 d3 d4 o0 o1 o2 o3 o4 o5 o6 o7 o8 o9 o10 o11 o12 o13 o14 o15 o16 => by kernel_rfl
theorem rd3_86 : round1 3 4 86 := fun b d0 d1 d2 d3 d4 o0 o1 o2 o3 o4 o5 o6 o7 o8 o9 o10 o11 o12 o13 o14 o15 o16 => by kernel_rfl
theorem rd3_87 : round1 3 4 87 := fun b d0 d1 d2 d3 d4 o0 o1 o2 o3 o4 o5 o6 o7 o8 o9 o10 o11 o12 o13 o14 o15 o16 => by kernel_rfl
theorem rd3_88 : round1 3 4 88 := fun b d0 d1 d2 d3 d4 o0 o1 o2 o3 o4 o5 o6 o7 o8 o9 o10 o11 o12 o13 o14 o15 o16 => by kernel_rfl
theorem rd3_89 : round1 3 4 89 := fun b d0 d1 d2 d3 d4 o0 o1 o2 o3 o4 o5 o6 o7 o8 o9 o10 o11 o12 o13 o14 o15 o16 => by kernel_rfl
theorem rd3_90 : round1 3 4 90 := fun b d0 d1 d2 d3 d4 o0 o1 o2 o3 o4 o5 o6 o7 o8 o9 o10 o11 o12 o13 o14 o15 o16 => by kernel_rfl
theorem rd3_91 : round1 3 4 91 := fun b d0 d1 d2 d3 d4 o0 o1 o2 o3 o4 o5 o6 o7 o8 o9 o10 o11 o12 o13 o14 o15 o16 => by kernel_rfl
theorem rd3_92 : round1 3 4 92 := fun b d0 d1 d2 d3 d4 o0 o1 o2 o3 o4 o5 o6 o7 o8 o9 o10 o11 o12 o13 o14 o15 o16 => by kernel_rfl
theorem rd3_93 : round1 3 4 93 := fun b d0 d1 d2 d3 d4 o0 o1 o2 o3 o4 o5 o6 o7 o8 o9 o10 o11 o12 o13 o14 o15 o16 => by kernel_rfl
theorem rd3_94 : round1 3 4 94 := fun b d0 d1 d2 d3 d4 o0 o1 o2 o3 o4 o5 o6 o7 o8 o9 o10 o11 o12 o13 o14 o15 o16 => by kernel_rfl
theorem rd3_95 : round1 3 4 95 := fun b d0 d1 d2 d3 d4 o0 o1 o2 o3 o4 o5 o6 o7 o8 o9 o10 o11 o12 o13 o14 o15 o16 => by kernel_rfl
theorem rd3_96 : round1 3 4 96 := fun b d0 d1 d2 d3 d4 o0 o1 o2 o3 o4 o5 o6 o7 o8 o9 o10 o11 o12 o13 o14 o15 o16 => by kernel_rfl
theorem rd3_97 : round1 3 4 97 := fun b d0 d1 d2 d3 d4 o0 o1 o2 o3 o4 o5 o6 o7 o8 o9 o10 o11 o12 o13 o14 o15 o16 => by kernel_rfl
theorem rd3_98 : round1 3 4 98 := fun b d0 d1 d2 d3 d4 o0 o1 o2 o3 o4 o5 o6 o7 o8 o9 o10 o11 o12 o13 o14 o15 o16 => by kernel_rfl
theorem rd3_99 : round1 3 4 99 := fun b d0 d1 d2 d3 d4 o0 o1 o2 o3 o4 o5 o6 o7 o8 o9 o10 o11 o12 o13 o14 o15 o16 => by kernel_rfl
theorem rd3_100 : round1 3 4 100 := fun b d0 d1 d2 d3 d4 o0 o1 o2 o3 o4 o5 o6 o7 o8 o9 o10 o11 o12 o13 o14 o15 o16 => by kernel_rfl
theorem rd3_101 : round1 3 4 101 := fun b d0 d1 d2 d3 d4 o0 o1 o2 o3 o4 o5 o6 o7 o8 o9 o10 o11 o12 o13 o14 o15 o16 => by kernel_rfl
theorem rd3_102 : round1 3 4 102 := fun b d0 d1 d2 d3 d4 o0 o1 o2 o3 o4 o5 o6 o7 o8 o9 o10 o11 o12 o13 o14 o15 o16 => by kernel_rfl
theorem rd3_103 : round1 3 4 103 := fun b d0 d1 d2 d3 d4 o0 o1 o2 o3 o4 o5 o6 o7 o8 o9 o10 o11 o12 o13 o14 o15 o16 => by kernel_rfl
theorem rd3_104 : round1 3 4 104 := fun b d0 d1 d2 d3 d4 o0 o1 o2 o3 o4 o5 o6 o7 o8 o9 o10 o11 o12 o13 o14 o15 o16 => by kernel_rfl
theorem rd3_105 : round1 3 4 105 := fun b d0 d1 d2 d3 d4 o0 o1 o2 o3 o4 o5 o6 o7 o8 o9 o10 o11 o12 o13 o14 o15 o16 => by kernel_rfl
theorem rd3_106 : round1 3 4 106 := fun b d0 d1 d2 d3 d4 o0 o1 o2 o3 o4 o5 o6 o7 o8 o9 o10 o11 o12 o13 o14 o15 o16 => by kernel_rfl
theorem rd3_107 : round1 3 4 107 := fun b d0 d1 d2 d3 d4 o0 o1 o2 o3 o4 o5 o6 o7 o8 o9 o10 o11 o12 o13 o14 o15 o16 => by kernel_rfl
theorem rd3_108 : round1 3 4 108 := fun b d0 d1 d2 d3 d4 o0 o1 o2 o3 o4 o5 o6 o7 o8 o9 o10 o11 o12 o13 o14 o15 o16 => by kernel_rfl
theorem rd3_109 : round1 3 4 109 := fun b d0 d1 d2 d3 d4 o0 o1 o2 o3 o4 o5 o6 o7 o8 o9 o10 o11 o12 o13 o14 o15 o16 => by kernel_rfl
theorem rd3_110 : round1 3 4 110 := fun b d0 d1 d2 d3 d4 o0 o1 o2 o3 o4 o5 o6 o7 o8 o9 o10 o11 o12 o13 o14 o15 o16 => by kernel_rfl
theorem rd3_111 : round1 3 4 111 := fun b d0 d1 d2 d3 d4 o0 o1 o2 o3 o4 o5 o6 o7 o8 o9 o10 o11 o12 o13 o14 o15 o16 => by kernel_rfl
theorem rd3_112 : round1 3 4 112 := fun b d0 d1 d2 d3 d4 o0 o1 o2 o3 o4 o5 o6 o7 o8 o9 o10 o11 o12 o13 o14 o15 o16 => by kernel_rfl
theorem rd3_113 : round1 3 4 113 := fun b d0 d1 d2 d3 d4 o0 o1 o2 o3 o4 o5 o6 o7 o8 o9 o10 o11 o12 o13 o14 o15 o16 => by kernel_rfl
theorem rd3_114 : round1 3 4 114 := fun b d0 d1 d2 d3 d4 o0 o1 o2 o3 o4 o5 o6 o7 o8 o9 o10 o11 o12 o13 o14 o15 o16 => by kernel_rfl
theorem rd3_115 : round1 3 4 115 := fun b d0 d1 d2 d3 d4 o0 o1 o2 o3 o4 o5 o6 o7 o8 o9 o10 o11 o12 o13 o14 o15 o16 => by kernel_rfl
theorem rd3_116 : round1 3 4 116 := fun b d0 d1 d2 d3 d4 o0 o1 o2 o3 o4 o5 o6 o7 o8 o9 o10 o11 o12 o13 o14 o15 o16 => by kernel_rfl
theorem rd3_117 : round1 3 4 117 := fun b d0 d1 d2 d3 d4 o0 o1 o2 o3 o4 o5 o6 o7 o8 o9 o10 o11 o12 o13 o14 o15 o16 => by kernel_rfl
theorem rd3_118 : round1 3 4 118 := fun b d0 d1 d2 d3 d4 o0 o1 o2 o3 o4 o5 o6 o7 o8 o9 o10 o11 o12 o13 o14 o15 o16 => by kernel_rfl
theorem rd3_119 : round1 3 4 119 := fun b d0 d1 d2 d3 d4 o0 o1 o2 o3 o4 o5 o6 o7 o8 o9 o10 o11 o12 o13 o14 o15 o16 => by kernel_rfl
theorem rd3_120 : round1 3 4 120 := fun b d0 d1 d2 d3 d4 o0 o1 o2 o3 o4 o5 o6 o7 o8 o9 o10 o11 o12 o13 o14 o15 o16 => by kernel_rfl
theorem rd3_121 : round1 3 4 121 := fun b d0 d1 d2 d3 d4 o0 o1 o2 o3 o4 o5 o6 o7 o8 o9 o10 o11 o12 o13 o14 o15 o16 => by kernel_rfl
theorem rd3_122 : round1 3 4 122 := fun b d0 d1 d2 d3 d4 o0 o1 o2 o3 o4 o5 o6 o7 o8 o9 o10 o11 o12 o13 o14 o15 o16 => by kernel_rfl
theorem rd3_123 : round1 3 4 123 := fun b d0 d1 d2 d3 d4 o0 o1 o2 o3 o4 o5 o6 o7 o8 o9 o10 o11 o12 o13 o14 o15 o16 => by kernel_rfl
theorem rd3_124 : round1 3 4 124 := fun b d0 d1 d2 d3 d4 o0 o1 o2 o3 o4 o5 o6 o7 o8 o9 o10 o11 o12 o13 o14 o15 o16 => by kernel_rfl
theorem rd3_125 : round1 3 4 125 := fun b d0 d1 d2 d3 d4 o0 o1 o2 o3 o4 o5 o6 o7 o8 o9 o10 o11 o12 o13 o14 o15 o16 => by kernel_rfl
theorem rd3_126 : round1 3 4 126 := fun b d0 d1 d2 d3 d4 o0 o1 o2 o3 o4 o5 o6 o7 o8 o9 o10 o11 o12 o13 o14 o15 o16 => by kernel_rfl
theorem rd3_127 : round1 3 4 127 := fun b d0 d1 d2 d3 d4 o0 o1 o2 o3 o4 o5 o6 o7 o8 o9 o10 o11 o12 o13 o14 o15 o16 => by kernel_rfl
theorem rd3_128 : round1 3 4 128 := fun b d0 d1 d2 d3 d4 o0 o1 o2 o3 o4 o5 o6 o7 o8 o9 o10 o11 o12 o13 o14 o15 o16 => by kernel_rfl
theorem rd3_129 : round1 3 4 129 := fun b d0 d1 d2 d3 d4 o0 o1 o2 o3 o4 o5 o6 o7 o8 o9 o10 o11 o12 o13 o14 o15 o16 => by kernel_rfl
theorem rounds3 : rounds 3 4 130 := ⟨⟨⟨⟨⟨⟨⟨⟨⟨⟨⟨⟨⟨⟨⟨⟨⟨⟨⟨⟨⟨⟨⟨⟨⟨⟨⟨⟨⟨⟨⟨⟨⟨⟨⟨⟨⟨⟨⟨⟨⟨⟨⟨⟨⟨⟨⟨⟨⟨⟨⟨⟨⟨⟨⟨⟨⟨⟨⟨⟨⟨⟨⟨⟨⟨⟨⟨⟨⟨⟨⟨⟨⟨⟨⟨⟨⟨⟨⟨⟨⟨⟨⟨⟨⟨⟨⟨⟨⟨⟨⟨⟨⟨⟨⟨⟨⟨⟨⟨⟨⟨⟨⟨⟨⟨⟨⟨⟨⟨⟨⟨⟨⟨⟨⟨⟨⟨⟨⟨⟨⟨⟨⟨⟨⟨⟨⟨⟨⟨⟨trivial, rd3_0⟩, rd3_1⟩, rd3_2⟩, rd3_3⟩, rd3_4⟩, rd3_5⟩, rd3_6⟩, rd3_7⟩, rd3_8⟩, rd3_9⟩, rd3_10⟩, rd3_11⟩, rd3_12⟩, rd3_13⟩, rd3_14⟩, rd3_15⟩, rd3_16⟩, rd3_17⟩, rd3_18⟩, rd3_19⟩, rd3_20⟩, rd3_21⟩, rd3_22⟩, rd3_23⟩, rd3_24⟩, rd3_25⟩, rd3_26⟩, rd3_27⟩, rd3_28⟩, rd3_29⟩, rd3_30⟩, rd3_31⟩, rd3_32⟩, rd3_33⟩, rd3_34⟩, rd3_35⟩, rd3_36⟩, rd3_37⟩, rd3_38⟩, rd3_39⟩, rd3_40⟩, rd3_41⟩, rd3_42⟩, rd3_43⟩, rd3_44⟩, rd3_45⟩, rd3_46⟩, rd3_47⟩, rd3_48⟩, rd3_49⟩, rd3_50⟩, rd3_51⟩, rd3_52⟩, rd3_53⟩, rd3_54⟩, rd3_55⟩, rd3_56⟩, rd3_57⟩, rd3_58⟩, rd3_59⟩, rd3_60⟩, rd3_61⟩, rd3_62⟩, rd3_63⟩, rd3_64⟩, rd3_65⟩, rd3_66⟩, rd3_67⟩, rd3_68⟩, rd3_69⟩, rd3_70⟩, rd3_71⟩, rd3_72⟩, rd3_73⟩, rd3_74⟩, rd3_75⟩, rd3_76⟩, rd3_77⟩, rd3_78⟩, rd3_79⟩, rd3_80⟩, rd3_81⟩, rd3_82⟩, rd3_83⟩, rd3_84⟩, rd3_85⟩, rd3_86⟩, rd3_87⟩, rd3_88⟩, rd3_89⟩, rd3_90⟩, rd3_91⟩, rd3_92⟩, rd3_93⟩, rd3_94⟩, rd3_95⟩, rd3_96⟩, rd3_97⟩, rd3_98⟩, rd3_99⟩, rd3_100⟩, rd3_101⟩, rd3_102⟩, rd3_103⟩, rd3_104⟩, rd3_105⟩, rd3_106⟩, rd3_107⟩, rd3_108⟩, rd3_109⟩, rd3_110⟩, rd3_111⟩, rd3_112⟩, rd3_113⟩, rd3_114⟩, rd3_115⟩, rd3_116⟩, rd3_117⟩, rd3_118⟩, rd3_119⟩, rd3_120⟩, rd3_121⟩, rd3_122⟩, rd3_123⟩, rd3_124⟩, rd3_125⟩, rd3_126⟩, rd3_127⟩, rd3_128⟩, rd3_129⟩
theorem rd4_0 : round1 4 5 0 := fun b d0 d1 d2 d3 d4 o0 o1 o2 o3 o4 o5 o6 o7 o8 o9 o10 o11 o12 o13 o14 o15 o16 => by kernel_rfl
theorem rd4_1 : round1 4 5 1 := fun b d0 d1 d2 d3 d4 o0 o1 o2 o3 o4 o5 o6 o7 o8 o9 o10 o11 o12 o13 o14 o15 o16 => by kernel_rfl
theorem rd4_2 : round1 4 5 2 := fun b d0 d1 d2 d3 d4 o0 o1 o2 o3 o4 o5 o6 o7 o8 o9 o10 o11 o12 o13 o14 o15 o16 => by kernel_rfl
theorem rd4_3 : round1 4 5 3 := fun b d0 d1 d2 d3 d4 o0 o1 o2 o3 o4 o5 o6 o7 o8 o9 o10 o11 o12 o13 o14 o15 o16 => by kernel_rfl
theorem rd4_4 : round1 4 5 4 := fun b d0 d1 d2 d3 d4 o0 o1 o2 o3 o4 o5 o6 o7 o8 o9 o10 o11 o12 o13 o14 o15 o16 => by kernel_rfl
theorem rd4_5 : round1 4 5 5 := fun b d0 d1 d2 d3 d4 o0 o1 o2 o3 o4 o5 o6 o7 o8 o9 o10 o11 o12 o13 o14 o15 o16 => by kernel_rfl
theorem rd4_6 : round1 4 5 6 := fun b d0 d1 d2 d3 d4 o0 o1 o2 o3 o4 o5 o6 o7 o8 o9 o10 o11 o12 o13 o14 o15 o16 => by kernel_rfl
theorem rd4_7 : round1 4 5 7 := fun b d0 d1 d2 d3 d4 o0 o1 o2 o3 o4 o5 o6 o7 o8 o9 o10 o11 o12 o13 o14 o15 o16 => by kernel_rfl
theorem rd4_8 : round1 4 5 8 := fun b d0 d1 d2 d3 d4 o0 o1 o2 o3 o4 o5 o6 o7 o8 o9 o10 o11 o12 o13 o14 o15 o16 => by kernel_rfl
theorem rd4_9 : round1 4 5 9 := fun b d0 d1 d2 d3 d4 o0 o1 o2 o3 o4 o5 o6 o7 o8 o9 o10 o11 o12 o13 o14 o15 o16 => by kernel_rfl
theorem rd4_10 : round1 4 5 10 := fun b d0 d1 d2 d3 d4 o0 o1 o2 o3 o4 o5 o6 o7 o8 o9 o10 o11 o12 o13 o14 o15 o16 => by kernel_rfl
theorem rd4_11 : round1 4 5 11 := fun b d0 d1 d2 d3 d4 o0 o1 o2 o3 o4 o5 o6 o7 o8 o9 o10 o11 o12 o13 o14 o15 o16 => by kernel_rfl
theorem rd4_12 : round1 4 5 12 := fun b d0 d1 d2 d3 d4 o0 o1 o2 o3 o4 o5 o6 o7 o8 o9 o10 o11 o12 o13 o14 o15 o16 => by kernel_rfl
theorem rd4_13 : round1 4 5 13 := fun b d0 d1 d2 d3 d4 o0 o1 o2 o3 o4 o5 o6 o7 o8 o9 o10 o11 o12 o13 o14 o15 o16 => by kernel_rfl
theorem rd4_14 : round1 4 5 14 := fun b d0 d1 d2 d3 d4 o0 o1 o2 o3 o4 o5 o6 o7 o8 o9 o10 o11 o12 o13 o14 o15 o16 => by kernel_rfl
theorem rd4_15 : round1 4 5 15 := fun b d0 d1 d2 d3 d4 o0 o1 o2 o3 o4 o5 o6 o7 o8 o9 o10 o11 o12 o13 o14 o15 o16 => by kernel_rfl
theorem rd4_16 : round1 4 5 16 := fun b d0 d1 d2 d3 d4 o0 o1 o2 o3 o4 o5 o6 o7 o8 o9 o10 o11 o12 o13 o14 o15 o16 => by kernel_rfl
theorem rd4_17 : round1 4 5 17 := fun b d0 d1 d2 d3 d4 o0 o1 o2 o3 o4 o5 o6 o7 o8 o9 o10 o11 o12 o13 o14 o15 o16 => by kernel_rfl
theorem rd4_18 : round1 4 5 18 := fun b d0 d1 d2 d3 d4 o0 o1 o2 o3 o4 o5 o6 o7 o8 o9 o10 o11 o12 o13 o14 o15 o16 => by kernel_rfl
theorem rd4_19 : round1 4 5 19 := fun b d0 d1 d2 d3 d4 o0 o1 o2 o3 o4 o5 o6 o7 o8 o9 o10 o11 o12 o13 o14 o15 o16 => by kernel_rfl
theorem rd4_20 : round1 4 5 20 := fun b d0 d1 d2 d3 d4 o0 o1 o2 o3 o4 o5 o6 o7 o8 o9 o10 o11 o12 o13 o14 o15 o16 => by kernel_rfl
theorem rd4_21 : round1 4 5 21 := fun b d0 d1 d2 d3 d4 o0 o1 o2 o3 o4 o5 o6 o7 o8 o9 o10 o11 o12 o13 o14 o15 o16 => by kernel_rfl
theorem rd4_22 : round1 4 5 22 := fun b d0 d1 d2 d3 d4 o0 o1 o2 o3 o4 o5 o6 o7 o8 o9 o10 o11 o12 o13 o14 o15 o16 => by kernel_rfl
theorem rd4_23 : round1 4 5 23 := fun b d0 d1 d2 d3 d4 o0 o1 o2 o3 o4 o5 o6 o7 o8 o9 o10 o11 o12 o13 o14 o15 o16 => by kernel_rfl
theorem rd4_24 : round1 4 5 24 := fun b d0 d1 d2 d3 d4 o0 o1 o2 o3 o4 o5 o6 o7 o8 o9 o10 o11 o12 o13 o14 o15 o16 => by kernel_rfl
theorem rd4_25 : round1 4 5 25 := fun b d0 d1 d2 d3 d4 o0 o1 o2 o3 o4 o5 o6 o7 o8 o9 o10 o11 o12 o13 o14 o15 o16 => by kernel_rfl
theorem rd4_26 : round1 4 5 26 := fun b d0 d1 d2 d3 d4 o0 o1 o2 o3 o4 o5 o6 o7 o8 o9 o10 o11 o12 o13 o14 o15 o16 => by kernel_rfl
theorem rd4_27 : round1 4 5 27 := fun b d0 d1 d2 d3 d4 o0 o1 o2 o3 o4 o5 o6 o7 o8 o9 o10 o11 o12 o13 o14 o15 o16 => by kernel_rfl
theorem rd4_28 : round1 4 5 28 := fun b d0 d1 d2 d3 d4 o0 o1 o2 o3 o4 o5 o6 o7 o8 o9 o10 o11 o12 o13 o14 o15 o16 => by kernel_rfl
theorem rd4_29 : round1 4 5 29 := fun b d0 d1 d2 d3 d4 o0 o1 o2 o3 o4 o5 o6 o7 o8 o9 o10 o11 o12 o13 o14 o15 o16 => by kernel_rfl
theorem rd4_30 : round1 4 5 30 := fun b d0 d1 d2 d3 d4 o0 o1 o2 o3 o4 o5 o6 o7 o8 o9 o10 o11 o12 o13 o14 o15 o16 => by kernel_rfl
theorem rd4_31 : round1 4 5 31 := fun b d0 d1 d2 d3 d4 o0 o1 o2 o3 o4 o5 o6 o7 o8 o9 o10 o11 o12 o13 o14 o15 o16 => by kernel_rfl
theorem rd4_32 : round1 4 5 32 := fun b d0 d1 d2 d3 d4 o0 o1 o2 o3 o4 o5 o6 o7 o8 o9 o10 o11 o12 o13 o14 o15 o16 => by kernel_rfl
theorem rd4_33 : round1 4 5 33 := fun b d0 d1 d2 d3 d4 o0 o1 o2 o3 o4 o5 o6 o7 o8 o9 o10 o11 o12 o13 o14 o15 o16 => by kernel_rfl
theorem rd4_34 : round1 4 5 34 := fun b d0 d1 d2 d3 d4 o0 o1 o2 o3 o4 o5 o6 o7 o8 o9 o10 o11 o12 o13 o14 o15 o16 => by kernel_rfl
theorem rd4_35 : round1 4 5 35 := fun b d0 d1 d2 d3 d4 o0 o1 o2 o3 o4 o5 o6 o7 o8 o9 o10 o11 o12 o13 o14 o15 o16 => by kernel_rfl
theorem rd4_36 : round1 4 5 36 := fun b d0 d1 d2 d3 d4 o0 o1 o2 o3 o4 o5 o6 o7 o8 o9 o10 o11 o12 o13 o14 o15 o16 => by kernel_rfl
theorem rd4_37 : round1 4 5 37 := fun b d0 d1 d2 d3 d4 o0 o1 o2 o3 o4 o5 o6 o7 o8 o9 o10 o11 o12 o13 o14 o15 o16 => by kernel_rfl
theorem rd4_38 : round1 4 5 38 := fun b d0 d1 d2 d3 d4 o0 o1 o2 o3 o4 o5 o6 o7 o8 o9 o10 o11 o12 o13 o14 o15 o16 => by kernel_rfl
theorem rd4_39 : round1 4 5 39 := fun b d0 d1 d2 d3 d4 o0 o1 o2 o3 o4 o5 o6 o7 o8 o9 o10 o11 o12 o13 o14 o15 o16 => by kernel_rfl
theorem rd4_40 : round1 4 5 40 := fun b d0 d1 d2 d3 d4 o0 o1 o2 o3 o4 o5 o6 o7 o8 o9 o10 o11 o12 o13 o14 o15 o16 => by kernel_rfl
theorem rd4_41 : round1 4 5 41 := fun b d0 d1 d2 d3 d4 o0 o1 o2 o3 o4 o5 o6 o7 o8 o9 o10 o11 o12 o13 o14 o15 o16 => by kernel_rfl
theorem rd4_42 : round1 4 5 42 := fun b d0 d1 d2 d3 d4 o0 o1 o2 o3 o4 o5 o6 o7 o8 o9 o10 o11 o12 o13 o14 o15 o16 => by kernel_rfl
theorem rd4_43 : round1 4 5 43 := fun b d0 d1 d2 d3 d4 o0 o1 o2 o3 o4 o5 o6 o7 o8 o9 o10 o11 o12 o13 o14 o15 o16 => by kernel_rfl
theorem rd4_44 : round1 4 5 44 := fun b d0 d1 d2 d3 d4 o0 o1 o2 o3 o4 o5 o6 o7 o8 o9 o10 o11 o12 o13 o14 o15 o16 => by kernel_rfl
theorem rd4_45 : round1 4 5 45 := fun b d0 d1 d2 d3 d4 o0 o1 o2 o3 o4 o5 o6 o7 o8 o9 o10 o11 o12 o13 o14 o15 o16 => by kernel_rfl
theorem rd4_46 : round1 4 5 46 := fun b d0 d1 d2 d3 d4 o0 o1 o2 o3 o4 o5 o6 o7 o8 o9 o10 o11 o12 o13 o14 o15 o16 => by kernel_rfl
theorem rd4_47 : round1 4 5 47 := fun b d0 d1 d2 d3 d4 o0 o1 o2 o3 o4 o5 o6 o7 o8 o9 o10 o11 o12 o13 o14 o15 o16 => by kernel_rfl
theorem rd4_48 : round1 4 5 48 := fun b d0 d1 d2 d3 d4 o0 o1 o2 o3 o4 o5 o6 o7 o8 o9 o10 o11 o12 o13 o14 o15 o16 => by kernel_rfl
theorem rd4_49 : round1 4 5 49 := fun b d0 d1 d2 d3 d4 o0 o1 o2 o3 o4 o5 o6 o7 o8 o9 o10 o11 o12 o13 o14 o15 o16 => by kernel_rfl
theorem rd4_50 : round1 4 5 50 := fun b d0 d1 d2 d3 d4 o0 o1 o2 o3 o4 o5 o6 o7 o8 o9 o10 o11 o12 o13 o14 o15 o16 => by kernel_rfl
theorem rd4_51 : round1 4 5 51 := fun b d0 d1 d2 d3 d4 o0 o1 o2 o3 o4 o5 o6 o7 o8 o9 o10 o11 o12 o13 o14 o15 o16 => by kernel_rfl
theorem rd4_52 : round1 4 5 52 := fun b d0 d1 d2 d3 d4 o0 o1 o2 o3 o4 o5 o6 o7 o8 o9 o10 o11 o12 o13 o14 o15 o16 => by kernel_rfl
theorem rd4_53 : round1 4 5 53 := fun b d0 d1 d2 d3 d4 o0 o1 o2 o3 o4 o5 o6 o7 o8 o9 o10 o11 o12 o13 o14 o15 o16 => by kernel_rfl
theorem rd4_54 : round1 4 5 54 := fun b d0 d1 d2 d3 d4 o0 o1 o2 o3 o4 o5 o6 o7 o8 o9 o10 o11 o12 o13 o14 o15 o16 => by kernel_rfl
theorem rd4_55 : round1 4 5 55 := fun b d0 d1 d2 d3 d4 o0 o1 o2 o3 o4 o5 o6 o7 o8 o9 o10 o11 o12 o13 o14 o15 o16 => by kernel_rfl
theorem rd4_56 : round1 4 5 56 := fun b d0 d1 d2 d3 d4 o0 o1 o2 o3 o4 o5 o6 o7 o8 o9 o10 o11 o12 o13 o14 o15 o16 => by kernel_rfl
theorem rd4_57 : round1 4 5 57 := fun b d0 d1 d2 d3 d4 o0 o1 o2 o3 o4 o5 o6 o7 o8 o9 o10 o11 o12 o13 o14 o15 o16 => by kernel_rfl
theorem rd4_58 : round1 4 5 58 := fun b d0 d1 d2 d3 d4 o0 o1 o2 o3 o4 o5 o6 o7 o8 o9 o10 o11 o12 o13 o14 o15 o16 => by kernel_rfl
theorem rd4_59 : round1 4 5 59 := fun b d0 d1 d2 d3 d4 o0 o1 o2 o3 o4 o5 o6 o7 o8 o9 o10 o11 o12 o13 o14 o15 o16 => by kernel_rfl
theorem rd4_60 : round1 4 5 60 := fun b d0 d1 d2 d3 d4 o0 o1 o2 o3 o4 o5 o6 o7 o8 o9 o10 o11 o12 o13 o14 o15 o16 => by kernel_rfl
theorem rd4_61 : round1 4 5 61 := fun b d0 d1 d2 d3 d4 o0 o1 o2 o3 o4 o5 o6 o7 o8 o9 o10 o11 o12 o13 o14 o15 o16 => by kernel_rfl
theorem rd4_62 : round1 4 5 62 := fun b d0 d1 d2 d3 d4 o0 o1 o2 o3 o4 o5 o6 o7 o8 o9 o10 o11 o12 o13 o14 o15 o16 => by kernel_rfl
theorem rd4_63 : round1 4 5 63 := fun b d0 d1 d2 d3 d4 o0 o1 o2 o3 o4 o5 o6 o7 o8 o9 o10 o11 o12 o13 o14 o15 o16 => by kernel_rfl
theorem rd4_64 : round1 4 5 64 := fun b d0 d1 d2 d3 d4 o0 o1 o2 o3 o4 o5 o6 o7 o8 o9 o10 o11 o12 o13 o14 o15 o16 => by kernel_rfl
theorem rd4_65 : round1 4 5 65 := fun b d0 d1 d2 d3 d4 o0 o1 o2 o3 o4 o5 o6 o7 o8 o9 o10 o11 o12 o13 o14 o15 o16 => by kernel_rfl
theorem rd4_66 : round1 4 5 66 := fun b d0 d1 d2 d3 d4 o0 o1 o2 o3 o4 o5 o6 o7 o8 o9 o10 o11 o12 o13 o14 o15 o16 => by kernel_rfl
theorem rd4_67 : round1 4 5 67 := fun b d0 d1 d2 d3 d4 o0 o1 o2 o3 o4 o5 o6 o7 o8 o9 o10 o11 o12 o13 o14 o15 o16 => by kernel_rfl
theorem rd4_68 : round1 4 5 68 := fun b d0 d1 d2 d3 d4 o0 o1 o2 o3 o4 o5 o6 o7 o8 o9 o10 o11 o12 o13 o14 o15 o16 => by kernel_rfl
theorem rd4_69 : round1 4 5 69 := fun b d0 d1 d2 d3 d4 o0 o1 o2 o3 o4 o5 o6 o7 o8 o9 o10 o11 o12 o13 o14 o15 o16 => by kernel_rfl
theorem rd4_70 : round1 4 5 70 := fun b d0 d1 d2 d3 d4 o0 o1 o2 o3 o4 o5 o6 o7 o8 o9 o10 o11 o12 o13 o14 o15 o16 => by kernel_rfl
theorem rd4_71 : round1 4 5 71 := fun b d0 d1 d2 d3 d4 o0 o1 o2 o3 o4 o5 o6 o7 o8 o9 o10 o11 o12 o13 o14 o15 o16 => by kernel_rfl
theorem rd4_72 : round1 4 5 72 := fun b d0 d1 d2 d3 d4 o0 o1 o2 o3 o4 o5 o6 o7 o8 o9 o10 o11 o12 o13 o14 o15 o16 => by kernel_rfl
theorem rd4_73 : round1 4 5 73 := fun b d0 d1 d2 d3 d4 o0 o1 o2 o3 o4 o5 o6 o7 o8 o9 o10 o11 o12 o13 o14 o15 o16 => by kernel_rfl
theorem rd4_74 : round1 4 5 74 := fun b d0 d1 d2 d3 d4 o0 o1 o2 o3 o4 o5 o6 o7 o8 o9 o10 o11 o12 o13 o14 o15 o16 => by kernel_rfl
theorem rd4_75 : round1 4 5 75 := fun b d0 d1 d2 d3 d4 o0 o1 o2 o3 o4 o5 o6 o7 o8 o9 o10 o11 o12 o13 o14 o15 o16 => by kernel_rfl
theorem rd4_76 : round1 4 5 76 := fun b d0 d1 d2 d3 d4 o0 o1 o2 o3 o4 o5 o6 o7 o8 o9 o10 o11 o12 o13 o14 o15 o16 => by kernel_rfl
theorem rd4_77 : round1 4 5 77 := fun b d0 d1 d2 d3 d4 o0 o1 o2 o3 o4 o5 o6 o7 o8 o9 o10 o11 o12 o13 o14 o15 o16 => by kernel_rfl
theorem rd4_78 : round1 4 5 78 := fun b d0 d1 d2 d3 d4 o0 o1 o2 o3 o4 o5 o6 o7 o8 o9 o10 o11 o12 o13 o14 o15 o16 => by kernel_rfl
theorem rd4_79 : round1 4 5 79 := fun b d0 d1 d2 d3 d4 o0 o1 o2 o3 o4 o5 o6 o7 o8 o9 o10 o11 o12 o13 o14 o15 o16 => by kernel_rfl
theorem rd4_80 : round1 4 5 80 := fun b d0 d1 d2 d3 d4 o0 o1 o2 o3 o4 o5 o6 o7 o8 o9 o10 o11 o12 o13 o14 o15 o16 => by kernel_rfl
theorem rd4_81 : round1 4 5 81 := fun b d0 d1 d2 d3 d4 o0 o1 o2 o3 o4 o5 o6 o7 o8 o9 o10 o11 o12 o13 o14 o15 o16 => by kernel_rfl
theorem rd4_82 : round1 4 5 82 := fun b d0 d1 d2 d3 d4 o0 o1 o2 o3 o4 o5 o6 o7 o8 o9 o10 o11 o12 o13 o14 o15 o16 => by kernel_rfl
theorem rd4_83 : round1 4 5 83 := fun b d0 d1 d2 d3 d4 o0 o1 o2 o3 o4 o5 o6 o7 o8 o9 o10 o11 o12 o13 o14 o15 o16 => by kernel_rfl
theorem rd4_84 : round1 4 5 84 := fun b d0 d1 d2 d3 d4 o0 o1 o2 o3 o4 o5 o6 o7 o8 o9 o10 o11 o12 o13 o14 o15 o16 => by kernel_rfl
theorem rd4_85 : round1 4 5 85 := fun b d0 d1 d2 d3 d4 o0 o1 o2 o3 o4 o5 o6 o7 o8 o9 o10 o11 o12 o13 o14 o15 o16 => by kernel_rfl
theorem rd4_86 : round1 4 5 86 := fun b d0 d1 d2 d3 d4 o0 o1 o2 o3 o4 o5 o6 o7 o8 o9 o10 o11 o12 o13 o14 o15 o16 => by kernel_rfl
theorem rd4_87 : round1 4 5 87 := fun b d0 d1 d2 d3 d4 o0 o1 o2 o3 o4 o5 o6 o7 o8 o9 o10 o11 o12 o13 o14 o15 o16 => by kernel_rfl
theorem rd4_88 : round1 4 5 88 := fun b d0 d1 d2 d3 d4 o0 o1 o2 o3 o4 o5 o6 o7 o8 o9 o10 o11 o12 o13 o14 o15 o16 => by kernel_rfl
theorem rd4_89 : round1 4 5 89 := fun b d0 d1 d2 d3 d4 o0 o1 o2 o3 o4 o5 o6 o7 o8 o9 o10 o11 o12 o13 o14 o15 o16 => by kernel_rfl
theorem rd4_90 : round1 4 5 90 := fun b d0 d1 d2 d3 d4 o0 o1 o2 o3 o4 o5 o6 o7 o8 o9 o10 o11 o12 o13 o14 o15 o16 => by kernel_rfl
theorem rd4_91 : round1 4 5 91 := fun b d0 d1 d2 d3 d4 o0 o1 o2 o3 o4 o5 o6 o7 o8 o9 o10 o11 o12 o13 o14 o15 o16 => by kernel_rfl
theorem rd4_92 : round1 4 5 92 := fun b d0 d1 d2 d3 d4 o0 o1 o2 o3 o4 o5 o6 o7 o8 o9 o10 o11 o12 o13 o14 o15 o16 => by kernel_rfl
theorem rd4_93 : round1 4 5 93 := fun b d0 d1 d2 d3 d4 o0 o1 o2 o3 o4 o5 o6 o7 o8 o9 o10 o11 o12 o13 o14 o15 o16 => by kernel_rfl
theorem rd4_94 : round1 4 5 94 := fun b d0 d1 d2 d3 d4 o0 o1 o2 o3 o4 o5 o6 o7 o8 o9 o10 o11 o12 o13 o14 o15 o16 => by kernel_rfl
theorem rd4_95 : round1 4 5 95 := fun b d0 d1 d2 d3 d4 o0 o1 o2 o3 o4 o5 o6 o7 o8 o9 o10 o11 o12 o13 o14 o15 o16 => by kernel_rfl
theorem rd4_96 : round1 4 5 96 := fun b d0 d1 d2 d3 d4 o0 o1 o2 o3 o4 o5 o6 o7 o8 o9 o10 o11 o12 o13 o14 o15 o16 => by kernel_rfl
theorem rd4_97 : round1 4 5 97 := fun b d0 d1 d2 d3 d4 o0 o1 o2 o3 o4 o5 o6 o7 o8 o9 o10 o11 o12 o13 o14 o15 o16 => by kernel_rfl
theorem rd4_98 : round1 4 5 98 := fun b d0 d1 d2 d3 d4 o0 o1 o2 o3 o4 o5 o6 o7 o8 o9 o10 o11 o12 o13 o14 o15 o16 => by kernel_rfl
theorem rd4_99 : round1 4 5 99 := fun b d0 d1 d2 d3 d4 o0 o1 o2 o3 o4 o5 o6 o7 o8 o9 o10 o11 o12 o13 o14 o15 o16 => by kernel_rfl
theorem rd4_100 : round1 4 5 100 := fun b d0 d1 d2 d3 d4 o0 o1 o2 o3 o4 o5 o6 o7 o8 o9 o10 o11 o12 o13 o14 o15 o16 => by kernel_rfl
theorem rd4_101 : round1 4 5 101 := fun b d0 d1 d2 d3 d4 o0 o1 o2 o3 o4 o5 o6 o7 o8 o9 o10 o11 o12 o13 o14 o15 o16 => by kernel_rfl
theorem rd4_102 : round1 4 5 102 := fun b d0 d1 d2 d3 d4 o0 o1 o2 o3 o4 o5 o6 o7 o8 o9 o10 o11 o12 o13 o14 o15 o16 => by kernel_rfl
theorem rd4_103 : round1 4 5 103 := fun b d0 d1 d2 d3 d4 o0 o1 o2 o3 o4 o5 o6 o7 o8 o9 o10 o11 o12 o13 o14 o15 o16 => by kernel_rfl
theorem rd4_104 : round1 4 5 104 := fun b d0 d1 d2 d3 d4 o0 o1 o2 o3 o4 o5 o6 o7 o8 o9 o10 o11 o12 o13 o14 o15 o16 => by kernel_rfl
theorem rd4_105 : round1 4 5 105 := fun b d0 d1 d2 d3 d4 o0 o1 o2 o3 o4 o5 o6 o7 o8 o9 o10 o11 o12 o13 o14 o15 o16 => by kernel_rfl
theorem rd4_106 : round1 4 5 106 := fun b d0 d1 d2 d3 d4 o0 o1 o2 o3 o4 o5 o6 o7 o8 o9 o10 o11 o12 o13 o14 o15 o16 => by kernel_rfl
theorem rd4_107 : round1 4 5 107 := fun b d0 d1 d2 d3 d4 o0 o1 o2 o3 o4 o5 o6 o7 o8 o9 o10 o11 o12 o13 o14 o15 o16 => by kernel_rfl
theorem rd4_108 : round1 4 5 108 := fun b d0 d1 d2 d3 d4 o0 o1 o2 o3 o4 o5 o6 o7 o8 o9 o10 o11 o12 o13 o14 o15 o16 => by kernel_rfl
theorem rd4_109 : round1 4 5 109 := fun b d0 d1 d2 d3 d4 o0 o1 o2 o3 o4 o5 o6 o7 o8 o9 o10 o11 o12 o13 o14 o15 o16 => by kernel_rfl
theorem rd4_110 : round1 4 5 110 := fun b d0 d1 d2 d3 d4 o0 o1 o2 o3 o4 o5 o6 o7 o8 o9 o10 o11 o12 o13 o14 o15 o16 => by kernel_rfl
theorem rd4_111 : round1 4 5 111 := fun b d0 d1 d2 d3 d4 o0 o1 o2 o3 o4 o5 o6 o7 o8 o9 o10 o11 o12 o13 o14 o15 o16 => by kernel_rfl
theorem rd4_112 : round1 4 5 112 := fun b d0 d1 d2 d3 d4 o0 o1 o2 o3 o4 o5 o6 o7 o8 o9 o10 o11 o12 o13 o14 o15 o16 => by kernel_rfl
theorem rd4_113 : round1 4 5 113 := fun b d0 d1 d2 d3 d4 o0 o1 o2 o3 o4 o5 o6 o7 o8 o9 o10 o11 o12 o13 o14 o15 o16 => by kernel_rfl
theorem rd4_114 : round1 4 5 114 := fun b d0 d1 d2 d3 d4 o0 o1 o2 o3 o4 o5 o6 o7 o8 o9 o10 o11 o12 o13 o14 o15 o16 => by kernel_rfl
theorem rd4_115 : round1 4 5 115 := fun b d0 d1 d2 d3 d4 o0 o1 o2 o3 o4 o5 o6 o7 o8 o9 o10 o11 o12 o13 o14 o15 o16 => by kernel_rfl
theorem rd4_116 : round1 4 5 116 := fun b d0 d1 d2 d3 d4 o0 o1 o2 o3 o4 o5 o6 o7 o8 o9 o10 o11 o12 o13 o14 o15 o16 => by kernel_rfl
theorem rd4_117 : round1 4 5 117 := fun b d0 d1 d2 d3 d4 o0 o1 o2 o3 o4 o5 o6 o7 o8 o9 o10 o11 o12 o13 o14 o15 o16 => by kernel_rfl
theorem rd4_118 : round1 4 5 118 := fun b d0 d1 d2 d3 d4 o0 o1 o2 o3 o4 o5 o6 o7 o8 o9 o10 o11 o12 o13 o14 o15 o16 => by kernel_rfl
theorem rd4_119 : round1 4 5 119 := fun b d0 d1 d2 d3 d4 o0 o1 o2 o3 o4 o5 o6 o7 o8 o9 o10 o11 o12 o13 o14 o15 o16 => by kernel_rfl
theorem rd4_120 : round1 4 5 120 := fun b d0 d1 d2 d3 d4 o0 o1 o2 o3 o4 o5 o6 o7 o8 o9 o10 o11 o12 o13 o14 o15 o16 => by kernel_rfl
theorem rd4_121 : round1 4 5 121 := fun b d0 d1 d2 d3 d4 o0 o1 o2 o3 o4 o5 o6 o7 o8 o9 o10 o11 o12 o13 o14 o15 o16 => by kernel_rfl
theorem rd4_122 : round1 4 5 122 := fun b d0 d1 d2 d3 d4 o0 o1 o2 o3 o4 o5 o6 o7 o8 o9 o10 o11 o12 o13 o14 o15 o16 => by kernel_rfl
theorem rd4_123 : round1 4 5 123 := fun b d0 d1 d2 d3 d4 o0 o1 o2 o3 o4 o5 o6 o7 o8 o9 o10 o11 o12 o13 o14 o15 o16 => by kernel_rfl
theorem rd4_124 : round1 4 5 124 := fun b d0 d1 d2 d3 d4 o0 o1 o2 o3 o4 o5 o6 o7 o8 o9 o10 o11 o12 o13 o14 o15 o16 => by kernel_rfl
theorem rd4_125 : round1 4 5 125 := fun b d0 d1 d2 d3 d4 o0 o1 o2 o3 o4 o5 o6 o7 o8 o9 o10 o11 o12 o13 o14 o15 o16 => by kernel_rfl
theorem rd4_126 : round1 4 5 126 := fun b d0 d1 d2 d3 d4 o0 o1 o2 o3 o4 o5 o6 o7 o8 o9 o10 o11 o12 o13 o14 o15 o16 => by kernel_rfl
theorem rd4_127 : round1 4 5 127 := fun b d0 d1 d2 d3 d4 o0 o1 o2 o3 o4 o5 o6 o7 o8 o9 o10 o11 o12 o13 o14 o15 o16 => by kernel_rfl
theorem rd4_128 : round1 4 5 128 := fun b d0 d1 d2 d3 d4 o0 o1 o2 o3 o4 o5 o6 o7 o8 o9 o10 o11 o12 o13 o14 o15 o16 => by kernel_rfl
theorem rd4_129 : round1 4 5 129 := fun b d0 d1 d2 d3 d4 o0 o1 o2 o3 o4 o5 o6 o7 o8 o9 o10 o11 o12 o13 o14 o15 o16 => by kernel_rfl
theorem rounds4 : rounds 4 5 130 := ⟨⟨⟨⟨⟨⟨⟨⟨⟨⟨⟨⟨⟨⟨⟨⟨⟨⟨⟨⟨⟨⟨⟨⟨⟨⟨⟨⟨⟨⟨⟨⟨⟨⟨⟨⟨⟨⟨⟨⟨⟨⟨⟨⟨⟨⟨⟨⟨⟨⟨⟨⟨⟨⟨⟨⟨⟨⟨⟨⟨⟨⟨⟨⟨⟨⟨⟨⟨⟨⟨⟨⟨⟨⟨⟨⟨⟨⟨⟨⟨⟨⟨⟨⟨⟨⟨⟨⟨⟨⟨⟨⟨⟨⟨⟨⟨⟨⟨⟨⟨⟨⟨⟨⟨⟨⟨⟨⟨⟨⟨⟨⟨⟨⟨⟨⟨⟨⟨⟨⟨⟨⟨⟨⟨⟨⟨⟨⟨⟨⟨trivial, rd4_0⟩, rd4_1⟩, rd4_2⟩, rd4_3⟩, rd4_4⟩, rd4_5⟩, rd4_6⟩, rd4_7⟩, rd4_8⟩, rd4_9⟩, rd4_10⟩, rd4_11⟩, rd4_12⟩, rd4_13⟩, rd4_14⟩, rd4_15⟩, rd4_16⟩, rd4_17⟩, rd4_18⟩, rd4_19⟩, rd4_20⟩, rd4_21⟩, rd4_22⟩, rd4_23⟩, rd4_24⟩, rd4_25⟩, rd4_26⟩, rd4_27⟩, rd4_28⟩, rd4_29⟩, rd4_30⟩, rd4_31⟩, rd4_32⟩, rd4_33⟩, rd4_34⟩, rd4_35⟩, rd4_36⟩, rd4_37⟩, rd4_38⟩, rd4_39⟩, rd4_40⟩, rd4_41⟩, rd4_42⟩, rd4_43⟩, rd4_44⟩, rd4_45⟩, rd4_46⟩, rd4_47⟩, rd4_48⟩, rd4_49⟩, rd4_50⟩, rd4_51⟩, rd4_52⟩, rd4_53⟩, rd4_54⟩, rd4_55⟩, rd4_56⟩, rd4_57⟩, rd4_58⟩, rd4_59⟩, rd4_60⟩, rd4_61⟩, rd4_62⟩, rd4_63⟩, rd4_64⟩, rd4_65⟩, rd4_66⟩, rd4_67⟩, rd4_68⟩, rd4_69⟩, rd4_70⟩, rd4_71⟩, rd4_72⟩, rd4_73⟩, rd4_74⟩, rd4_75⟩, rd4_76⟩, rd4_77⟩, rd4_78⟩, rd4_79⟩, rd4_80⟩, rd4_81⟩, rd4_82⟩, rd4_83⟩, rd4_84⟩, rd4_85⟩, rd4_86⟩, rd4_87⟩, rd4_88⟩, rd4_89⟩, rd4_90⟩, rd4_91⟩, rd4_92⟩, rd4_93⟩, rd4_94⟩, rd4_95⟩, rd4_96⟩, rd4_97⟩, rd4_98⟩, rd4_99⟩, rd4_100⟩, rd4_101⟩, rd4_102⟩, rd4_103⟩, rd4_104⟩, rd4_105⟩, rd4_106⟩, rd4_107⟩, rd4_108⟩, rd4_109⟩, rd4_110⟩, rd4_111⟩, rd4_112⟩, rd4_113⟩, rd4_114⟩, rd4_115⟩, rd4_116⟩, rd4_117⟩, rd4_118⟩, rd4_119⟩, rd4_120⟩, rd4_121⟩, rd4_122⟩, rd4_123⟩, rd4_124⟩, rd4_125⟩, rd4_126⟩, rd4_127⟩, rd4_128⟩, rd4_129⟩
theorem in3_run (b : Blk) (d : List Int) : execF (mk []) 100 (seqL tailR) 2 [2, 3, 9] [0, 1, 2, 3, 4] ⟨tmE 3, hpE 3 b d, []⟩ = some (.normal, ⟨tmE 3 |>.set 9 (.ptr 4 0), hpO 3 4 b d (List.replicate 17 0), []⟩) := by kernel_rfl
theorem in4_run (b : Blk) (d : List Int) : execF (mk []) 100 (seqL tailR) 2 [2, 3, 9] [0, 1, 2, 4, 5] ⟨tmE 4, hpE 4 b d, []⟩ = some (.normal, ⟨tmE 4 |>.set 9 (.ptr 5 0), hpO 4 5 b d (List.replicate 17 0), []⟩) := by kernel_rfl
theorem i3_run (b : Blk) (d o : List Int) : execF (mk []) 100 (seqL (seqL (seqR tailR))) 2 [2, 3, 9, 10] [0, 1, 2, 3, 4] ⟨tmE 3 |>.set 9 (.ptr 4 0), hpO 3 4 b d o, []⟩ = some (.normal, ⟨tmO 3 4 0, hpO 3 4 b d o, []⟩) := by kernel_rfl
theorem i4_run (b : Blk) (d o : List Int) : execF (mk []) 100 (seqL (seqL (seqR tailR))) 2 [2, 3, 9, 10] [0, 1, 2, 4, 5] ⟨tmE 4 |>.set 9 (.ptr 5 0), hpO 4 5 b d o, []⟩ = some (.normal, ⟨tmO 4 5 0, hpO 4 5 b d o, []⟩) := by kernel_rfl
theorem stop3_run (b : Blk) (d o : List Int) : execF (mk []) 100 loopO 2 [2, 3, 9, 10] [0, 1, 2, 3, 4] ⟨tmO 3 4 130, hpO 3 4 b d o, []⟩ = some (.exit 10, ⟨tmO 3 4 130, hpO 3 4 b d o, []⟩) := by kernel_rfl
theorem stop4_run (b : Blk) (d o : List Int) : execF (mk []) 100 loopO 2 [2, 3, 9, 10] [0, 1, 2, 4, 5] ⟨tmO 4 5 130, hpO 4 5 b d o, []⟩ = some (.exit 10, ⟨tmO 4 5 130, hpO 4 5 b d o, []⟩) := by kernel_rfl
theorem end3_run (b : Blk) (d : List Int) (o0 o1 o2 o3 o4 o5 o6 o7 o8 o9 o10 o11 o12 o13 o14 o15 o16 : Int) : endRes (mk []) Tryd.f41 100 endO ⟨tmO 3 4 130, hpO 3 4 b d [o0, o1, o2, o3, o4, o5, o6, o7, o8, o9, o10, o11, o12, o13, o14, o15, o16], []⟩ [b] =
    some ⟨.agg .u8 [o0, o1, o2, o3, o4, o5, o6, o7, o8, o9, o10, o11, o12, o13, o14, o15, o16], [some b], none, []⟩ := by kernel_rfl
theorem end4_run (b : Blk) (d : List Int) (o0 o1 o2 o3 o4 o5 o6 o7 o8 o9 o10 o11 o12 o13 o14 o15 o16 : Int) : endRes (mk []) Tryd.f41 100 endO ⟨tmO 4 5 130, hpO 4 5 b d [o0, o1, o2, o3, o4, o5, o6, o7, o8, o9, o10, o11, o12, o13, o14, o15, o16], []⟩ [b] =
    some ⟨.agg .u8 [o0, o1, o2, o3, o4, o5, o6, o7, o8, o9, o10, o11, o12, o13, o14, o15, o16], [some b], none, []⟩ := by kernel_rfl

end Go.Proofs.YtbdmahidobjaoaaDoor.Sx
