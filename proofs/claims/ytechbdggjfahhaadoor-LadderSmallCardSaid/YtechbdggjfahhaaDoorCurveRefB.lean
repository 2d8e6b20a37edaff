/-
  The document's reduce, piece by piece, as its text reckons it.
-/
import Derived.Test.YtechbdggjfahhaaDoorCurveRefA
namespace Go.Proofs.YtechbdggjfahhaaDoor.Sx
open Go
set_option maxRecDepth 100000

noncomputable def bodyR : Code := (Tryd.f32.body).getD .skip
theorem bodyR_eq : Tryd.f32.body = some bodyR := by kernel_rfl
noncomputable def codeA : Code := loopC (blkC (seqL (post 3 bodyR)))
noncomputable def restB : Code := seqR (post 3 bodyR)
noncomputable def codeB : Code := loopC (blkC (seqL restB))
noncomputable def testB : Code := seqL codeB
noncomputable def workB : Code := blkC (seqR codeB)
noncomputable def loopL : Code := loopC (blkC (seqR (seqR workB)))
noncomputable def tailR : Code := seqR restB
theorem postR_eq : post 3 bodyR = .seq (.block 2 (.loop codeA)) restB := by kernel_rfl
theorem restB_eq : restB = .seq (.block 6 (.loop codeB)) tailR := by kernel_rfl
theorem codeB_eq : codeB = .seq (.seq (seqL testB) (.cond (.tmp 57) .skip (.exit 6))) (.block 7 workB) := by kernel_rfl
theorem workB_eq : workB = .seq (seqL workB) (.seq (seqL (seqR workB)) (.block 8 (.loop loopL))) := by kernel_rfl

def tmA (rest : Int) : List A := [.slc gn 0 32 32, .any, .ptr (gn + 1) 0, .any, .int .i64 rest] ++ List.replicate 98 .any
def tmB : List A := [.slc gn 0 32 32, .any, .ptr (gn + 1) 0] ++ List.replicate 100 .any
def tmC (b : Bool) : List A := [.slc gn 0 32 32, .any, .ptr (gn + 1) 0] ++ (List.replicate 54 .any ++ (.bool b :: List.replicate 45 .any))
def tmL (i less : Int) : List A := [.slc gn 0 32 32, .any, .ptr (gn + 1) 0, .any, .any, .any, .int .i64 less, .int .i64 i] ++ List.replicate 95 .any
def hpR (t : TypeId) (l : List Int) : Hp := glz ++ [(gn, ⟨.i64, t, l, true⟩), (gn + 1, ⟨.u8, 23, List.replicate 32 0, true⟩)]

/-- The upper digits, 38 times below. -/
def fold38 : List Int → List Int → List Int
  | a :: l, b :: m => WI (a + WI (38 * b)) :: fold38 l m
  | _, _ => []

theorem preR_run (t : TypeId) (lo hi : List Int) : execF (mk []) 600 (pre 3 bodyR) (gn + 1) [0, 2, 4] (gks ++ [gn, gn + 1]) (s0 (mk []) 103 [.slc gn 0 32 32] [⟨.i64, t, tab 16 lo ++ tab 16 hi, true⟩]) =
    some (.normal, ⟨tmA 1, hpR t (fold38 (tab 16 lo) (tab 16 hi) ++ tab 16 hi), []⟩) := by kernel_rfl

/-- One round of carries. -/
def carryL : Int → List Int → List Int × Int
  | r, [] => ([], r)
  | r, x :: l => ((WI (r + x)).tmod 65536 :: (carryL (WI ((WI (r + x)).tdiv 65536)) l).1, (carryL (WI ((WI (r + x)).tdiv 65536)) l).2)

def rndA (l : List Int) : List Int :=
  match (carryL 0 l).1 with
  | d :: ds => WI (d + WI (38 * (carryL 0 l).2)) :: ds
  | [] => []

theorem rndA_run (t : TypeId) (rest : Int) (lo hi : List Int) : execF (mkh (hintAt 30 true) []) 600 codeA (gn + 1) [0, 2, 4] (gks ++ [gn, gn + 1]) ⟨tmA rest, hpR t (tab 16 lo ++ tab 16 hi), []⟩ =
    some (.normal, ⟨tmA (carryL 0 (tab 16 lo)).2, hpR t (rndA (tab 16 lo) ++ tab 16 hi), [decide (rest > 0) = true]⟩) := by kernel_rfl

theorem stopA_run (t : TypeId) (rest : Int) (l : List Int) : execF (mkh (hintAt 30 false) []) 600 codeA (gn + 1) [0, 2] (gks ++ [gn, gn + 1]) ⟨tmA rest, hpR t l, []⟩ =
    some (.exit 2, ⟨tmB, hpR t l, [decide (rest > 0) = false]⟩) := by kernel_rfl

noncomputable abbrev refF : List (FuncId × (List A → List Blk → Option Res)) := [(41, fPrime), (43, fWhole)]
theorem refF_ok : ∀ p ∈ refF, FnOk Tryd.prog gl p.1 p.2 := by
  intro p hp
  simp only [refF, List.mem_cons, List.not_mem_nil, or_false] at hp
  rcases hp with rfl | rfl
  · exact prime_ok
  · exact whole_ok

theorem testB_run (t : TypeId) (lo hi : List Int) : execF (mkh (fun _ => none) refF) 100 (seqL testB) (gn + 1) [0, 2, 57] (gks ++ [gn, gn + 1]) ⟨tmB, hpR t (tab 16 lo ++ tab 16 hi), []⟩ =
    some (.normal, ⟨tmC (geP (tab 16 lo ++ tab 16 hi) 16), hpR t (tab 16 lo ++ tab 16 hi), []⟩) := by kernel_rfl

theorem skipB_run (t : TypeId) (b : Bool) (l : List Int) : execF (mkh (fun _ => none) refF) 100 .skip (gn + 1) [0, 2] (gks ++ [gn, gn + 1]) ⟨tmC b, hpR t l, []⟩ = some (.normal, ⟨tmB, hpR t l, []⟩) := by kernel_rfl
theorem exitB_run (t : TypeId) (b : Bool) (l : List Int) : execF (mkh (fun _ => none) refF) 100 (.exit 6) (gn + 1) [0, 2] (gks ++ [gn, gn + 1]) ⟨tmC b, hpR t l, []⟩ = some (.exit 6, ⟨tmB, hpR t l, []⟩) := by kernel_rfl
theorem work0_run (t : TypeId) (l : List Int) : execF (mkh (fun _ => none) refF) 100 (seqL workB) (gn + 1) [0, 2, 6] (gks ++ [gn, gn + 1]) ⟨tmB, hpR t l, []⟩ = some (.normal, ⟨tmB.set 6 (.int .i64 0), hpR t l, []⟩) := by kernel_rfl
theorem work1_run (t : TypeId) (l : List Int) : execF (mkh (fun _ => none) refF) 100 (seqL (seqR workB)) (gn + 1) [0, 2, 6, 7] (gks ++ [gn, gn + 1]) ⟨tmB.set 6 (.int .i64 0), hpR t l, []⟩ = some (.normal, ⟨tmL 0 0, hpR t l, []⟩) := by kernel_rfl

/-- What is left of a digit, p's digit taken away. -/
def lessV (l : List Int) (less : Int) (n : Nat) : Int := WI (WI (less + l.getD n 0) - pd (n : Int))

def rdL (b : Bool) (n : Nat) : Prop := ∀ (t : TypeId) (less : Int) (lo hi : List Int), execF (mkh (hintAt 78 b) refF) 200 loopL (gn + 1) [0, 2, 6, 7] (gks ++ [gn, gn + 1]) ⟨tmL (n : Int) less, hpR t (tab 16 lo ++ tab 16 hi), []⟩ =
  some (.normal, ⟨tmL ((n + 1 : Nat) : Int) (if b then -1 else 0), hpR t ((tab 16 lo).set n ((WI (lessV lo less n + 131072)).tmod 65536) ++ tab 16 hi), [decide (lessV lo less n < 0) = b]⟩)

theorem rdLT : ∀ n, n < 16 → rdL true n
  | 0, _ => fun _ _ _ _ => by kernel_rfl
  | 1, _ => fun _ _ _ _ => by kernel_rfl
  | 2, _ => fun _ _ _ _ => by kernel_rfl
  | 3, _ => fun _ _ _ _ => by kernel_rfl
  | 4, _ => fun _ _ _ _ => by kernel_rfl
  | 5, _ => fun _ _ _ _ => by kernel_rfl
  | 6, _ => fun _ _ _ _ => by kernel_rfl
  | 7, _ => fun _ _ _ _ => by kernel_rfl
  | 8, _ => fun _ _ _ _ => by kernel_rfl
  | 9, _ => fun _ _ _ _ => by kernel_rfl
  | 10, _ => fun _ _ _ _ => by kernel_rfl
  | 11, _ => fun _ _ _ _ => by kernel_rfl
  | 12, _ => fun _ _ _ _ => by kernel_rfl
  | 13, _ => fun _ _ _ _ => by kernel_rfl
  | 14, _ => fun _ _ _ _ => by kernel_rfl
  | 15, _ => fun _ _ _ _ => by kernel_rfl
  | n + 16, h => absurd h (by omega)

theorem rdLF : ∀ n, n < 16 → rdL false n
  | 0, _ => fun _ _ _ _ => by kernel_rfl
  | 1, _ => fun _ _ _ _ => by kernel_rfl
  | 2, _ => fun _ _ _ _ => by kernel_rfl
  | 3, _ => fun _ _ _ _ => by kernel_rfl
  | 4, _ => fun _ _ _ _ => by kernel_rfl
  | 5, _ => fun _ _ _ _ => by kernel_rfl
  | 6, _ => fun _ _ _ _ => by kernel_rfl
  | 7, _ => fun _ _ _ _ => by kernel_rfl
  | 8, _ => fun _ _ _ _ => by kernel_rfl
  | 9, _ => fun _ _ _ _ => by kernel_rfl
  | 10, _ => fun _ _ _ _ => by kernel_rfl
  | 11, _ => fun _ _ _ _ => by kernel_rfl
  | 12, _ => fun _ _ _ _ => by kernel_rfl
  | 13, _ => fun _ _ _ _ => by kernel_rfl
  | 14, _ => fun _ _ _ _ => by kernel_rfl
  | 15, _ => fun _ _ _ _ => by kernel_rfl
  | n + 16, h => absurd h (by omega)

theorem stopL_run (t : TypeId) (less : Int) (l : List Int) : execF (mkh (fun _ => none) refF) 200 loopL (gn + 1) [0, 2] (gks ++ [gn, gn + 1]) ⟨tmL 16 less, hpR t l, []⟩ = some (.exit 8, ⟨tmB, hpR t l, []⟩) := by kernel_rfl

/-- The bytes of digits. -/
def outL : List Int → List Int
  | d :: l => IntKind.u8.wrap d :: IntKind.u8.wrap (d.fdiv (2 ^ 8)) :: outL l
  | [] => []

theorem tail_run (t : TypeId) (lo hi : List Int) (b : Blk) : endRes (mk []) Tryd.f32 600 tailR ⟨tmB, hpR t (tab 16 lo ++ tab 16 hi), []⟩ [b] =
    some ⟨.agg .u8 (outL (tab 16 lo)), [some ⟨.i64, t, tab 16 lo ++ tab 16 hi, true⟩], none, []⟩ := by kernel_rfl

end Go.Proofs.YtechbdggjfahhaaDoor.Sx
