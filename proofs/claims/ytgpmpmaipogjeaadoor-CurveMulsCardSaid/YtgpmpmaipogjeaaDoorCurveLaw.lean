/-
  What all laws of the chapter begin with: the document's examples.
-/
import Derived.Test.YtgpmpmaipogjeaaDoorCurveField
namespace Go.Proofs.YtgpmpmaipogjeaaDoor.Sx
open Go
set_option maxRecDepth 100000

def fFilled : List A → List Blk → Option Res
  | [.int .u8 x, .int .u8 y, .int .u8 z], [] => some ⟨.agg .u8 (x :: List.replicate 30 y ++ [z]), [], none, []⟩
  | _, _ => none

theorem filled_run (x y z : Int) : plainRun (mk []) Tryd.f23 600 [.int .u8 x, .int .u8 y, .int .u8 z] = some (.agg .u8 (x :: List.replicate 30 y ++ [z]), []) := by kernel_rfl

theorem filled_ok : FnOk Tryd.prog gl 23 fFilled := by
  refine fnOk_plain (C := mk []) (mk_ok (by simp)) Tryd.func23 (by kernel_rfl) rfl (fun args mem r hr _ => ?_)
  unfold fFilled at hr
  split at hr
  · simp only [Option.some.injEq] at hr
    subst hr
    exact ⟨rfl, rfl, rfl, beq_le (by kernel_rfl), fun _ => ⟨600, [], filled_run _ _ _, Holds.nil⟩⟩
  · cases hr

noncomputable abbrev curveF : List (FuncId × (List A → List Blk → Option Res)) :=
  [(18, fCanon), (20, fAdd), (13, fSub), (15, fMul), (22, fSquare), (17, fInvert), (23, fFilled)]

theorem curveF_ok : ∀ p ∈ curveF, FnOk Tryd.prog gl p.1 p.2 := by
  intro p hp
  simp only [curveF, List.mem_cons, List.not_mem_nil, or_false] at hp
  rcases hp with rfl | rfl | rfl | rfl | rfl | rfl | rfl
  · exact canon_ok
  · exact add_ok
  · exact sub_ok
  · exact mul_ok
  · exact square_ok
  · exact invert_ok
  · exact filled_ok

theorem shown_ok : FnOk Tryd.prog gl 12 (FC (.bool true)) :=
  fnOk_FC (C := mk curveF) (mk_ok curveF_ok) Tryd.func12 (by kernel_rfl) rfl (fuel := 600) (ob := []) (by kernel_rfl) Holds.nil

noncomputable abbrev lawF0 : List (FuncId × (List A → List Blk → Option Res)) := (12, FC (.bool true)) :: curveF

theorem lawF0_ok : ∀ p ∈ lawF0, FnOk Tryd.prog gl p.1 p.2 := by
  intro p hp
  rcases List.mem_cons.1 hp with rfl | hp
  · exact shown_ok
  · exact curveF_ok p hp

def hintsT (_ : Tmp) : Option Bool := some true
def hintBut (d : Nat) (t : Tmp) : Option Bool :=
  match Nat.beq t d with
  | true => some false
  | false => some true

theorem fnOk_FTH {f : FuncId} {fn : Func} {c : Code} {ns : List Nat} (hf : Tryd.prog.funcs[f]? = some fn) (hname : (fn.name == "runtime.NumGoroutine") = false) (hb : fn.body = some c) (ht : Nat.ble ns.length fn.ntmps = true)
    (h : ∀ ls : List (List Int), ls.map List.length = ns → (∀ l ∈ ls, ∀ x ∈ l, wf .u8 x) → ∃ hint l fuel ob, (∀ p ∈ l, FnOk Tryd.prog gl p.1 p.2) ∧ plainRun (mkh hint l) fn fuel (ls.map (A.agg .u8)) = some (.bool true, ob) ∧ Holds ob) : FnOk Tryd.prog gl f (FT ns) := by
  refine fnOk_plainH hf hname hb (fun args mem r hr _ => ?_)
  unfold FT at hr
  split at hr
  · split at hr
    · rename_i hs
      simp only [Option.some.injEq] at hr
      subst hr
      refine ⟨rfl, rfl, rfl, by rw [shapeOk_length _ _ hs]; exact beq_le ht, fun hw => ?_⟩
      obtain ⟨ls, h1, rfl, h3⟩ := shapeOk_spec _ _ hs hw
      exact h ls h1 h3
    · cases hr
  · cases hr

theorem bytes_zero : bytesOf 32 0 = List.replicate 32 0 := by decide
theorem bytes_one : bytesOf 32 1 = 1 :: List.replicate 31 0 := by decide

/-- Canonical bytes are noughts just where the number is 0. -/
theorem bytes_eq_zero (n : Int) : bytesOf 32 (n % p25) = List.replicate 32 0 ↔ n % p25 = 0 := by
  constructor
  · intro h
    have := num_q n
    rw [h] at this
    rw [← this]
    decide
  · intro h
    rw [h, bytes_zero]

theorem holds3 {p q r : Prop} (h1 : p) (h2 : q) (h3 : r) : Holds [p, q, r] := hcons h1 (holds2 h2 h3)
theorem holds4 {p q r s : Prop} (h1 : p) (h2 : q) (h3 : r) (h4 : s) : Holds [p, q, r, s] := hcons h1 (holds3 h2 h3 h4)

end Go.Proofs.YtgpmpmaipogjeaaDoor.Sx
