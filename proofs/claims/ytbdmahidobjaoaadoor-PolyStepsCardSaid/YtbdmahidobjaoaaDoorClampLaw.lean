/-
  The laws of the chapter that do not need the document's own answers.
-/
import Derived.Test.YtbdmahidobjaoaaDoorClampBlock
namespace Go.Proofs.YtbdmahidobjaoaaDoor.Sx
open Go
set_option maxRecDepth 100000

/-- A function of nothing but plain values: one case. -/
def FC (v : A) : List A → List Blk → Option Res
  | [], [] => some ⟨v, [], none, []⟩
  | _, _ => none

theorem fnOk_FC {C : Ctx} (hC : C.Ok) {f : FuncId} {fn : Func} {c : Code} {v : A} (hf : C.P.funcs[f]? = some fn) (hname : (fn.name == "runtime.NumGoroutine") = false) (hb : fn.body = some c) {fuel : Nat} {ob : List Prop}
    (h : plainRun C fn fuel [] = some (v, ob)) (hob : Holds ob) : FnOk C.P C.gl f (FC v) := by
  refine fnOk_plain hC hf hname hb (fun args mem r hr _ => ?_)
  unfold FC at hr
  split at hr
  · simp only [Option.some.injEq] at hr
    subst hr
    exact ⟨rfl, rfl, rfl, Nat.zero_le _, fun _ => ⟨fuel, ob, h, hob⟩⟩
  · cases hr

def ffs (n : Nat) : List Int := List.replicate n 255

theorem ones_ok : FnOk Tryd.prog gl 36 (FC (.agg .u8 (ffs 16))) :=
  fnOk_FC (C := mk []) (mk_ok (by simp)) Tryd.func36 (by kernel_rfl) rfl (fuel := 600) (ob := []) (by kernel_rfl) Holds.nil

def fFull : List A → List Blk → Option Res
  | [.int .u8 x, .int .u8 y], [] => some ⟨.agg .u8 (x :: ffs 15 ++ [y]), [], none, []⟩
  | _, _ => none

theorem full_run (x y : Int) : plainRun (mk []) Tryd.f37 600 [.int .u8 x, .int .u8 y] = some (.agg .u8 (x :: ffs 15 ++ [y]), []) := by kernel_rfl

theorem full_ok : FnOk Tryd.prog gl 37 fFull := by
  refine fnOk_plain (C := mk []) (mk_ok (by simp)) Tryd.func37 (by kernel_rfl) rfl (fun args mem r hr _ => ?_)
  unfold fFull at hr
  split at hr
  · simp only [Option.some.injEq] at hr
    subst hr
    exact ⟨rfl, rfl, rfl, beq_le (by kernel_rfl), fun _ => ⟨600, [], full_run _ _, Holds.nil⟩⟩
  · cases hr

noncomputable abbrev clampF : List (FuncId × (List A → List Blk → Option Res)) :=
  [(24, fCanon), (30, fAdd), (26, fMul), (28, fLow), (20, fTrim), (21, FS blockA), (36, FC (.agg .u8 (ffs 16))), (37, fFull)]

theorem clampF_ok : ∀ p ∈ clampF, FnOk Tryd.prog gl p.1 p.2 := by
  intro p hp
  simp only [clampF, List.mem_cons, List.not_mem_nil, or_false] at hp
  rcases hp with rfl | rfl | rfl | rfl | rfl | rfl | rfl | rfl
  · exact canon_ok
  · exact add_ok
  · exact mul_ok
  · exact low_ok
  · exact trim_ok
  · exact block_ok
  · exact ones_ok
  · exact full_ok

theorem shown_ok : FnOk Tryd.prog gl 19 (FC (.bool true)) :=
  fnOk_FC (C := mk clampF) (mk_ok clampF_ok) Tryd.func19 (by kernel_rfl) rfl (fuel := 600) (ob := []) (by kernel_rfl) Holds.nil

end Go.Proofs.YtbdmahidobjaoaaDoor.Sx
