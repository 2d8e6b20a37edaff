/-
  Pieces of a body: the last one, and changes of context.
-/
import Derived.Test.YtbdmahidobjaoaaDoorSxFn
namespace Go.Proofs.YtbdmahidobjaoaaDoor.Sx
open Go

/-- The end of a body, from a state on. -/
def endRes (C : Ctx) (fn : Func) (fuel : Nat) (c : Code) (s : St) (mem : List Blk) : Option Res :=
  match exec C fuel c s with
  | some (.exit _, _) => none
  | some (_, s') => match resA C s' fn.results.toList with
    | some v => closeRes C mem v s'
    | none => none
  | none => none

theorem tri_end {C : Ctx} (hC : C.Ok) {lim : Nat} {fn : Func} {fuel : Nat} {c : Code} {s : St} {mem : List Blk} {r r' : Res} (h : endRes C fn fuel c s mem = some r') (hob : Holds r'.ob) (hE : ResEq mem r' r) :
    Tri C lim c s (fun ex s' => (ex = .normal ∨ ex = .ret) ∧ ∃ v, resA C s' fn.results.toList = some v ∧ Ends C mem s' v r) := by
  unfold endRes at h
  split at h
  · cases h
  · rename_i ex s1 hne he
    split at h
    · rename_i v hv
      have hobs : r'.ob = s1.ob := by
        unfold closeRes at h
        simp only at h
        split at h
        · simp only [Option.some.injEq] at h; rw [← h]
        · cases h
      refine tri_exec hC fuel he (by rw [← hobs]; exact hob) ⟨?_, v, hv, closeRes_ends h hE⟩
      cases ex with
      | normal => exact Or.inl rfl
      | ret => exact Or.inr rfl
      | exit id => exact (hne id rfl).elim
    · cases h
  · cases h

theorem tri_ob {C : Ctx} {lim : Nat} {c : Code} {tm : List A} {h : Hp} {ob : List Prop} {Post : Ex → St → Prop} (hT : Tri C lim c ⟨tm, h, []⟩ Post) : Tri C lim c ⟨tm, h, ob⟩ Post := hT

theorem tri_ctx {P : Program} {gl : List Blk} {a b : FuncId} {h h' : Tmp → Option Bool} {l l' : List (FuncId × (List A → List Blk → Option Res))} {lim : Nat} {c : Code} {s : St} {Post : Ex → St → Prop} (hT : Tri (mkC P gl a b h l) lim c s Post) : Tri (mkC P gl a b h' l') lim c s Post := hT

def seqL : Code → Code
  | .seq a _ => a
  | c => c

def seqR : Code → Code
  | .seq _ b => b
  | c => c

def blkC : Code → Code
  | .block _ c => c
  | c => c

def loopC : Code → Code
  | .loop c => c
  | c => c

end Go.Proofs.YtbdmahidobjaoaaDoor.Sx
