/-
  From the contract of the law of Pick to its row's walk.
-/
import Derived.Test.YtiamcoggiagpbaaDoorCurveRow
import Derived.Test.YtiamcoggiagpbaaDoorCurveLawsB
namespace Go.Proofs.YtiamcoggiagpbaaDoor.Sx
open Go Go.ChangeShapes Go.WideShapes Go.ChangeAt Go.RowKit

theorem call_FPT {f : FuncId} (h : FnOk Tryd.prog gl f FPT) {W : World} (ht : Lib.TabIs Tryd.prog W "sheave/curve.prime" .u64 primeL) (x : Int) (l m : List Int) (hl : l.length = 32) (hm : m.length = 32) (wx : wf .u8 x) (wl : ∀ x ∈ l, wf .u8 x) (wm : ∀ x ∈ m, wf .u8 x) :
    Calls Tryd.prog f #[.int .u8 x, .agg (l.map (Value.int .u8)).toArray, .agg (m.map (Value.int .u8)).toArray] W fun e w' => e = .returned (.bool true) ∧ Below W.heap.size W w' := by
  have hF : FPT [.int .u8 x, .agg .u8 l, .agg .u8 m] [] = some ⟨.bool true, [], none, []⟩ := by
    simp only [FPT, hl, hm]
    rfl
  obtain ⟨-, -, H⟩ := h.2 _ _ _ hF Holds.nil
  refine (H (fun i => (i, 0)) W _ (.cons ⟨rfl, wx⟩ (.cons ⟨rfl, wl⟩ (.cons ⟨rfl, wm⟩ .nil))) (fun i b hb => ?_) (fun g _ => rfl) (fun g b hg => ?_)).mono ?_
  · match i, hb with
    | 0, hb =>
      simp [inLk] at hb
      subst hb
      exact hrel_prime ht
    | i + 1, hb => simp [inLk] at hb
  · match g, hg with
    | 0, hg => simp at hg; subst hg; rfl
    | g + 1, hg => simp at hg
  · rintro e w' ⟨v, loc', rfl, hv, -, -, -, hfr⟩
    have hv' : v = .bool true := hv
    subst hv'
    exact ⟨rfl, hfr.os, hfr.tape, hfr.output, hfr.size, fun k hk => hfr.block k hk (fun p hp => by simp [fxIn] at hp)⟩

end Go.Proofs.YtiamcoggiagpbaaDoor.Sx
