/-
  What all rows of this place share: the laid variable, arguments that are arrays of bytes, from a contract to the row's walk.
-/
import Derived.Test.YtbdmahidobjaoaaDoorClampLaws
import Derived.Test.YtbdmahidobjaoaaDoorCards
import Derived.Test.YtbdmahidobjaoaaDoorTie
import Derived.WalkKit
import Derived.ProofKit
import Derived.OpenShut
import Derived.Below
import Derived.Carry
import Derived.Deep.DeepHandedRow
import Derived.Lib.LaidTab
namespace Go.Proofs.YtbdmahidobjaoaaDoor.Sx
open Go Go.ChangeShapes Go.WideShapes Go.ChangeAt Go.RowKit

theorem own : ownKnob Tryd.prog.godebug = none := by kernel_rfl
theorem laidOut : laidOutB Tryd.prog = true := by kernel_rfl
theorem gTab : Tryd.prog.globalNamed "sheave/clamp.prime" = some 0 := by kernel_rfl
theorem gTabType : (Tryd.prog.globals[0]?).map (·.type) = some 51 := by kernel_rfl
theorem cells51 : Tryd.prog.cellsOf 51 = 3 := by kernel_rfl
theorem cells49 : Tryd.prog.cellsOf 49 = 1 := by kernel_rfl
theorem cells28 : Tryd.prog.cellsOf 28 = 17 := by kernel_rfl
theorem cells23 : Tryd.prog.cellsOf 23 = 16 := by kernel_rfl
theorem cells5 : Tryd.prog.cellsOf 5 = 1 := by kernel_rfl

def primeL : List Int := [18446744073709551611, 18446744073709551615, 3]
def laidL : List (String × DataW Unit) := [("sheave/clamp.prime", Rows.laid_sheave_clamp_prime)]

theorem table {W : World} (h : laidMetH Tryd.prog laidL W) : Lib.TabIs Tryd.prog W "sheave/clamp.prime" .u64 primeL :=
  Lib.tabIs_of_head (rest := []) gTab gTabType Tryd.underlying51 Tryd.underlying49 cells49 cells51 h

/-- An argument that is an array of bytes. -/
theorem open_bytes {H : Type} {enc : TypeId × Value → H} {W : World} {b0 : Nat} {sp : Nat → Bool} {held : Bool} {t : TypeId} {n : Nat} {v : Value} {d : DataW H} {p : List MemPlace} (ht : Tryd.prog.underlying t = some (.array n 5)) (hc : Tryd.prog.cellsOf t = n)
    (hval : Value.okWide Tryd.prog W .any b0 t v) (h : DataW.Trod enc Tryd.prog W 0 sp held t v d p) :
    ∃ l : List Int, l.length = n ∧ (∀ x ∈ l, wf .u8 x) ∧ v = .agg (l.map (Value.int .u8)).toArray ∧ p = [] := by
  simp only [Value.okWide, ht] at hval
  obtain ⟨cs, rfl, hsz, -⟩ := hval
  obtain ⟨fuel, hf⟩ := h
  obtain ⟨xs, m, -, hx, -, hxl, hel⟩ := DataW.trod_array ht hf
  rw [hc] at hsz
  have key : ∀ i, i < n → ∃ z, cs.toList[i]? = some (.int .u8 z) ∧ wf .u8 z ∧ ∃ y, xs[i]? = some y ∧ y.2 = [] := by
    intro i hi
    have hE := hel i hi
    rw [cells5, Nat.mul_one, List.getElem?_eq_getElem (by omega)] at hE
    obtain ⟨z, e1, e2, e3⟩ := DataW.trod_int Tryd.underlying5 hE
    refine ⟨z, ?_, ?_, _, List.getElem?_eq_getElem (by omega), by rw [e2]⟩
    · have h0 : ((cs.toList.drop i).take 1)[0]? = some (.int .u8 z) := by
        have : (Value.agg cs).cells.toList = cs.toList := by simp [Value.cells]
        rw [this] at e1
        rw [e1]; rfl
      simpa using h0
    · simp only [Lit.wf, Bool.and_eq_true, IntKind.min, IntKind.max] at e3
      rw [wf_u8]
      simp [IntKind.signed, IntKind.bits] at e3
      omega
  refine ⟨cs.toList.map intOf, by simpa using hsz, ?_, ?_, ?_⟩
  · intro x hx
    rw [List.mem_map] at hx
    obtain ⟨v, hv, rfl⟩ := hx
    obtain ⟨i, hi, rfl⟩ := List.getElem_of_mem hv
    obtain ⟨z, e1, e2, -⟩ := key i (by simp at hi; omega)
    rw [List.getElem?_eq_getElem hi] at e1
    simp only [Option.some.injEq] at e1
    rw [e1]
    exact e2
  · congr 1
    apply Array.toList_inj.1
    apply List.ext_getElem?
    intro i
    rcases Nat.lt_or_ge i n with hi | hi
    · obtain ⟨z, e1, -⟩ := key i hi
      rw [e1]
      simp only [List.map_map, List.getElem?_map, e1, Option.map_some]
      rfl
    · rw [List.getElem?_eq_none (by simp; omega), List.getElem?_eq_none (by simp; omega)]
  · have : p = xs.flatMap (·.2) := (Prod.mk.inj hx).2
    rw [this, List.flatMap_eq_nil_iff]
    intro y hy
    obtain ⟨i, hi, rfl⟩ := List.getElem_of_mem hy
    obtain ⟨-, -, -, y', e1, e2⟩ := key i (by omega)
    rw [List.getElem?_eq_getElem hi] at e1
    simp only [Option.some.injEq] at e1
    rw [e1]; exact e2

/-- The variable stands where the shadow's own block 0 stands. -/
theorem hrel_prime {W : World} (h : Lib.TabIs Tryd.prog W "sheave/clamp.prime" .u64 primeL) : BlkOk (fun i => ⟨i, 0, 0, false⟩) (inLk gl []) W 0 ⟨.u64, 0, primeL, false⟩ := by
  have hcell : ∀ j, j < 3 → W.cell? ⟨0, j, none⟩ = some (.int .u64 (primeL.getD j 0)) := fun j hj => h.cell gTab j hj
  refine ⟨?_, ?_, fun j x hj => ?_, fun h => by cases h⟩
  · intro x hx
    simp only [primeL, List.mem_cons, List.not_mem_nil, or_false] at hx
    rw [wf_u64]
    rcases hx with rfl | rfl | rfl <;> omega
  · rcases Nat.lt_or_ge 0 W.heap.size with h0 | h0
    · exact h0
    · have := hcell 0 (by decide)
      rw [World.cell?, Array.getElem?_eq_none h0] at this
      cases this
  · have hj3 : j < 3 := by
      rcases Nat.lt_or_ge j 3 with h3 | h3
      · exact h3
      · have e : (primeL)[j]? = none := List.getElem?_eq_none h3
        have hj' : primeL[j]? = some x := hj
        rw [e] at hj'; cases hj'
    have e := hcell j hj3
    have hj' : primeL[j]? = some x := hj
    rw [List.getD, hj'] at e
    simpa using e

theorem call_FT {f : FuncId} {ns : List Nat} (h : FnOk Tryd.prog gl f (FT ns)) {W : World} (ht : Lib.TabIs Tryd.prog W "sheave/clamp.prime" .u64 primeL) (ls : List (List Int)) (hl : ls.map List.length = ns) (hw : ∀ l ∈ ls, ∀ x ∈ l, wf .u8 x) :
    Calls Tryd.prog f (ls.map fun l => Value.agg (l.map (Value.int .u8)).toArray).toArray W fun e w' => e = .returned (.bool true) ∧ Below W.heap.size W w' := by
  have hshape : ∀ (ns : List Nat) (ls : List (List Int)), ls.map List.length = ns → shapeOk ns (ls.map (A.agg .u8)) = true := by
    intro ns ls
    induction ls generalizing ns with
    | nil => intro h; subst h; rfl
    | cons l ls ih => intro h; subst h; simp [shapeOk, ih _ rfl, Nat.beq_refl]
  have hF : FT ns (ls.map (A.agg .u8)) [] = some ⟨.bool true, [], none, []⟩ := by
    unfold FT
    simp only [hshape ns ls hl]
  obtain ⟨-, -, H⟩ := h.2 _ _ _ hF Holds.nil
  have hV : ∀ (ls : List (List Int)), (∀ l ∈ ls, ∀ x ∈ l, wf .u8 x) → VRs (fun i => ⟨i, 0, 0, false⟩) (inLk gl []) (ls.map (A.agg .u8)) (ls.map fun l => Value.agg (l.map (Value.int .u8)).toArray) := by
    intro ls
    induction ls with
    | nil => intro _; exact .nil
    | cons l ls ih => intro h; exact .cons ⟨rfl, h l (by simp)⟩ (ih fun m hm => h m (by simp [hm]))
  refine (H (fun i => ⟨i, 0, 0, false⟩) W _ (hV ls hw) (fun i b hb => ?_) (fun g _ => rfl) (fun _ _ => rfl) (fun g b hg => ?_)).mono ?_
  · match i, hb with
    | 0, hb =>
      simp [inLk] at hb
      subst hb
      exact hrel_prime ht
    | i + 1, hb => simp [inLk] at hb
  · match g, hg with
    | 0, hg => simp at hg; subst hg; rfl
    | g + 1, hg => simp at hg
  · rintro e w' ⟨v, loc', rfl, hv, -, -, -, hfr⟩
    have hv' : v = .bool true := hv
    subst hv'
    exact ⟨rfl, hfr.os, hfr.tape, hfr.output, hfr.size, fun k hk => hfr.block k hk (fun p hp => by simp [fxIn] at hp)⟩

/-- A world for the witness: the settled one, the variable holding what its initialiser lays. -/
noncomputable def laidWorld (os : Os) : World :=
  { World.holding Tryd.prog os ⟨#[], #[], []⟩ with heap := (World.holding Tryd.prog os ⟨#[], #[], []⟩).heap.modify 0 fun
      | .cells _ t frozen => .cells #[.int .u64 18446744073709551611, .int .u64 18446744073709551615, .int .u64 3] t frozen
      | o => o }

def zeroA (n : Nat) : Value := .agg (List.replicate n (Value.int .u8 0)).toArray
def zeroD {H : Type} (n : Nat) : DataW H := .agg (List.replicate n (.lit (.int .u8 0)))

end Go.Proofs.YtbdmahidobjaoaaDoor.Sx
