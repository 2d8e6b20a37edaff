/-
  What all rows of this place share: the laid variable, arguments that are arrays of bytes, from a contract to the row's walk.
-/
import Derived.Test.YtechbdggjfahhaaDoorLadderPub
import Derived.LaidSub
import Derived.Test.YtechbdggjfahhaaDoorCards
import Derived.Test.YtechbdggjfahhaaDoorTie
import Derived.WalkKit
import Derived.ProofKit
import Derived.OpenShut
import Derived.Below
import Derived.Carry
import Derived.Deep.DeepHandedRow
import Derived.Lib.LaidTab
namespace Go.Proofs.YtechbdggjfahhaaDoor.Sx
open Go Go.ChangeShapes Go.WideShapes Go.ChangeAt Go.RowKit

theorem own : ownKnob Tryd.prog.godebug = none := by kernel_rfl
theorem laidOut : laidOutB Tryd.prog = true := by kernel_rfl
theorem gTab : Tryd.prog.globalNamed "sheave/curve.prime" = some 2 := by kernel_rfl
theorem gTabType : (Tryd.prog.globals[2]?).map (·.type) = some 42 := by kernel_rfl
theorem gSmall : Tryd.prog.globalNamed "sheave/ladder.small" = some 0 := by kernel_rfl
theorem gSmallType : (Tryd.prog.globals[0]?).map (·.type) = some 23 := by kernel_rfl
theorem gBegin : Tryd.prog.globalNamed "sheave/ladder.begin" = some 1 := by kernel_rfl
theorem gBeginType : (Tryd.prog.globals[1]?).map (·.type) = some 23 := by kernel_rfl
theorem cellsP : Tryd.prog.cellsOf 42 = 4 := by kernel_rfl
theorem cellsW : Tryd.prog.cellsOf 41 = 1 := by kernel_rfl
theorem cellsK : Tryd.prog.cellsOf 23 = 32 := by kernel_rfl
theorem cells5 : Tryd.prog.cellsOf 5 = 1 := by kernel_rfl

def primeL : List Int := [18446744073709551597, 18446744073709551615, 18446744073709551615, 9223372036854775807]

/-- What the rows' own variables hold. -/
structure Tabs (W : World) : Prop where
  prime : Lib.TabIs Tryd.prog W "sheave/curve.prime" .u64 primeL
  small : Lib.TabIs Tryd.prog W "sheave/ladder.small" .u8 smallL
  size : 1 < W.heap.size

def laid2 : List (String × DataW Unit) := [("sheave/curve.prime", Rows.laid_sheave_curve_prime), ("sheave/ladder.small", Rows.laid_sheave_ladder_small)]
def laid3 : List (String × DataW Unit) := [("sheave/curve.prime", Rows.laid_sheave_curve_prime), ("sheave/ladder.begin", Rows.laid_sheave_ladder_begin), ("sheave/ladder.small", Rows.laid_sheave_ladder_small)]

theorem tab_of {W : World} {l : List (String × DataW Unit)} (h : laidMet Tryd.prog l W) {name : String} {k : IntKind} {zs : List Int} {g : Nat} {t e : TypeId} {n : Nat}
    (hg : Tryd.prog.globalNamed name = some g) (hty : (Tryd.prog.globals[g]?).map (·.type) = some t) (ht : Tryd.prog.underlying t = some (.array n e)) (he : Tryd.prog.underlying e = some (.int k)) (hce : Tryd.prog.cellsOf e = 1) (hct : Tryd.prog.cellsOf t = n)
    (hf : l.filter (fun x => x.1 == name) = [(name, Lib.tabData k zs)]) : Lib.TabIs Tryd.prog W name k zs := by
  have := h.filter (fun x => x.1 == name)
  rw [hf] at this
  exact Lib.tabIs_of_head hg hty ht he hce hct this

theorem size_of {W : World} (h : Lib.TabIs Tryd.prog W "sheave/curve.prime" .u64 primeL) : 2 < W.heap.size := by
  have := h.cell gTab 0 (by decide)
  rcases Nat.lt_or_ge 2 W.heap.size with h0 | h0
  · exact h0
  · rw [World.cell?, Array.getElem?_eq_none h0] at this
    cases this

theorem tabs2 {W : World} (h : laidMetH Tryd.prog laid2 W) : Tabs W := by
  have h' : laidMet Tryd.prog laid2 W := h
  have hp := tab_of h' gTab gTabType Tryd.underlying42 Tryd.underlying41 cellsW cellsP (zs := primeL) (by kernel_rfl)
  exact ⟨hp, tab_of h' gSmall gSmallType Tryd.underlying23 Tryd.underlying5 cells5 cellsK (zs := smallL) (by kernel_rfl), by have := size_of hp; omega⟩

theorem tabs3 {W : World} (h : laidMetH Tryd.prog laid3 W) : Tabs W ∧ Lib.TabIs Tryd.prog W "sheave/ladder.begin" .u8 beginL := by
  have h' : laidMet Tryd.prog laid3 W := h
  have hp := tab_of h' gTab gTabType Tryd.underlying42 Tryd.underlying41 cellsW cellsP (zs := primeL) (by kernel_rfl)
  exact ⟨⟨hp, tab_of h' gSmall gSmallType Tryd.underlying23 Tryd.underlying5 cells5 cellsK (zs := smallL) (by kernel_rfl), by have := size_of hp; omega⟩,
    tab_of h' gBegin gBeginType Tryd.underlying23 Tryd.underlying5 cells5 cellsK (zs := beginL) (by kernel_rfl)⟩

/-- An argument that is an array of bytes. -/
theorem open_bytes {H : Type} {enc : TypeId × Value → H} {W : World} {b0 : Nat} {sp : Nat → Bool} {held : Bool} {t : TypeId} {n : Nat} {v : Value} {d : DataW H} {p : List MemPlace} (ht : Tryd.prog.underlying t = some (.array n 5)) (hc : Tryd.prog.cellsOf t = n)
    (hval : Value.okWide Tryd.prog W .any b0 t v) (h : DataW.Trod enc Tryd.prog W 0 sp held t v d p) :
    ∃ l : List Int, l.length = n ∧ (∀ x ∈ l, wf .u8 x) ∧ v = .agg (l.map (Value.int .u8)).toArray ∧ p = [] := by
  simp only [Value.okWide, ht] at hval
  obtain ⟨cs, rfl, hsz, -⟩ := hval
  obtain ⟨fuel, hf⟩ := h
  obtain ⟨xs, m, -, hx, -, hxl, hel⟩ := DataW.trod_array ht hf
  rw [hc] at hsz
  have key : ∀ i, i < n → ∃ z, cs.toList[i]? = some (.int .u8 z) ∧ wf .u8 z ∧ ∃ y, xs[i]? = some y ∧ y.2 = [] := by
    intro i hi
    have hE := hel i hi
    rw [cells5, Nat.mul_one, List.getElem?_eq_getElem (by omega)] at hE
    obtain ⟨z, e1, e2, e3⟩ := DataW.trod_int Tryd.underlying5 hE
    refine ⟨z, ?_, ?_, _, List.getElem?_eq_getElem (by omega), by rw [e2]⟩
    · have h0 : ((cs.toList.drop i).take 1)[0]? = some (.int .u8 z) := by
        have : (Value.agg cs).cells.toList = cs.toList := by simp [Value.cells]
        rw [this] at e1
        rw [e1]; rfl
      simpa using h0
    · simp only [Lit.wf, Bool.and_eq_true, IntKind.min, IntKind.max] at e3
      rw [wf_u8]
      simp [IntKind.signed, IntKind.bits] at e3
      omega
  refine ⟨cs.toList.map intOf, by simpa using hsz, ?_, ?_, ?_⟩
  · intro x hx
    rw [List.mem_map] at hx
    obtain ⟨v, hv, rfl⟩ := hx
    obtain ⟨i, hi, rfl⟩ := List.getElem_of_mem hv
    obtain ⟨z, e1, e2, -⟩ := key i (by simp at hi; omega)
    rw [List.getElem?_eq_getElem hi] at e1
    simp only [Option.some.injEq] at e1
    rw [e1]
    exact e2
  · congr 1
    apply Array.toList_inj.1
    apply List.ext_getElem?
    intro i
    rcases Nat.lt_or_ge i n with hi | hi
    · obtain ⟨z, e1, -⟩ := key i hi
      rw [e1]
      simp only [List.map_map, List.getElem?_map, e1, Option.map_some]
      rfl
    · rw [List.getElem?_eq_none (by simp; omega), List.getElem?_eq_none (by simp; omega)]
  · have : p = xs.flatMap (·.2) := (Prod.mk.inj hx).2
    rw [this, List.flatMap_eq_nil_iff]
    intro y hy
    obtain ⟨i, hi, rfl⟩ := List.getElem_of_mem hy
    obtain ⟨-, -, -, y', e1, e2⟩ := key i (by omega)
    rw [List.getElem?_eq_getElem hi] at e1
    simp only [Option.some.injEq] at e1
    rw [e1]; exact e2

/-- A variable stands where the shadow's own block stands. -/
theorem hrel_tab {W : World} {name : String} {k : IntKind} {zs : List Int} {g : Nat} {lk : Lk} (h : Lib.TabIs Tryd.prog W name k zs) (hg : Tryd.prog.globalNamed name = some g) (hn : 0 < zs.length) (hw : ∀ x ∈ zs, wf k x) : BlkOk (fun i => ⟨i, 0, 0, false⟩) lk W g ⟨k, 0, zs, false⟩ := by
  have hcell : ∀ j, j < zs.length → W.cell? ⟨g, j, none⟩ = some (.int k (zs.getD j 0)) := fun j hj => h.cell hg j hj
  refine ⟨hw, ?_, fun j x hj => ?_, fun h => by cases h⟩
  · rcases Nat.lt_or_ge g W.heap.size with h0 | h0
    · exact h0
    · have := hcell 0 hn
      rw [World.cell?, Array.getElem?_eq_none h0] at this
      cases this
  · have hj' : zs[j]? = some x := hj
    have hj3 : j < zs.length := (List.getElem?_eq_some_iff.1 hj').1
    have e := hcell j hj3
    rw [List.getD, hj'] at e
    simpa using e

theorem wf_prime : ∀ x ∈ primeL, wf .u64 x := by
  intro x hx
  simp only [primeL, List.mem_cons, List.not_mem_nil, or_false] at hx
  rw [wf_u64]
  rcases hx with rfl | rfl | rfl | rfl <;> omega

theorem wf_small : ∀ x ∈ smallL, wf .u8 x := by
  intro x hx
  rw [wf_u8]
  have key : ∀ x ∈ smallL, 0 ≤ x ∧ x < 256 := by decide
  exact key x hx

theorem wf_begin : ∀ x ∈ beginL, wf .u8 x := by
  intro x hx
  rw [wf_u8]
  have key : ∀ x ∈ beginL, 0 ≤ x ∧ x < 256 := by decide
  exact key x hx

theorem shape_of : ∀ (ns : List Nat) (ls : List (List Int)), ls.map List.length = ns → shapeOk ns (ls.map (A.agg .u8)) = true := by
  intro ns ls
  induction ls generalizing ns with
  | nil => intro h; subst h; rfl
  | cons l ls ih => intro h; subst h; simp [shapeOk, ih _ rfl, Nat.beq_refl]

theorem vrs_of {loc : Loc} {lk : Lk} : ∀ (ls : List (List Int)), (∀ l ∈ ls, ∀ x ∈ l, wf .u8 x) → VRs loc lk (ls.map (A.agg .u8)) (ls.map fun l => Value.agg (l.map (Value.int .u8)).toArray) := by
  intro ls
  induction ls with
  | nil => intro _; exact .nil
  | cons l ls ih => intro h; exact .cons ⟨rfl, h l (by simp)⟩ (ih fun m hm => h m (by simp [hm]))

theorem call_FT {f : FuncId} {ns : List Nat} (h : FnOk Tryd.prog gl f (FT ns)) {W : World} (ht : Tabs W) (ls : List (List Int)) (hl : ls.map List.length = ns) (hw : ∀ l ∈ ls, ∀ x ∈ l, wf .u8 x) :
    Calls Tryd.prog f (ls.map fun l => Value.agg (l.map (Value.int .u8)).toArray).toArray W fun e w' => e = .returned (.bool true) ∧ Below W.heap.size W w' := by
  have hF : FT ns (ls.map (A.agg .u8)) [] = some ⟨.bool true, [], none, []⟩ := by
    unfold FT
    simp only [shape_of ns ls hl]
  obtain ⟨-, -, H⟩ := h.2 _ _ _ hF Holds.nil
  refine (H (fun i => ⟨i, 0, 0, false⟩) W _ (vrs_of ls hw) (fun i b hb => ?_) (fun g _ => rfl) (fun _ _ => rfl) base.glro).mono ?_
  · match i, hb with
    | 0, hb =>
      simp [inLk] at hb
      subst hb
      exact hrel_tab ht.small gSmall (by decide) wf_small
    | 1, hb =>
      simp [inLk] at hb
      subst hb
      exact ⟨fun x hx => (by cases hx), ht.size, fun j x hj => (by simp at hj), fun h => by cases h⟩
    | 2, hb =>
      simp [inLk] at hb
      subst hb
      exact hrel_tab ht.prime gTab (by decide) wf_prime
    | i + 3, hb => simp [inLk] at hb
  · rintro e w' ⟨v, loc', rfl, hv, -, -, -, hfr⟩
    have hv' : v = .bool true := hv
    subst hv'
    exact ⟨rfl, hfr.os, hfr.tape, hfr.output, hfr.size, fun k hk => hfr.block k hk (fun p hp => by simp [fxIn] at hp)⟩

theorem call_FTS {f : FuncId} {ns : List Nat} (h : FnOk Tryd.prog glS f (FT ns)) {W : World} (ht : Tabs W) (hb0 : Lib.TabIs Tryd.prog W "sheave/ladder.begin" .u8 beginL) (ls : List (List Int)) (hl : ls.map List.length = ns) (hw : ∀ l ∈ ls, ∀ x ∈ l, wf .u8 x) :
    Calls Tryd.prog f (ls.map fun l => Value.agg (l.map (Value.int .u8)).toArray).toArray W fun e w' => e = .returned (.bool true) ∧ Below W.heap.size W w' := by
  have hF : FT ns (ls.map (A.agg .u8)) [] = some ⟨.bool true, [], none, []⟩ := by
    unfold FT
    simp only [shape_of ns ls hl]
  obtain ⟨-, -, H⟩ := h.2 _ _ _ hF Holds.nil
  refine (H (fun i => ⟨i, 0, 0, false⟩) W _ (vrs_of ls hw) (fun i b hb => ?_) (fun g _ => rfl) (fun _ _ => rfl) baseS.glro).mono ?_
  · match i, hb with
    | 0, hb =>
      simp [inLk] at hb
      subst hb
      exact hrel_tab ht.small gSmall (by decide) wf_small
    | 1, hb =>
      simp [inLk] at hb
      subst hb
      exact hrel_tab hb0 gBegin (by decide) wf_begin
    | 2, hb =>
      simp [inLk] at hb
      subst hb
      exact hrel_tab ht.prime gTab (by decide) wf_prime
    | i + 3, hb => simp [inLk] at hb
  · rintro e w' ⟨v, loc', rfl, hv, -, -, -, hfr⟩
    have hv' : v = .bool true := hv
    subst hv'
    exact ⟨rfl, hfr.os, hfr.tape, hfr.output, hfr.size, fun k hk => hfr.block k hk (fun p hp => by simp [fxIn] at hp)⟩

/-- An argument that is a byte. -/
theorem open_byte {H : Type} {enc : TypeId × Value → H} {W : World} {b0 : Nat} {sp : Nat → Bool} {held : Bool} {v : Value} {d : DataW H} {p : List MemPlace} (hval : Value.okWide Tryd.prog W .any b0 5 v) (h : DataW.Trod enc Tryd.prog W 0 sp held 5 v d p) :
    ∃ z : Int, wf .u8 z ∧ v = .int .u8 z ∧ p = [] := by
  obtain ⟨n, rfl⟩ := okWide_int Tryd.underlying5 hval
  obtain ⟨fuel, hf⟩ := h
  obtain ⟨z, e1, e2, e3⟩ := DataW.trod_int Tryd.underlying5 hf
  have ez : n = z := by
    have : ([Value.int .u8 n] : List Value) = [.int .u8 z] := by rw [← e1]; simp [Value.cells]
    simpa using this
  subst ez
  refine ⟨n, ?_, rfl, (Prod.mk.inj e2).2⟩
  simp only [Lit.wf, Bool.and_eq_true, IntKind.min, IntKind.max] at e3
  rw [wf_u8]
  simp [IntKind.signed, IntKind.bits] at e3
  omega

def layV (cs : Array Value) : Obj → Obj
  | .cells _ t frozen => .cells cs t frozen
  | o => o

/-- A world for the witness: the settled one, the variables holding what their initialisers lay. -/
noncomputable def laidWorld (os : Os) : World :=
  { World.holding Tryd.prog os ⟨#[], #[], []⟩ with heap := (((World.holding Tryd.prog os ⟨#[], #[], []⟩).heap.modify 2 (layV #[.int .u64 18446744073709551597, .int .u64 18446744073709551615, .int .u64 18446744073709551615, .int .u64 9223372036854775807])).modify 0 (layV #[.int .u8 65, .int .u8 219, .int .u8 1, .int .u8 0, .int .u8 0, .int .u8 0, .int .u8 0, .int .u8 0, .int .u8 0, .int .u8 0, .int .u8 0, .int .u8 0, .int .u8 0, .int .u8 0, .int .u8 0, .int .u8 0, .int .u8 0, .int .u8 0, .int .u8 0, .int .u8 0, .int .u8 0, .int .u8 0, .int .u8 0, .int .u8 0, .int .u8 0, .int .u8 0, .int .u8 0, .int .u8 0, .int .u8 0, .int .u8 0, .int .u8 0, .int .u8 0])).modify 1 (layV #[.int .u8 9, .int .u8 0, .int .u8 0, .int .u8 0, .int .u8 0, .int .u8 0, .int .u8 0, .int .u8 0, .int .u8 0, .int .u8 0, .int .u8 0, .int .u8 0, .int .u8 0, .int .u8 0, .int .u8 0, .int .u8 0, .int .u8 0, .int .u8 0, .int .u8 0, .int .u8 0, .int .u8 0, .int .u8 0, .int .u8 0, .int .u8 0, .int .u8 0, .int .u8 0, .int .u8 0, .int .u8 0, .int .u8 0, .int .u8 0, .int .u8 0, .int .u8 0]) }

def zeroA (n : Nat) : Value := .agg (List.replicate n (Value.int .u8 0)).toArray
def zeroD {H : Type} (n : Nat) : DataW H := .agg (List.replicate n (.lit (.int .u8 0)))

end Go.Proofs.YtechbdggjfahhaaDoor.Sx
