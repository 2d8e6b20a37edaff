/-
  What the rows of an array and a slice share.
-/
import Derived.Test.YtbdmahidobjaoaaDoorClampRow
import Derived.Test.YtbdmahidobjaoaaDoorClampTrims
import Derived.ChangeSlices
import Derived.ChangeOld
namespace Go.Proofs.YtbdmahidobjaoaaDoor.Sx
open Go Go.ChangeShapes Go.WideShapes Go.ChangeAt Go.RowKit

/-- What the walk is told of a slice of bytes: it is empty, or it leads to a row of bytes. -/
def IsBytes (W : World) (v : Value) : Prop :=
  (∃ a c, v = .slice a 0 c) ∨ ∃ (b o c : Nat) (x : List Int), v = .slice (some ⟨b, o, none⟩) x.length c ∧ 1 ≤ x.length ∧ x.length ≤ c ∧ x.length < 9223372036854775808 ∧ (∀ y ∈ x, wf .u8 y) ∧ ∀ (j : Nat) (y : Int), x[j]? = some y → W.cell? ⟨b, o + j, none⟩ = some (.int .u8 y)

theorem lit_u8 {z : Int} (h : (Lit.int .u8 z).wf = true) : wf .u8 z := by
  simp only [Lit.wf, Bool.and_eq_true, IntKind.min, IntKind.max] at h
  rw [wf_u8]
  simp [IntKind.signed, IntKind.bits] at h
  omega

theorem open_slice {H : Type} {enc : TypeId × Value → H} {W : World} {b0 : Nat} {v : Value} {d : DataW H} {p : List MemPlace}
    (hval : Value.okWide Tryd.prog W .any b0 24 v) (h : DataW.Trod enc Tryd.prog W 0 (fun _ => true) true 24 v d p) : IsBytes W v := by
  obtain ⟨a, len, cap, rfl⟩ := okWide_slice Tryd.underlying24 hval
  obtain ⟨fuel, hf⟩ := h
  rcases open_ints Tryd.underlying24 Tryd.underlying5 cells5 hf with ⟨hcs, _⟩ | ⟨x, l, c, zs, hcs, _, hl, hm, hz, _, hcell, hwz⟩
  · simp [Value.cells] at hcs
    obtain ⟨rfl, rfl, rfl⟩ := hcs
    exact Or.inl ⟨_, _, rfl⟩
  · simp [Value.cells] at hcs
    obtain ⟨rfl, rfl, rfl⟩ := hcs
    have hz' : zs.length = cap := by simpa using hz
    rcases Nat.eq_zero_or_pos len with h0 | h0
    · subst h0
      exact Or.inl ⟨_, _, rfl⟩
    · right
      have hspot : x.spot = none := by
        have := hcell 0 (by omega)
        rw [Addr.add, if_pos rfl] at this
        unfold World.cell? at this
        split at this
        · split at this
          · cases this
          · rename_i hs
            cases hx : x.spot with
            | none => rfl
            | some s => simp [hx] at hs
        · cases this
      have hadd : ∀ j, x.add j = ⟨x.block, x.off + j, none⟩ := by
        intro j
        unfold Addr.add
        split
        · rename_i hj
          subst hj
          obtain ⟨b, o, s⟩ := x
          simp only at hspot
          subst hspot
          rfl
        · rfl
      have hx : x = ⟨x.block, x.off, none⟩ := by
        obtain ⟨b, o, s⟩ := x
        simp only at hspot
        subst hspot
        rfl
      have hlen : (zs.take len).length = len := by rw [List.length_take]; omega
      have hmax : maxLen = 9223372036854775807 := by decide
      refine ⟨x.block, x.off, cap, zs.take len, by rw [hlen, ← hx], by omega, by omega, by omega, fun y hy => lit_u8 (hwz y (List.mem_of_mem_take hy)), fun j y hj => ?_⟩
      rw [List.getElem?_take] at hj
      split at hj
      · have := hcell j (by omega)
        rw [hadd, List.getD, hj] at this
        exact this
      · cases hj

/-- From the contract of a law of an array and a slice to the row's walk. -/
theorem call_FAS {f : FuncId} {n : Nat} (h : FnOk Tryd.prog gl f (FAS n)) {W : World} (ht : Lib.TabIs Tryd.prog W "sheave/clamp.prime" .u64 primeL) (l : List Int) (hl : l.length = n) (hw : ∀ x ∈ l, wf .u8 x) (v : Value) (hv : IsBytes W v) :
    Calls Tryd.prog f #[Value.agg (l.map (Value.int .u8)).toArray, v] W fun e w' => e = .returned (.bool true) ∧ Below W.heap.size W w' := by
  have hro : ∀ (g : Nat) (b : Blk), gl[g]? = some b → b.rw = false := fun g b hg => by
    match g, hg with
    | 0, hg => simp at hg; subst hg; rfl
    | g + 1, hg => simp at hg
  have hp := hrel_prime ht
  rcases hv with ⟨a, c, rfl⟩ | ⟨b, o, c, x, rfl, h1, hc, hmax, hx, hcell⟩
  · have hF : FAS n [.agg .u8 l, .slc 0 0 0 0] [] = some ⟨.bool true, [], none, []⟩ := by
      simp [FAS, hl, Nat.beq_refl]
    obtain ⟨-, -, H⟩ := h.2 _ _ _ hF Holds.nil
    refine (H (fun i => ⟨i, 0, 0, false⟩) W [_, _] (.cons ⟨rfl, hw⟩ (.cons ⟨⟨Nat.le_refl _, by decide⟩, a, c, rfl, Nat.zero_le _, fun h0 => absurd h0 (Nat.lt_irrefl _)⟩ .nil)) (fun i b hb => ?_) (fun g _ => rfl) (fun _ _ => rfl) hro).mono ?_
    · match i, hb with
      | 0, hb =>
        simp [inLk] at hb
        subst hb
        exact hp
      | i + 1, hb => simp [inLk] at hb
    · rintro e w' ⟨v, loc', rfl, hv, -, -, -, hfr⟩
      have hv' : v = .bool true := hv
      subst hv'
      exact ⟨rfl, hfr.os, hfr.tape, hfr.output, hfr.size, fun k hk => hfr.block k hk (fun p hp => by simp [fxIn] at hp)⟩
  · have hF : FAS n [.agg .u8 l, .slc 1 0 x.length x.length] [⟨.u8, 0, x, false⟩] = some ⟨.bool true, [none], none, []⟩ := by
      simp [FAS, hl, Nat.beq_refl, nble h1]
    obtain ⟨-, -, H⟩ := h.2 _ _ _ hF Holds.nil
    refine (H (fun i => if i = 1 then ⟨b, o, 0, false⟩ else ⟨i, 0, 0, false⟩) W [_, _] (.cons ⟨rfl, hw⟩ (.cons ⟨⟨Nat.le_refl _, hmax⟩, _, c, rfl, hc, fun _ => ⟨by simp, by simp [inLk]⟩⟩ .nil)) (fun i b' hb => ?_) (fun g hg => ?_) (fun i _ => by show (if i = 1 then _ else _ : Spot).4 = false; split <;> rfl) hro).mono ?_
    · match i, hb with
      | 0, hb =>
        simp [inLk] at hb
        subst hb
        exact ⟨hp.wfs, hp.lt, hp.cell, fun h => by cases h⟩
      | 1, hb =>
        simp [inLk] at hb
        subst hb
        refine ⟨hx, ?_, fun j y hj => by simpa using hcell j y hj, fun h => by cases h⟩
        rcases Nat.lt_or_ge b W.heap.size with h0 | h0
        · simpa using h0
        · have := hcell 0 (x[0]'(by omega)) (List.getElem?_eq_getElem (by omega))
          rw [World.cell?, Array.getElem?_eq_none h0] at this
          cases this
      | i + 2, hb => simp [inLk] at hb
    · have : g = 0 := by simp at hg; omega
      subst this
      rfl
    · rintro e w' ⟨v, loc', rfl, hv, -, -, -, hfr⟩
      have hv' : v = .bool true := hv
      subst hv'
      exact ⟨rfl, hfr.os, hfr.tape, hfr.output, hfr.size, fun k hk => hfr.block k hk (fun p hp => by
        simp [fxIn] at hp
        rw [hp]; simp)⟩

end Go.Proofs.YtbdmahidobjaoaaDoor.Sx
