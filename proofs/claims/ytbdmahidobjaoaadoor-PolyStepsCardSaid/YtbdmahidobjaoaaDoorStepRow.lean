/-
  What the row of a key, a piece and a text needs.
-/
import Derived.Test.YtbdmahidobjaoaaDoorSliceRow
import Derived.Test.YtbdmahidobjaoaaDoorPolySteps
import Derived.Test.YtbdmahidobjaoaaDoorPolyRow
import Derived.SizedLaws
import Derived.Lib.SmallJoins
namespace Go.Proofs.YtbdmahidobjaoaaDoor.Sx
open Go Go.ChangeShapes Go.WideShapes Go.ChangeAt Go.RowKit

def IsBytesC (W : World) (v : Value) : Prop :=
  (∃ a c, v = .slice a 0 c) ∨ ∃ (b o c : Nat) (x : List Int), v = .slice (some ⟨b, o, none⟩) x.length c ∧ 1 ≤ x.length ∧ x.length ≤ c ∧ x.length < 9223372036854775808 ∧ (∀ y ∈ x, wf .u8 y) ∧ (∀ (j : Nat) (y : Int), x[j]? = some y → W.cell? ⟨b, o + j, none⟩ = some (.int .u8 y)) ∧ x.length ≤ 140737488355300


theorem sized_len2 {H : Type} {ts : List TypeId} {ds : List (DataW H)} (h : (DataW.weightsEach Tryd.prog ts ds).all (· ≤ reachBytes) = true) {j : Nat} {d : DataW H} (ht : ts[j]? = some 24) (hd : ds[j]? = some d) : Joins.sliceLen d ≤ 140737488355300 := by
  cases d with
  | slice el sp =>
    have := sized_slice h ht hd Tryd.underlying24
    rw [bytes5] at this
    simp only [Joins.sliceLen]
    have hr : reachBytes ≤ 140737488355300 := by decide
    omega
  | _ => exact Nat.zero_le _

theorem open_sliceC {H : Type} {enc : TypeId × Value → H} {W : World} {b0 : Nat} {v : Value} {d : DataW H} {p : List MemPlace}
    (hval : Value.okWide Tryd.prog W .any b0 24 v) (h : DataW.Trod enc Tryd.prog W 0 (fun _ => true) true 24 v d p) (hs : Joins.sliceLen d ≤ 140737488355300) : IsBytesC W v := by
  rcases open_slice hval h with h0 | ⟨b, o, c, x, rfl, h1, h2, h3, h4, h5⟩
  · exact Or.inl h0
  · rw [Joins.sliceLen_Trod Tryd.underlying24 h] at hs
    exact Or.inr ⟨b, o, c, x, rfl, h1, h2, h3, h4, h5, hs⟩

theorem call_FST {g0 : FuncId} (h : FnOk Tryd.prog gl g0 FST) {W : World} (ht : Lib.TabIs Tryd.prog W "sheave/clamp.prime" .u64 primeL) (l : List Int) (hl : l.length = 32) (hw : ∀ x ∈ l, wf .u8 x) (f : List Int) (hf : f.length = 16) (hwf : ∀ x ∈ f, wf .u8 x) (v : Value) (hv : IsBytesC W v) :
    Calls Tryd.prog g0 #[Value.agg (l.map (Value.int .u8)).toArray, Value.agg (f.map (Value.int .u8)).toArray, v] W fun e w' => e = .returned (.bool true) ∧ Below W.heap.size W w' := by
  have hro : ∀ (g : Nat) (b : Blk), gl[g]? = some b → b.rw = false := fun g b hg => by
    match g, hg with
    | 0, hg => simp at hg; subst hg; rfl
    | g + 1, hg => simp at hg
  have hp := hrel_prime ht
  rcases hv with ⟨a, c, rfl⟩ | ⟨b, o, c, x, rfl, h1, hc, hmax, hx, hcell, hlim⟩
  · have hF : FST [.agg .u8 l, .agg .u8 f, .slc 0 0 0 0] [] = some ⟨.bool true, [], none, []⟩ := by
      simp [FST, FST1, FST0, hl, hf, Nat.beq_refl]
    obtain ⟨-, -, H⟩ := h.2 _ _ _ hF Holds.nil
    refine (H (fun i => ⟨i, 0, 0, false⟩) W [_, _, _] (.cons ⟨rfl, hw⟩ (.cons ⟨rfl, hwf⟩ (.cons ⟨⟨Nat.le_refl _, by decide⟩, a, c, rfl, Nat.zero_le _, fun h0 => absurd h0 (Nat.lt_irrefl _)⟩ .nil))) (fun i b hb => ?_) (fun g _ => rfl) (fun _ _ => rfl) hro).mono ?_
    · match i, hb with
      | 0, hb =>
        simp [inLk] at hb
        subst hb
        exact hp
      | i + 1, hb => simp [inLk] at hb
    · rintro e w' ⟨v, loc', rfl, hv, -, -, -, hfr⟩
      have hv' : v = .bool true := hv
      subst hv'
      exact ⟨rfl, hfr.os, hfr.tape, hfr.output, hfr.size, fun k hk => hfr.block k hk (fun p hp => by simp [fxIn] at hp)⟩
  · have hF : FST [.agg .u8 l, .agg .u8 f, .slc 1 0 x.length x.length] [⟨.u8, 0, x, false⟩] = some ⟨.bool true, [none], none, []⟩ := by
      rcases Nat.lt_or_ge 16 x.length with hq | hq
      · have e1 : FST1 (fun m => Nat.ble m 16) [.agg .u8 l, .agg .u8 f, .slc 1 0 x.length x.length] [⟨.u8, 0, x, false⟩] = none := by
          have : Nat.ble x.length 16 = false := by
            cases hb : Nat.ble x.length 16 with
            | false => rfl
            | true => have := Nat.le_of_ble_eq_true hb; omega
          simp [FST1, this]
        unfold FST
        rw [e1]
        simp [FST1, hl, hf, Nat.beq_refl, nble h1, nble hlim, nble (show 17 ≤ x.length from hq)]
      · simp [FST, FST1, hl, hf, Nat.beq_refl, nble h1, nble hlim, nble hq]
    obtain ⟨-, -, H⟩ := h.2 _ _ _ hF Holds.nil
    refine (H (fun i => if i = 1 then ⟨b, o, 0, false⟩ else ⟨i, 0, 0, false⟩) W [_, _, _] (.cons ⟨rfl, hw⟩ (.cons ⟨rfl, hwf⟩ (.cons ⟨⟨Nat.le_refl _, hmax⟩, _, c, rfl, hc, fun _ => ⟨by simp, by simp [inLk]⟩⟩ .nil))) (fun i b' hb => ?_) (fun g hg => ?_) (fun i _ => by show (if i = 1 then _ else _ : Spot).4 = false; split <;> rfl) hro).mono ?_
    · match i, hb with
      | 0, hb =>
        simp [inLk] at hb
        subst hb
        exact ⟨hp.wfs, hp.lt, hp.cell, fun h => by cases h⟩
      | 1, hb =>
        simp [inLk] at hb
        subst hb
        refine ⟨hx, ?_, fun j y hj => by simpa using hcell j y hj, fun h => by cases h⟩
        rcases Nat.lt_or_ge b W.heap.size with h0 | h0
        · simpa using h0
        · have := hcell 0 (x[0]'(by omega)) (List.getElem?_eq_getElem (by omega))
          rw [World.cell?, Array.getElem?_eq_none h0] at this
          cases this
      | i + 2, hb => simp [inLk] at hb
    · have : g = 0 := by simp at hg; omega
      subst this
      rfl
    · rintro e w' ⟨v, loc', rfl, hv, -, -, -, hfr⟩
      have hv' : v = .bool true := hv
      subst hv'
      exact ⟨rfl, hfr.os, hfr.tape, hfr.output, hfr.size, fun k hk => hfr.block k hk (fun p hp => by
        simp [fxIn] at hp
        rw [hp]; simp)⟩

end Go.Proofs.YtbdmahidobjaoaaDoor.Sx
