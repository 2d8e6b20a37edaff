/-
  From contracts that know little of the globals to such as know more.
-/
import Derived.Test.YtechbdggjfahhaaDoorSxTail
namespace Go.Proofs.YtechbdggjfahhaaDoor.Sx
open Go

/-- The same globals, of some of which nothing is known. -/
structure GlW (gl gs : List Blk) : Prop where
  len : gl.length = gs.length
  rel : ∀ (g : Nat) (b bs : Blk), gl[g]? = some b → gs[g]? = some bs → b.rw = false ∧ bs.rw = false ∧ (b = bs ∨ b.l = [])

section
variable {gl gs : List Blk}

theorem GlW.isS (h : GlW gl gs) {mem : List Blk} (i : Nat) : (inLk gl mem i).isSome = true ↔ (inLk gs mem i).isSome = true := by
  unfold inLk
  rw [h.len]
  by_cases hi : i < gs.length
  · rw [if_pos hi, if_pos hi]
    simp [hi, h.len]
  · rw [if_neg hi, if_neg hi]

theorem GlW.get (h : GlW gl gs) {mem : List Blk} {i : Nat} {b : Blk} (hb : inLk gl mem i = some b) : ∃ bs, inLk gs mem i = some bs ∧ ((gl.length ≤ i ∧ b = bs) ∨ (i < gl.length ∧ b.rw = false ∧ bs.rw = false ∧ (b = bs ∨ b.l = []))) := by
  unfold inLk at hb ⊢
  by_cases hi : i < gl.length
  · rw [if_pos hi] at hb
    rw [if_pos (by rw [← h.len]; exact hi)]
    have hi2 : i < gs.length := by rw [← h.len]; exact hi
    have hg : gs[i]? = some gs[i] := List.getElem?_eq_getElem hi2
    exact ⟨_, hg, Or.inr ⟨hi, h.rel i b _ hb hg⟩⟩
  · rw [if_neg hi] at hb
    rw [if_neg (by rw [← h.len]; exact hi), ← h.len]
    exact ⟨b, hb, Or.inl ⟨by omega, rfl⟩⟩

theorem GlW.get' (h : GlW gl gs) {mem : List Blk} {i : Nat} {bs : Blk} (hb : inLk gs mem i = some bs) : ∃ b, inLk gl mem i = some b ∧ ((gl.length ≤ i ∧ b = bs) ∨ (i < gl.length ∧ b.rw = false ∧ bs.rw = false ∧ (b = bs ∨ b.l = []))) := by
  have hs : (inLk gl mem i).isSome = true := (h.isS i).2 (by rw [hb]; rfl)
  obtain ⟨b, hb'⟩ := Option.isSome_iff_exists.1 hs
  obtain ⟨bs', h1, h2⟩ := h.get hb'
  rw [hb] at h1
  cases h1
  exact ⟨b, hb', h2⟩

theorem fnOk_lift {P : Program} {f : FuncId} {F : List A → List Blk → Option Res} (hw : GlW gl gs) (h : FnOk P gl f F) : FnOk P gs f F := by
  refine ⟨h.1, fun args mem r hr hob => ?_⟩
  obtain ⟨h1, h2, h3⟩ := h.2 args mem r hr hob
  refine ⟨h1, h2, fun loc W vals hV hH hg hfl hro => ?_⟩
  have hg' : ∀ g, g < gl.length → loc g = ⟨g, 0, 0, false⟩ := fun g hlt => hg g (by rw [← hw.len]; exact hlt)
  have hro' : ∀ (g : Nat) (b : Blk), gl[g]? = some b → b.rw = false := fun g b hb => by
    have hlt : g < gl.length := (List.getElem?_eq_some_iff.1 hb).1
    have hlt2 : g < gs.length := by rw [← hw.len]; exact hlt
    have hgs : gs[g]? = some gs[g] := List.getElem?_eq_getElem hlt2
    exact (hw.rel g b _ hb hgs).1
  have hV' : VRs loc (inLk gl mem) args vals := by
    have key : ∀ (l : List A) (vs : List Value), VRs loc (inLk gs mem) l vs → VRs loc (inLk gl mem) l vs := by
      intro l
      induction l with
      | nil => intro vs h; cases h; exact .nil
      | cons x l ih =>
        intro vs h
        cases h with
        | cons a b => exact .cons (VR.mono (fun i hi => ⟨rfl, (hw.isS i).2 hi⟩) _ _ a) (ih _ b)
    exact key _ _ hV
  have hH' : HRel loc (inLk gl mem) W := by
    intro i b hb
    obtain ⟨bs, hbs, hc⟩ := hw.get hb
    have B := hH i bs hbs
    rcases hc with ⟨hi, rfl⟩ | ⟨hi, r1, r2, rfl | hl⟩
    · refine ⟨B.wfs, B.lt, B.cell, fun hrw => ?_⟩
      obtain ⟨o1, o2, o3⟩ := B.own hrw
      refine ⟨o1, o2, fun i' b' hne hb' hlv => ?_⟩
      obtain ⟨bs', hbs', hc'⟩ := hw.get hb'
      have hb2 : b' = bs' := by
        rcases hc' with ⟨_, e⟩ | ⟨_, r1, _, e | hl⟩
        · exact e
        · exact e
        · rcases hlv with h | h
          · exact absurd hl h
          · rw [r1] at h; cases h
      exact o3 i' bs' hne hbs' (by rw [← hb2]; exact hlv)
    · exact ⟨B.wfs, B.lt, B.cell, fun hrw => by rw [r1] at hrw; cases hrw⟩
    · exact ⟨fun x hx => (by rw [hl] at hx; cases hx), B.lt, fun j x hj => (by rw [hl] at hj; simp at hj), fun hrw => by rw [r1] at hrw; cases hrw⟩
  have hout : ∀ i bs, outLk gs mem r i = some bs → ∃ b, outLk gl mem r i = some b ∧ ((gl.length ≤ i ∧ b = bs) ∨ (i < gl.length ∧ bs.rw = false ∧ inLk gs mem i = some bs)) := by
    intro i bs hb
    unfold outLk at hb ⊢
    by_cases hi : i < gl.length
    · rw [if_pos (by rw [← hw.len]; exact hi)] at hb
      rw [if_pos hi]
      have hg : gl[i]? = some gl[i] := List.getElem?_eq_getElem hi
      refine ⟨_, hg, Or.inr ⟨hi, (hw.rel i _ _ hg hb).2.1, ?_⟩⟩
      unfold inLk
      rw [if_pos (by rw [← hw.len]; exact hi)]
      exact hb
    · rw [if_neg (by rw [← hw.len]; exact hi), ← hw.len] at hb
      rw [if_neg hi]
      exact ⟨bs, hb, Or.inl ⟨by omega, rfl⟩⟩
  have hout' : ∀ i, (outLk gl mem r i).isSome = true → (outLk gs mem r i).isSome = true := by
    intro i hi
    unfold outLk at hi ⊢
    rw [← hw.len]
    by_cases hlt : i < gl.length
    · rw [if_pos hlt]
      simp [← hw.len, hlt]
    · rw [if_neg hlt] at hi ⊢
      exact hi
  refine (h3 loc W vals hV' hH' hg' (fun i hi => hfl i (by rw [← hw.len]; exact hi)) hro').mono ?_
  rintro e w' ⟨v, loc', he, hv, hh, hl, hn, hf⟩
  have hfx : fxIn gl loc mem = fxIn gs loc mem := by unfold fxIn; rw [hw.len]
  refine ⟨v, loc', he, VR.mono (fun i hi => ⟨rfl, hout' i hi⟩) _ _ hv, ?_, fun i hi => hl i (by rw [hw.len]; exact hi), fun b hb => by rw [← hw.len]; exact hn b hb, by rw [← hfx]; exact hf⟩
  intro i bs hb
  obtain ⟨b, hb', hc⟩ := hout i bs hb
  have B := hh i b hb'
  rcases hc with ⟨hi, rfl⟩ | ⟨hi, hrw, hin⟩
  · refine ⟨B.wfs, B.lt, B.cell, fun hrw => ?_⟩
    obtain ⟨o1, o2, o3⟩ := B.own hrw
    refine ⟨o1, o2, fun i' b' hne hb'' hlv => ?_⟩
    obtain ⟨b2, hb2, hc2⟩ := hout i' b' hb''
    rcases hc2 with ⟨hi2, rfl⟩ | ⟨hi2, hrw2, hin2⟩
    · exact o3 i' _ hne hb2 hlv
    · have hlt2 := (hH i' b' hin2).lt
      rw [hl i' (by omega)]
      by_cases hin : i < gl.length + mem.length
      · rw [hl i hin]
        have hm : i - gs.length < mem.length := by rw [← hw.len]; omega
        have hb0 : inLk gs mem i = some mem[i - gs.length] := by
          unfold inLk
          rw [if_neg (by rw [← hw.len]; omega)]
          exact List.getElem?_eq_getElem hm
        have hrw0 : mem[i - gs.length].rw = true := by
          unfold outLk at hb
          rw [if_neg (by rw [← hw.len]; omega), if_pos hm, List.getElem?_eq_getElem hm] at hb
          unfold orElse at hb
          split at hb
          · rename_i b1 hb1
            simp only [Option.some.injEq] at hb
            subst hb
            obtain ⟨b3, hb3, e3⟩ := h1 _ _ hb1
            rw [List.getElem?_eq_getElem hm] at hb3
            simp only [Option.some.injEq] at hb3
            rw [hb3, ← e3]; exact hrw
          · simp only [Option.some.injEq] at hb
            rw [hb]; exact hrw
        obtain ⟨-, -, o4⟩ := (hH i _ hb0).own hrw0
        exact o4 i' b' hne hin2 hlv
      · have hnew : r.new = some b ∧ i = gl.length + mem.length := by
          unfold outLk at hb
          rw [if_neg (by rw [← hw.len]; omega), if_neg (by rw [← hw.len]; omega)] at hb
          split at hb
          · rename_i hi3
            exact ⟨hb, by rw [← hw.len] at hi3; omega⟩
          · cases hb
        have := hn b hnew.1
        rw [← hnew.2] at this
        omega
  · have B0 := hH i bs hin
    have e1 : loc' i = loc i := hl i (by omega)
    have e2 : loc i = ⟨i, 0, 0, false⟩ := hg' i hi
    have same : Live bs → w'.heap[i]? = W.heap[i]? := fun hlv => by
      refine hf.block i (by have := B0.lt; rw [e2] at this; exact this) (fun p hp hprw heq => ?_)
      obtain ⟨⟨bm, m⟩, hbm, rfl⟩ := List.mem_map.1 hp
      have hm : mem[m]? = some bm := List.mem_zipIdx_iff_getElem?.1 hbm
      have hin' : inLk gs mem (gl.length + m) = some bm := by
        unfold inLk
        rw [if_neg (by rw [← hw.len]; omega), ← hw.len, Nat.add_sub_cancel_left]
        exact hm
      obtain ⟨-, -, o3⟩ := (hH _ bm hin').own hprw
      have := o3 i bs (by omega) hin hlv
      rw [e2] at this
      exact this heq.symm
    refine ⟨B0.wfs, by rw [e1]; exact Nat.lt_of_lt_of_le B0.lt hf.size, fun j x hj => ?_, fun h => by rw [hrw] at h; cases h⟩
    have := B0.cell j x hj
    rw [e1, e2] at *
    simp only [World.cell?] at this ⊢
    rw [same (Or.inl (fun e => by rw [e] at hj; simp at hj))]
    exact this

end

end Go.Proofs.YtechbdggjfahhaaDoor.Sx
