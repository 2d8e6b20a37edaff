/-
  A contract for a function that only reads a slice: from slices that are the whole of their block to all slices.
-/
import Derived.Test.YtbdmahidobjaoaaDoorSxFn
namespace Go.Proofs.YtbdmahidobjaoaaDoor.Sx
open Go

theorem VR.plain {loc loc' : Loc} {lk lk' : Lk} : ∀ (x : A) (v : Value), ids x = [] → VR loc lk x v → VR loc' lk' x v
  | .any, _, _, _ => trivial
  | .undef, _, _, hv => hv
  | .bool _, _, _, hv => hv
  | .int _ _, _, _, hv => hv
  | .bit _, _, _, hv => hv
  | .str _, _, _, hv => hv
  | .ptr i o, v, h, _ => by simp [ids] at h
  | .slc i o len cap, v, h, _ => by simp [ids] at h
  | .emp, _, _, hv => hv
  | .agg _ _, _, _, hv => hv
  | .pair x y, v, h, hv => by
    obtain ⟨a, b, h1, h2, h3⟩ := hv
    simp only [ids, List.append_eq_nil_iff] at h
    exact ⟨a, b, h1, VR.plain x a h.1 h2, VR.plain y b h.2 h3⟩

theorem VRs.plain {loc loc' : Loc} {lk lk' : Lk} : ∀ (l : List A) (vs : List Value), (∀ x ∈ l, ids x = []) → VRs loc lk l vs → VRs loc' lk' l vs
  | [], _, _, h => by cases h; exact .nil
  | x :: l, _, hp, h => by
    cases h with
    | cons h1 h2 => exact .cons (VR.plain x _ (hp x (by simp)) h1) (VRs.plain l _ (fun y hy => hp y (by simp [hy])) h2)

theorem VRs.split {loc : Loc} {lk : Lk} : ∀ (l : List A) (m : List A) (vs : List Value), VRs loc lk (l ++ m) vs → ∃ v1 v2, vs = v1 ++ v2 ∧ VRs loc lk l v1 ∧ VRs loc lk m v2
  | [], m, vs, h => ⟨[], vs, rfl, .nil, h⟩
  | x :: l, m, _, h => by
    cases h with
    | cons h1 h2 =>
      obtain ⟨v1, v2, rfl, h3, h4⟩ := VRs.split l m _ h2
      exact ⟨_ :: v1, v2, rfl, .cons h1 h3, h4⟩

theorem VRs.join {loc : Loc} {lk : Lk} : ∀ (l : List A) (m : List A) (v1 v2 : List Value), VRs loc lk l v1 → VRs loc lk m v2 → VRs loc lk (l ++ m) (v1 ++ v2)
  | [], m, _, v2, h, h' => by cases h; exact h'
  | x :: l, m, _, v2, h, h' => by
    cases h with
    | cons h1 h2 => exact .cons h1 (VRs.join l m _ v2 h2 h')

theorem HRel.same {loc : Loc} {lk : Lk} {W w : World} (h : HRel loc lk W) (he : ∀ k, k < W.heap.size → w.heap[k]? = W.heap[k]?) (hs : W.heap.size ≤ w.heap.size) : HRel loc lk w := by
  intro i b hb
  have B := h i b hb
  have e := he _ B.lt
  refine ⟨B.wfs, Nat.lt_of_lt_of_le B.lt hs, fun j x hj => ?_, fun hrw => ?_⟩
  · have := B.cell j x hj
    simp only [World.cell?] at this ⊢
    rw [e]
    exact this
  · obtain ⟨o1, o2, o3⟩ := B.own hrw
    rw [e]
    exact ⟨o1, o2, o3⟩

theorem fnOk_narrow {P : Program} {gl : List Blk} {f : FuncId} {F0 G : List A → List Blk → Option Res} (h0 : FnOk P gl f F0)
    (hG : ∀ args mem r, G args mem = some r → Holds r.ob → F0 args mem = some r ∨
      ∃ (pre post : List A) (o n c : Nat) (b : Blk) (ob' : List Prop), args = pre ++ .slc gl.length o n c :: post ∧ mem = [b] ∧ (∀ x ∈ pre, ids x = []) ∧ (∀ x ∈ post, ids x = []) ∧ o + n ≤ b.l.length ∧ 1 ≤ n ∧ r.mem = [none] ∧ r.new = none ∧ ids r.val = [] ∧ Holds ob' ∧
        F0 (pre ++ .slc gl.length 0 n n :: post) [⟨b.k, b.t, sub b.l o n, false⟩] = some ⟨r.val, [none], none, ob'⟩) : FnOk P gl f G := by
  refine ⟨h0.1, fun args mem r hr hob => ?_⟩
  rcases hG args mem r hr hob with h | ⟨pre, post, o, n, c, b, ob', rfl, rfl, hpre, hpost, hfit, hn, hm, hnew, hval, hob', hF⟩
  · exact h0.2 args mem r h hob
  · refine ⟨fun j b' hj => ?_, fun b' hb' => ?_, fun loc W vals hV hH hg hfl hro => ?_⟩
    · rw [hm] at hj
      match j, hj with
      | 0, hj => simp at hj
      | j + 1, hj => simp at hj
    · rw [hnew] at hb'; cases hb'
    · obtain ⟨-, -, H⟩ := h0.2 _ _ _ hF hob'
      let loc0 : Loc := fun i => if i = gl.length then ⟨(loc gl.length).1, (loc gl.length).2 + o, 0, false⟩ else loc i
      have l0 : loc0 gl.length = ⟨(loc gl.length).1, (loc gl.length).2 + o, 0, false⟩ := by simp [loc0]
      have l1 : ∀ i, i ≠ gl.length → loc0 i = loc i := fun i hi => by simp [loc0, hi]
      have hin : ∀ b : Blk, inLk gl [b] gl.length = some b := fun b => by simp [inLk]
      have hlen : (sub b.l o n).length = n := by
        rw [sub_eq, List.length_take, List.length_drop]; omega
      have hB := hH gl.length b (hin b)
      obtain ⟨v1, v2, rfl, hv1, hv2⟩ := VRs.split _ _ _ hV
      cases hv2 with
      | @cons _ v _ vs hs hv3 =>
        have hV0 : VRs loc0 (inLk gl [⟨b.k, b.t, sub b.l o n, false⟩]) (pre ++ .slc gl.length 0 n n :: post) (v1 ++ v :: vs) := by
          refine VRs.join _ _ _ _ (VRs.plain _ _ hpre hv1) (.cons ?_ (VRs.plain _ _ hpost hv3))
          obtain ⟨⟨q1, q2⟩, ad, cc, rfl, q3, q4⟩ := hs
          obtain ⟨q5, -⟩ := q4 (by omega)
          refine ⟨⟨Nat.le_refl _, by omega⟩, ad, cc, rfl, by omega, fun _ => ⟨?_, by rw [hin]; rfl⟩⟩
          rw [l0, q5]
          simp
        have hH0 : HRel loc0 (inLk gl [⟨b.k, b.t, sub b.l o n, false⟩]) W := by
          intro i b' hb'
          by_cases hi : i = gl.length
          · subst hi
            rw [hin] at hb'
            simp only [Option.some.injEq] at hb'
            subst hb'
            refine ⟨fun x hx => hB.wfs x ?_, by rw [l0]; exact hB.lt, fun j x hj => ?_, fun h => by cases h⟩
            · rw [sub_eq] at hx
              exact List.mem_of_mem_drop (List.mem_of_mem_take hx)
            · rw [l0]
              have hj' : (sub b.l o n)[j]? = some x := hj
              rw [sub_eq, List.getElem?_take] at hj'
              split at hj'
              · rw [List.getElem?_drop] at hj'
                have := hB.cell _ x hj'
                rw [Nat.add_assoc]
                exact this
              · cases hj'
          · have hlt : i < gl.length := by
              rcases Nat.lt_or_ge i gl.length with h | h
              · exact h
              · exfalso
                simp only [inLk, if_neg (Nat.not_lt.2 h)] at hb'
                have : ([⟨b.k, b.t, sub b.l o n, false⟩] : List Blk)[i - gl.length]? = none := List.getElem?_eq_none (by simp; omega)
                rw [this] at hb'; cases hb'
            have hb2 : inLk gl [b] i = some b' := by
              simp only [inLk, if_pos hlt] at hb' ⊢
              exact hb'
            have B := hH i b' hb2
            have hrw : b'.rw = false := by
              simp only [inLk, if_pos hlt] at hb'
              exact hro i b' hb'
            exact ⟨B.wfs, by rw [l1 i hi]; exact B.lt, fun j x hj => by rw [l1 i hi]; exact B.cell j x hj, fun h => by rw [hrw] at h; cases h⟩
        have hg0 : ∀ g, g < gl.length → loc0 g = ⟨g, 0, 0, false⟩ := fun g h => by rw [l1 g (by omega)]; exact hg g h
        have hfl0 : ∀ i, i < gl.length + [(⟨b.k, b.t, sub b.l o n, false⟩ : Blk)].length → (loc0 i).4 = false := fun i h => by
          by_cases hi : i = gl.length
          · rw [hi, l0]
          · rw [l1 i hi]; exact hfl i (by simpa using h)
        refine (H loc0 W _ hV0 hH0 hg0 hfl0 hro).mono ?_
        rintro e w' ⟨u, loc', rfl, hu, -, -, -, hfr⟩
        have hsame : ∀ k, k < W.heap.size → w'.heap[k]? = W.heap[k]? := fun k hk => hfr.block k hk (fun p hp hrw => by
          simp [fxIn] at hp
          rw [hp] at hrw; cases hrw)
        have hout : outLk gl [b] r = inLk gl [b] := by
          funext i
          unfold outLk inLk
          split
          · rfl
          · split
            · rename_i h1 h2
              have : i - gl.length = 0 := by simpa using h2
              rw [this, hm]
              rfl
            · rename_i h1 h2
              have h3 : ([b] : List Blk)[i - gl.length]? = none := List.getElem?_eq_none (by simp at h2 ⊢; omega)
              rw [h3, hnew]
              split <;> rfl
        rw [hout]
        refine ⟨u, loc, rfl, VR.plain _ _ hval hu, hH.same hsame hfr.size, fun _ _ => rfl, fun b' hb' => (by rw [hnew] at hb'; cases hb'), ⟨hfr.os, hfr.tape, hfr.output, hfr.size, fun k hk _ => hsame k hk⟩⟩

end Go.Proofs.YtbdmahidobjaoaaDoor.Sx
