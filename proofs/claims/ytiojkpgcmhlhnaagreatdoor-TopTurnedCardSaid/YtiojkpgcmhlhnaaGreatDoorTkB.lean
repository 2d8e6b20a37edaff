/-
  The operations of the second shadow.
-/
import Derived.Test.YtiojkpgcmhlhnaaGreatDoorTkA
namespace Go.Proofs.YtiojkpgcmhlhnaaGreatDoor.Ty
open Go
set_option maxRecDepth 100000
set_option linter.unusedSimpArgs false
set_option linter.unusedVariables false
section
section
variable {C : Ctx} {n nid : Nat} {w : World} {B : Base} {loc : Loc} {fm : Fm} {tm : Nat → A} {lk : Lk} {a : Act} {o : Oper}
theorem run_isAgg {P : Program} {t : TypeId} {g : Bool} (h : isAggT P t = some g) (w : World) : (Go.isAgg t).run P w = .ok g w := by
 unfold isAggT at h
 split at h
 ·rename_i fs hu
  rw [Option.some.injEq] at h
  subst h
  simp [Go.isAgg, run_underlying hu]
 ·rename_i m e hu
  rw [Option.some.injEq] at h
  subst h
  simp [Go.isAgg, run_underlying hu]
 ·rename_i d h1 h2 hu
  rw [Option.some.injEq] at h
  subst h
  cases d <;> simp_all [Go.isAgg, run_underlying hu]
 ·cases h
theorem run_sizeOf' {P : Program} {t : TypeId} {m : Nat} (h : sizeT P t = some m) (w : World) : (sizeOf t).run P w = .ok m w := by
 obtain ⟨i, hi, hs⟩ := sizeT_ok h
 simp [sizeOf, typeInfo, hi, hs]
theorem cells_at (h : HRel loc fm lk w) {id : Nat} {own : Bool} {t : TypeId} {ps : List Pc} (hb : lk id = some (.cells own t ps)) :
  ∃ cs, PcsOk loc fm lk ps cs ∧ Lies ps (loc id) ∧ (∀ q u, cs[q]? = some u → w.cell? ⟨(loc id).blk, q, none⟩ = some u) ∧ (cs ≠ [] → (loc id).real = true) ∧
   ((loc id).real = true → ∃ rest fz, w.heap[(loc id).blk]? = some (.cells (cs ++ rest).toArray t fz) ∧ (own = true → RestOk fm ps rest ∧ (loc id).room = (cs ++ rest).length ∧ Free (lstB ps) (cs ++ rest).length fz) ∧ (own = false → fm (loc id).blk = some (cs ++ rest))) := by
 obtain ⟨cs, h1, h2, h3⟩ := h.ok id _ hb
 refine ⟨cs, h1, h2, ?_, ?_, fun hr => ?_⟩
 ·cases hr : (loc id).real with
  | true =>
   rw [hr] at h3
   obtain ⟨rest, fz, e1, e2⟩ := h3
   intro q u hq
   have hlt := (List.getElem?_eq_some_iff.1 hq).1
   simp only [World.cell?, e1, Option.isSome_none, Bool.false_eq_true, if_false]
   simp [List.getElem?_append_left hlt, hq]
  | false =>
   rw [hr] at h3
   intro q u hq
   rw [show cs = [] from h3] at hq
   simp at hq
 ·intro hne
  cases hr : (loc id).real with
  | true => rfl
  | false =>
   rw [hr] at h3
   exact absurd h3 hne
 ·rw [hr] at h3
  exact h3
theorem run_loadVar {g : Bool} {t : TypeId} {m b off : Nat} {cs : List Value} {x : A} (hg : isAggT C.P t = some g) (hm : sizeT C.P t = some m) (hc : ∀ q u, cs[q]? = some u → w.cell? ⟨b, q, none⟩ = some u)
  (hL : LdOk loc fm lk g off m cs x) : ∃ u, (loadVar t ⟨b, off, none⟩).run C.P w = .ok u w ∧ VR loc fm lk x u := by
 cases g with
 | true =>
  obtain ⟨c, h1, h2, h3⟩ := hL
  have hl := run_loadCells_list (P := C.P) w (⟨b, off, none⟩ : Addr) c (fun j v hj => by
   rw [Addr.add_lit]
   exact hc _ _ (h2 j v hj))
  rw [h1] at hl
  exact ⟨.agg c.toArray, by simp [loadVar, run_isAgg hg, run_sizeOf' hm, hl], h3⟩
 | false =>
  obtain ⟨u, h1, h2⟩ := hL
  exact ⟨u, by simp [loadVar, run_isAgg hg, hc _ _ h1], h2⟩
theorem loadV_ok (h : RelL C.gl B loc fm n tm lk a w) {t : TypeId} {X : A} {v : Value} {e : Eff} (hx : VR loc fm lk X v) (he : (loadT C lk t X).is e) :
  ∃ ad u x, v = .pointer (some ad) ∧ (loadVar t ad).run C.P w = .ok u w ∧ VR loc fm lk x u ∧ e = ⟨x, []⟩ := by
 unfold loadT at he
 split at he
 ·rename_i g m hg hm
  split at he
  ·rename_i id s i l j
   obtain ⟨ev, ep⟩ := VR_ptr hx
   split at he
   ·rename_i own ty ps hb
    obtain ⟨x, hx', he⟩ := Tr.is_bind.1 he
    have he := (Tr.is_leaf.1 he).symm
    obtain ⟨cs, h1, h2, h3, _, _⟩ := cells_at h.heap hb
    have hL := ldP_ok h1 hx'
    rw [← h2.base, ← h2.st] at hL
    obtain ⟨u, hr, hu⟩ := run_loadVar hg hm h3 hL
    exact ⟨_, u, x, ev, hr, hu, he⟩
   ·exact he.elim
  ·rename_i x
   obtain ⟨b, off, cs, m', ev, hf, hlen, hv⟩ := VR_fpt hx
   have hcell : ∀ q u, cs[q]? = some u → w.cell? ⟨b, q, none⟩ = some u := fun q u hq => by
    obtain ⟨rest, t', fz, e1⟩ := h.heap.fm b cs hf
    have hlt := (List.getElem?_eq_some_iff.1 hq).1
    simp only [World.cell?, e1, Option.isSome_none, Bool.false_eq_true, if_false]
    simp [List.getElem?_append_left hlt, hq]
   split at he
   ·rename_i ha
    obtain ⟨hn, he⟩ := Tr.is_gd.1 he
    have hn := Nat.eq_of_beq_eq_true hn
    have hl := flat_len hv
    rw [is_ret] at he
    obtain ⟨u, hr, hu⟩ := run_loadVar (x := x) (off := off) hg hm hcell ⟨_, by rw [hl, hn], fun q u hq => take_get hq, by
     unfold VR
     rw [ha]
     exact ⟨_, rfl, hv⟩⟩
    exact ⟨_, u, x, ev, hr, hu, he⟩
   ·rename_i ha
    rw [is_ret] at he
    have hl := VC.len1 _ _ hv ha
    match hc : (cs.drop off).take m', hl with
    | [u], _ =>
     rw [hc] at hv
     obtain ⟨u, hr, hu⟩ := run_loadVar (x := x) (off := off) hg hm hcell ⟨u, by
      have := take_get (cs := cs) (off := off) (m := m') (j := 0) (u := u) (by rw [hc]; rfl)
      simpa using this, by
      unfold VR
      rw [ha]
      exact hv⟩
     exact ⟨_, u, x, ev, hr, hu, he⟩
   ·exact he.elim
  ·exact he.elim
 ·exact he.elim
theorem loadT_ok (h : RelL C.gl B loc fm n tm lk a w) (hd : ∀ d, o.dst = some d → d < n) {t : TypeId} {x : Operand} {e : Eff} (ho : o.op = .load t x) (he : (loadT C lk t (ev C tm x)).is e) :
  Does C.P o a w (Post C B n tm lk a o.dst e) := by
 obtain ⟨ad, u, v, ex, hr, hv, rfl⟩ := loadV_ok h (h.ev x) he
 exact does_pure h hd (x := u) (by simp [execOp, ho, ex, Instr.loadAt, Instr.sureAddr, hr]) hv
theorem Les {loc : Loc} {fm fm' : Fm} {lk lk' : Lk} (hf : ∀ b l, fm b = some l → fm' b = some l) (hk : ∀ i, (lk i).isSome = true → (lk' i).isSome = true) : Le loc loc fm fm' lk lk' := ⟨fun i hi => ⟨rfl, hk i hi⟩, hf⟩
theorem FzS.whole {fm : Fm} {b o m : Nat} {cs rest c : List Value} {k : Nat} {ad : Option Addr} {cap : Nat} (hf : 0 < k → fm b = some (cs ++ rest)) (hc : ∀ q u, c[q]? = some u → cs[o + q]? = some u) (hm : k ≤ cap) (hl : cap < lim63) (ha : 0 < k → ad = some ⟨b, o, none⟩) (_ : m = c.length) : FzS fm k c (.slice ad k cap) := by
 refine ⟨ad, cap, rfl, hm, hl, fun h0 => ⟨b, o, cs ++ rest, ha h0, hf h0, ?_⟩⟩
 apply List.ext_getElem?
 intro q
 rw [List.getElem?_take]
 by_cases hq : q < c.length
 ·rw [if_pos hq, List.getElem?_drop]
  have := hc q c[q] (List.getElem?_eq_getElem hq)
  rw [List.getElem?_eq_getElem hq, List.getElem?_append_left (List.getElem?_eq_some_iff.1 this).1]
  exact this
 ·rw [if_neg hq, List.getElem?_eq_none (by omega)]
theorem subL_eq {α : Type} {l : Bool} {off len m : Nat} {xs : List α} (h : xs.length = m) : subL l off len m xs = (xs.drop off).take len := by
 unfold subL
 split
 ·rename_i hc
  simp only [Bool.and_eq_true] at hc
  rw [Nat.eq_of_beq_eq_true hc.1.2, Nat.eq_of_beq_eq_true hc.2, List.drop_zero, ← h, List.take_length]
 ·rfl
theorem Els.sub {c : Cd} : ∀ (xs : List c.T) (off len : Nat) (cs : List Value), Els fm c xs cs → Els fm c ((xs.drop off).take len) ((cs.drop (off * c.w)).take (len * c.w))
 | [], off, len, cs, h => by
  rw [show cs = [] from h]
  simp [Els]
 | x :: xs, 0, 0, cs, h => by simp [Els]
 | x :: xs, 0, len + 1, cs, ⟨c1, c2, h1, h2, h3, h4⟩ => by
  have := Els.sub xs 0 len c2 h4
  simp only [List.drop_zero, Nat.zero_mul] at this ⊢
  refine ⟨c1, c2.take (len * c.w), ?_, h2, h3, this⟩
  rw [h1, List.take_append, List.take_of_length_le (by rw [h3, Nat.add_mul]; omega), h3]
  congr 2
  rw [Nat.add_mul]
  omega
 | x :: xs, off + 1, len, cs, ⟨c1, c2, h1, h2, h3, h4⟩ => by
  have := Els.sub xs off len c2 h4
  rw [List.drop_succ_cons, h1, List.drop_append, List.drop_of_length_le (l := c1) (by rw [h3, Nat.add_mul]; omega), List.nil_append, h3]
  rw [show (off + 1) * c.w - c.w = off * c.w by rw [Nat.add_mul]; omega]
  exact this
theorem piece_sub {ps : List Pc} {cs : List Value} {s off len : Nat} (hp : PcsOk loc fm lk ps cs) (hlen : off + len ≤ cntL ps s) :
  (∀ ln lc k m xs, ps[s]? = some (.row ln lc k m xs) → xs.length = m ∧ wfs k xs ∧ (∀ q u, (iv k ((xs.drop off).take len))[q]? = some u → cs[baseL ps s + off * stL ps s + q]? = some u) ∧ ((xs.drop off).take len).length = len ∧ stL ps s = 1) ∧
  (∀ ln c m (xs : List c.T), ps[s]? = some (.lst ln c m xs) → xs.length = m ∧ (∃ d, Els fm c ((xs.drop off).take len) d ∧ ∀ q u, d[q]? = some u → cs[baseL ps s + off * stL ps s + q]? = some u) ∧ ((xs.drop off).take len).length = len ∧ stL ps s = c.w) := by
 obtain ⟨c1, c2, e1, e2, e3, e4⟩ := PcsOk.split ps s cs hp
 refine ⟨fun ln lc k m xs hs => ?_, fun ln c m xs hs => ?_⟩
 ·have hdrop : ps.drop s = .row ln lc k m xs :: ps.drop (s + 1) := by
   have hlt := (List.getElem?_eq_some_iff.1 hs).1
   have he := (List.getElem?_eq_some_iff.1 hs).2
   rw [List.drop_eq_getElem_cons hlt, he]
  have hst : stL ps s = 1 := by simp [stL, hs, stOf]
  have hcnt : cntL ps s = m := by simp [cntL, hs, cntOf]
  rw [hdrop] at e4
  obtain ⟨d1, d2, f1, ⟨f2, f3, f4⟩, f5⟩ := e4
  refine ⟨f3, f4, fun q u hq => ?_, by rw [List.length_take, List.length_drop]; omega, hst⟩
  rw [iv, List.getElem?_map, Option.map_eq_some_iff] at hq
  obtain ⟨y, hy, rfl⟩ := hq
  have hy := take_getI hy
  have hlt := (List.getElem?_eq_some_iff.1 hy).1
  rw [hst, Nat.mul_one, e1, Nat.add_assoc, ← e2, List.getElem?_append_right (by omega), Nat.add_sub_cancel_left, f1, List.getElem?_append_left (by rw [f2, iv_length]; exact hlt), f2, iv, List.getElem?_map, hy]
  rfl
 ·have hdrop : ps.drop s = .lst ln c m xs :: ps.drop (s + 1) := by
   have hlt := (List.getElem?_eq_some_iff.1 hs).1
   have he := (List.getElem?_eq_some_iff.1 hs).2
   rw [List.drop_eq_getElem_cons hlt, he]
  have hst : stL ps s = c.w := by simp [stL, hs, stOf]
  have hcnt : cntL ps s = m := by simp [cntL, hs, cntOf]
  rw [hdrop] at e4
  obtain ⟨d1, d2, f1, ⟨f2, f3⟩, f5⟩ := e4
  refine ⟨f3, ⟨_, Els.sub xs off len d1 f2, fun q u hq => ?_⟩, by rw [List.length_take, List.length_drop]; omega, hst⟩
  have hq := take_get hq
  have hlt := (List.getElem?_eq_some_iff.1 hq).1
  rw [hst, e1, Nat.add_assoc, ← e2, List.getElem?_append_right (by omega), Nat.add_sub_cancel_left, f1, List.getElem?_append_left hlt]
  exact hq
where
 take_getI {xs : List Int} {off m j : Nat} {u : Int} (h : ((xs.drop off).take m)[j]? = some u) : xs[off + j]? = some u := by
  rw [List.getElem?_take] at h
  split at h
  ·rwa [List.getElem?_drop] at h
  ·cases h
end
section
variable {C : Ctx} {n nid : Nat} {w : World} {B : Base} {loc : Loc} {fm : Fm} {tm : Nat → A} {lk : Lk} {a : Act} {o : Oper}
def Frz (lk lk1 : Lk) : Prop := ∀ i, lk1 i = lk i ∨ ∃ t ps, lk i = some (.cells true t ps) ∧ lk1 i = some (.cells false t ps)
theorem Frz.some {lk lk1 : Lk} (h : Frz lk lk1) {i : Nat} {own : Bool} {t : TypeId} {ps : List Pc} (hi : lk i = some (.cells own t ps)) : ∃ own', lk1 i = some (.cells own' t ps) := by
 rcases h i with e | ⟨t', ps', e1, e2⟩
 ·exact ⟨own, e.trans hi⟩
 ·rw [hi] at e1
  simp only [Option.some.injEq, Blk.cells.injEq] at e1
  obtain ⟨_, rfl, rfl⟩ := e1
  exact ⟨false, e2⟩
theorem RelL.congr (h : RelL C.gl B loc fm n tm lk a w) {lk' : Lk} (e : lk = lk') : RelL C.gl B loc fm n tm lk' a w := e ▸ h
theorem frz_one {lk lk1 : Lk} (h : RelL C.gl B loc fm n tm lk1 a w) (hz : Frz lk lk1) {i : Nat} {t : TypeId} {ps : List Pc} (hi : lk i = some (.cells true t ps)) (hg : C.gl.length ≤ i) :
  ∃ fm', (∀ b l, fm b = some l → fm' b = some l) ∧ RelL C.gl B loc fm' n tm (updL lk1 [(i, .cells false t ps)]) a w ∧ Frz lk (updL lk1 [(i, .cells false t ps)]) := by
 have hf : Frz lk (updL lk1 [(i, .cells false t ps)]) := fun j => by
  show (if j = i then some (Blk.cells false t ps) else lk1 j) = lk j ∨ ∃ t' ps', lk j = some (.cells true t' ps') ∧ (if j = i then some (Blk.cells false t ps) else lk1 j) = some (.cells false t' ps')
  by_cases hj : j = i
  ·subst hj
   exact Or.inr ⟨t, ps, hi, by simp⟩
  ·simp only [hj, if_false]
   exact hz j
 rcases hz i with e | ⟨t', ps', e1, e2⟩
 ·obtain ⟨fm', f1, _, f3⟩ := h.freeze (e.trans hi) hg
  exact ⟨fm', f1, f3, hf⟩
 ·rw [hi] at e1
  simp only [Option.some.injEq, Blk.cells.injEq, true_and] at e1
  obtain ⟨rfl, rfl⟩ := e1
  refine ⟨fm, fun _ _ h => h, h.congr ?_, hf⟩
  funext j
  show lk1 j = if j = i then some (Blk.cells false t ps) else lk1 j
  by_cases hj : j = i
  ·rw [if_pos hj, hj, e2]
  ·rw [if_neg hj]
theorem frozen_slc {ps : List Pc} {t : TypeId} {id s off len c : Nat} {ad : Option Addr} (h : HRel loc fm lk w) (hb : lk id = some (.cells false t ps)) (hlen : off + len ≤ (loc id).cnt s) (h1 : len ≤ c) (h2 : c < lim63)
  (h3 : 0 < c → ad = some ⟨(loc id).blk, (loc id).base s + off * (loc id).st s, none⟩) :
  (∀ ln lc k m xs, ps[s]? = some (.row ln lc k m xs) → xs.length = m ∧ wfs k ((xs.drop off).take len) ∧ ((xs.drop off).take len).length = len ∧ FzS fm len (iv k ((xs.drop off).take len)) (.slice ad len c)) ∧
  (∀ ln cd m (xs : List cd.T), ps[s]? = some (.lst ln cd m xs) → xs.length = m ∧ ((xs.drop off).take len).length = len ∧ ∃ d, Els fm cd ((xs.drop off).take len) d ∧ FzS fm len d (.slice ad len c)) := by
 obtain ⟨cs, k1, k2, k3, k4, k5⟩ := cells_at h hb
 rw [k2.cnt] at hlen
 obtain ⟨p1, p2⟩ := piece_sub k1 hlen
 rw [k2.base, k2.st] at h3
 refine ⟨fun ln lc k m xs hs => ?_, fun ln cd m xs hs => ?_⟩
 ·obtain ⟨q1, q2, q3, q4, q5⟩ := p1 ln lc k m xs hs
  refine ⟨q1, fun x hx => q2 x (List.mem_of_mem_drop (List.mem_of_mem_take hx)), q4, ?_⟩
  by_cases hr : (loc id).real = true
  ·obtain ⟨rest, fz, e1, _, e3⟩ := k5 hr
   exact FzS.whole (m := len) (fun _ => e3 rfl) q3 h1 h2 (fun h0 => h3 (by omega)) (by rw [iv_length, q4])
  ·have hcs : cs = [] := Classical.byContradiction fun hne => hr (k4 hne)
   have h0 : len = 0 := by
    rcases Nat.eq_zero_or_pos len with h0 | h0
    ·exact h0
    ·exfalso
     have := q3 0 _ (List.getElem?_eq_getElem (by rw [iv_length]; omega))
     rw [hcs] at this
     simp at this
   exact ⟨ad, c, rfl, h1, h2, fun h => by omega⟩
 ·obtain ⟨q1, ⟨d, q2, q3⟩, q4, q5⟩ := p2 ln cd m xs hs
  refine ⟨q1, q4, d, q2, ?_⟩
  have hdl := Els.length _ _ q2
  by_cases hr : (loc id).real = true
  ·obtain ⟨rest, fz, e1, _, e3⟩ := k5 hr
   exact FzS.whole (m := d.length) (fun _ => e3 rfl) q3 h1 h2 (fun h0 => h3 (by omega)) rfl
  ·have hcs : cs = [] := Classical.byContradiction fun hne => hr (k4 hne)
   have h0 : len = 0 := by
    rcases Nat.eq_zero_or_pos len with h0 | h0
    ·exact h0
    ·exfalso
     have hw : 0 < cd.w := by cases cd <;> decide
     have hd : 0 < d.length := by rw [hdl, q4]; exact Nat.mul_pos h0 hw
     have := q3 0 d[0] (List.getElem?_eq_getElem hd)
     rw [hcs] at this
     simp at this
   exact ⟨ad, c, rfl, h1, h2, fun h => by omega⟩
theorem cntL_one (p : Pc) : cntL [p] 0 = cntOf p := rfl
theorem frozen_vec {t : TypeId} {p : Pc} {id : Nat} {v : Value} (h : HRel loc fm lk w) (hb : lk id = some (.cells false t [p])) (hv : VR loc fm lk (.vec id) v) :
  (∀ ln lc k m xs, p = .row ln lc k m xs → ∀ l, VR loc fm lk (.fzi l k xs) v) ∧ (∀ ln cd m (xs : List cd.T), p = .lst ln cd m xs → VR loc fm lk (.fz cd xs) v) := by
 obtain ⟨ad, c, rfl, h1, h2, h3, _⟩ := VR_vec hv
 obtain ⟨cs, k1, k2, k3, k4, k5⟩ := cells_at h hb
 have hc : (loc id).cnt 0 = cntOf p := by rw [k2.cnt, cntL_one]
 have hst : (loc id).base 0 + 0 * (loc id).st 0 = 0 := by rw [k2.base]; simp [baseL, wPs]
 have ha : 0 < c → ad = some ⟨(loc id).blk, (loc id).base 0 + 0 * (loc id).st 0, none⟩ := fun h0 => by
  rw [hst]
  rcases h3 with h3 | h3
  ·omega
  ·exact h3.1
 obtain ⟨p1, p2⟩ := frozen_slc h hb (s := 0) (off := 0) (len := (loc id).cnt 0) (Nat.le_of_eq (Nat.zero_add _)) h1 h2 ha
 refine ⟨fun ln lc k m xs hp l => ?_, fun ln cd m xs hp => ?_⟩
 ·subst hp
  obtain ⟨q1, q2, q3, q4⟩ := p1 ln lc k m xs rfl
  have hx : (xs.drop 0).take ((loc id).cnt 0) = xs := by rw [List.drop_zero, hc]; exact List.take_of_length_le (by rw [q1]; exact Nat.le_refl _)
  rw [hx] at q2 q4
  have hn : (loc id).cnt 0 = xs.length := by rw [hc, q1]; rfl
  rw [hn] at q4 ⊢
  exact ⟨_, rfl, q2, q4⟩
 ·subst hp
  obtain ⟨q1, q2, d, q3, q4⟩ := p2 ln cd m xs rfl
  have hx : (xs.drop 0).take ((loc id).cnt 0) = xs := by rw [List.drop_zero, hc]; exact List.take_of_length_le (by rw [q1]; exact Nat.le_refl _)
  rw [hx] at q3
  have hn : (loc id).cnt 0 = xs.length := by rw [hc, q1]; rfl
  rw [hn] at q4 ⊢
  exact ⟨_, d, rfl, q3, q4⟩
theorem updL_append (lk : Lk) : ∀ (p q : List (Nat × Blk)), updL lk (p ++ q) = updL (updL lk p) q := by
 intro p
 induction p generalizing lk with
 | nil => intro q; rfl
 | cons x p ih => intro q; exact ih _ q
theorem updL_some {lk : Lk} : ∀ (p : List (Nat × Blk)) {i : Nat}, (lk i).isSome = true → (updL lk p i).isSome = true
  | [], _, h => h
  | (j, b) :: p, i, h => updL_some p (i := i) (by
      show (if i = j then some b else lk i).isSome = true
      split
      · rfl
      · exact h)
end
end
section
def Ro (C : Ctx) : Prop := ∀ (g : Nat) (b : Blk), C.gl[g]? = some b → b.mine = false
section
variable {C : Ctx} {n nid : Nat} {w : World} {B : Base} {loc : Loc} {fm : Fm} {tm : Nat → A} {lk : Lk} {a : Act} {o : Oper}
theorem own_ge (hC : Ro C) (h : RelL C.gl B loc fm n tm lk a w) {i : Nat} {b : Blk} (hi : lk i = some b) (hb : b.mine = true) : C.gl.length ≤ i := by
 rcases Nat.lt_or_ge i C.gl.length with hl | hl
 ·have h1 := List.getElem?_eq_getElem hl
  have h2 := (h.glob i _ h1).2
  rw [hi, Option.some.injEq] at h2
  have := hC i _ h1
  rw [← h2, hb] at this
  cases this
 ·exact hl
theorem Frz.refl {lk : Lk} : Frz lk lk := fun _ => Or.inl rfl
theorem Frz.le {lk lk1 : Lk} (h : Frz lk lk1) {i : Nat} (hi : (lk i).isSome = true) : (lk1 i).isSome = true := by
 rcases h i with e | ⟨_, _, _, e⟩
 ·rw [e]; exact hi
 ·rw [e]; rfl
def FrzTo (C : Ctx) (B : Base) (loc : Loc) (n : Nat) (tm : Nat → A) (lk : Lk) (a : Act) (w : World) (fm1 : Fm) (lk1 : Lk) (p : List (Nat × Blk)) (V : Fm → Lk → Prop) : Prop :=
 ∃ fm2, (∀ b l, fm1 b = some l → fm2 b = some l) ∧ RelL C.gl B loc fm2 n tm (updL lk1 p) a w ∧ Frz lk (updL lk1 p) ∧ V fm2 (updL lk1 p)
theorem FrzTo.none {fm1 : Fm} {lk1 : Lk} {V : Fm → Lk → Prop} (h : RelL C.gl B loc fm1 n tm lk1 a w) (hz : Frz lk lk1) (hv : V fm1 lk1) : FrzTo C B loc n tm lk a w fm1 lk1 [] V :=
 ⟨fm1, fun _ _ h => h, h, hz, hv⟩
theorem frz_slc_conc {fm1 fm2 : Fm} {lk1 lk2 : Lk} {l : Bool} {id s off len : Nat} {cap : Option Nat} {x' : A} {t : TypeId} {ps : List Pc} (hR : HRel loc fm2 lk2 w) (hb : lk2 id = some (.cells false t ps))
  (hx : (match ps[s]? with
   | some (.row ln _ k m xs) => some (A.fzi l k (subL (l && ln) off len m xs))
   | some (.lst ln c m xs) => some (.fz c (subL (l && ln) off len m xs))
   | _ => none) = some x') : ∀ cs, VC loc fm1 lk1 (.slc l id s off len cap) cs → VC loc fm2 lk2 x' cs := by
 intro cs hv
 obtain ⟨ad, c, e1, e2, e3, e4, e5, e6, e7⟩ := hv
 obtain ⟨p1, p2⟩ := frozen_slc hR hb e6 e2 e3 e5
 split at hx
 ·rename_i ln lc k m xs hs
  obtain ⟨q1, q2, q3, q4⟩ := p1 ln lc k m xs hs
  rw [Option.some.injEq] at hx
  subst hx
  rw [subL_eq q1]
  refine ⟨_, e1, q2, ?_⟩
  rw [q3]
  exact q4
 ·rename_i ln c' m xs hs
  obtain ⟨q1, q2, d, q3, q4⟩ := p2 ln c' m xs hs
  rw [Option.some.injEq] at hx
  subst hx
  rw [subL_eq q1]
  refine ⟨_, d, e1, q3, ?_⟩
  rw [q2]
  exact q4
 ·cases hx
theorem frzA_slc (hge : ∀ i t ps, lk i = some (.cells true t ps) → C.gl.length ≤ i) {fm1 : Fm} {lk1 : Lk} (h : RelL C.gl B loc fm1 n tm lk1 a w) (hz : Frz lk lk1) {l : Bool} {id s off len : Nat} {cap : Option Nat} {x' : A} {p : List (Nat × Blk)}
  (he : frzA lk (.slc l id s off len cap) = some (x', p)) : FrzTo C B loc n tm lk a w fm1 lk1 p (fun fm2 lk2 => ∀ cs, VC loc fm1 lk1 (.slc l id s off len cap) cs → VC loc fm2 lk2 x' cs) := by
 simp only [frzA] at he
 split at he
 ·rename_i t ps hb
  obtain ⟨fm', f1, f2, f3⟩ := frz_one h hz hb (hge _ _ _ hb)
  have key : p = [(id, .cells false t ps)] ∧ (match ps[s]? with
   | some (.row ln _ k m xs) => some (A.fzi l k (subL (l && ln) off len m xs))
   | some (.lst ln c m xs) => some (.fz c (subL (l && ln) off len m xs))
   | _ => none) = some x' := by
   split at he
   ·rename_i hs
    simp only [Option.some.injEq, Prod.mk.injEq] at he
    exact ⟨he.2.symm, by rw [hs, ← he.1]⟩
   ·rename_i hs
    simp only [Option.some.injEq, Prod.mk.injEq] at he
    exact ⟨he.2.symm, by rw [hs, ← he.1]⟩
   ·cases he
  obtain ⟨rfl, hx⟩ := key
  exact ⟨fm', f1, f2, f3, frz_slc_conc (t := t) f2.heap (by simp [updL]) hx⟩
 ·rename_i t ps hb
  have key : p = [] ∧ (match ps[s]? with
   | some (.row ln _ k m xs) => some (A.fzi l k (subL (l && ln) off len m xs))
   | some (.lst ln c m xs) => some (.fz c (subL (l && ln) off len m xs))
   | _ => none) = some x' := by
   split at he
   ·rename_i hs
    simp only [Option.some.injEq, Prod.mk.injEq] at he
    exact ⟨he.2.symm, by rw [hs, ← he.1]⟩
   ·rename_i hs
    simp only [Option.some.injEq, Prod.mk.injEq] at he
    exact ⟨he.2.symm, by rw [hs, ← he.1]⟩
   ·cases he
  obtain ⟨rfl, hx⟩ := key
  have hb1 : lk1 id = some (.cells false t ps) := by
   rcases hz id with e | ⟨t', ps', e1, e2⟩
   ·exact e.trans hb
   ·rw [hb] at e1; cases e1
  exact FrzTo.none h hz (frz_slc_conc h.heap hb1 hx)
 ·cases he
theorem VC_vec {cs : List Value} {id : Nat} (h : VC loc fm lk (.vec id) cs) : ∃ v, cs = [v] ∧ VR loc fm lk (.vec id) v := by
 obtain ⟨ad, c, e1, e2⟩ := h
 exact ⟨_, e1, ad, c, rfl, e2⟩
theorem frz_vec_conc {fm1 fm2 : Fm} {lk1 lk2 : Lk} {id : Nat} {x' : A} {t : TypeId} {p : Pc} (hR : HRel loc fm2 lk2 w) (hb : lk2 id = some (.cells false t [p]))
  (hx : (∃ ln lc k m xs, p = .row ln lc k m xs ∧ x' = .fzi ln k xs) ∨ ∃ ln c m xs, p = .lst ln c m xs ∧ x' = .fz c xs) : ∀ cs, VC loc fm1 lk1 (.vec id) cs → VC loc fm2 lk2 x' cs := by
 intro cs hv
 obtain ⟨v, rfl, hv⟩ := VC_vec hv
 obtain ⟨ad, c, e0, e1, e2, e3, e4⟩ := VR_vec (fm := fm1) hv
 have hv2 : VR loc fm2 lk2 (.vec id) v := ⟨ad, c, by rw [e0], e1, e2, e3, by rw [hb]; rfl⟩
 obtain ⟨p1, p2⟩ := frozen_vec hR hb hv2
 rcases hx with ⟨ln, lc, k, m, xs, hp, rfl⟩ | ⟨ln, cd, m, xs, hp, rfl⟩
 ·exact p1 _ _ _ _ _ hp ln
 ·exact p2 _ _ _ _ hp
theorem frzA_vec (hge : ∀ i t ps, lk i = some (.cells true t ps) → C.gl.length ≤ i) {fm1 : Fm} {lk1 : Lk} (h : RelL C.gl B loc fm1 n tm lk1 a w) (hz : Frz lk lk1) {id : Nat} {x' : A} {p : List (Nat × Blk)}
  (he : frzA lk (.vec id) = some (x', p)) : FrzTo C B loc n tm lk a w fm1 lk1 p (fun fm2 lk2 => ∀ cs, VC loc fm1 lk1 (.vec id) cs → VC loc fm2 lk2 x' cs) := by
 simp only [frzA] at he
 have frz : ∀ (t : TypeId) (q : Pc), lk id = some (.cells true t [q]) → p = [(id, .cells false t [q])] → ((∃ ln lc k m xs, q = .row ln lc k m xs ∧ x' = .fzi ln k xs) ∨ ∃ ln c m xs, q = .lst ln c m xs ∧ x' = .fz c xs) →
   FrzTo C B loc n tm lk a w fm1 lk1 p (fun fm2 lk2 => ∀ cs, VC loc fm1 lk1 (.vec id) cs → VC loc fm2 lk2 x' cs) := fun t q hb hp hx => by
  subst hp
  obtain ⟨fm', f1, f2, f3⟩ := frz_one h hz hb (hge _ _ _ hb)
  exact ⟨fm', f1, f2, f3, frz_vec_conc (t := t) f2.heap (by simp [updL]) hx⟩
 have old : ∀ (t : TypeId) (q : Pc), lk id = some (.cells false t [q]) → p = [] → ((∃ ln lc k m xs, q = .row ln lc k m xs ∧ x' = .fzi ln k xs) ∨ ∃ ln c m xs, q = .lst ln c m xs ∧ x' = .fz c xs) →
   FrzTo C B loc n tm lk a w fm1 lk1 p (fun fm2 lk2 => ∀ cs, VC loc fm1 lk1 (.vec id) cs → VC loc fm2 lk2 x' cs) := fun t q hb hp hx => by
  subst hp
  have hb1 : lk1 id = some (.cells false t [q]) := by
   rcases hz id with e | ⟨t', ps', e1, e2⟩
   ·exact e.trans hb
   ·rw [hb] at e1; cases e1
  exact FrzTo.none h hz (frz_vec_conc h.heap hb1 hx)
 split at he
 ·rename_i t ln lc k m xs hb
  simp only [Option.some.injEq, Prod.mk.injEq] at he
  exact frz t _ hb he.2.symm (Or.inl ⟨_, _, _, _, _, rfl, he.1.symm⟩)
 ·rename_i t ln c m xs hb
  simp only [Option.some.injEq, Prod.mk.injEq] at he
  exact frz t _ hb he.2.symm (Or.inr ⟨_, _, _, _, rfl, he.1.symm⟩)
 ·rename_i t ln lc k m xs hb
  simp only [Option.some.injEq, Prod.mk.injEq] at he
  exact old t _ hb he.2.symm (Or.inl ⟨_, _, _, _, _, rfl, he.1.symm⟩)
 ·rename_i t ln c m xs hb
  simp only [Option.some.injEq, Prod.mk.injEq] at he
  exact old t _ hb he.2.symm (Or.inr ⟨_, _, _, _, rfl, he.1.symm⟩)
 ·cases he
theorem aggA_frz {x x' : A} {p : List (Nat × Blk)} (h : frzA lk x = some (x', p)) : aggA x' = aggA x := by
 cases x <;> simp only [frzA] at h
 case slc =>
  split at h
  ·split at h <;> first | (cases h; done) | (simp only [Option.some.injEq, Prod.mk.injEq] at h; rw [← h.1]; rfl)
  ·split at h <;> first | (cases h; done) | (simp only [Option.some.injEq, Prod.mk.injEq] at h; rw [← h.1]; rfl)
  ·cases h
 all_goals first
  | (simp only [Option.some.injEq, Prod.mk.injEq] at h; rw [← h.1]; done)
  | (split at h <;> first | (cases h; done) | (simp only [Option.some.injEq, Prod.mk.injEq] at h; rw [← h.1]; rfl))
mutual
theorem frzA_ok (hge : ∀ i t ps, lk i = some (.cells true t ps) → C.gl.length ≤ i) : ∀ (x x' : A) (p : List (Nat × Blk)) (fm1 : Fm) (lk1 : Lk), frzA lk x = some (x', p) → RelL C.gl B loc fm1 n tm lk1 a w → Frz lk lk1 →
  FrzTo C B loc n tm lk a w fm1 lk1 p (fun fm2 lk2 => ∀ cs, VC loc fm1 lk1 x cs → VC loc fm2 lk2 x' cs)
 | .vec id, x', p, fm1, lk1, he, h, hz => frzA_vec hge h hz he
 | .slc l id s off len cap, x', p, fm1, lk1, he, h, hz => frzA_slc hge h hz he
 | .agg l, x', p, fm1, lk1, he, h, hz => by
  simp only [frzA] at he
  split at he
  ·rename_i l' p' hl
   simp only [Option.some.injEq, Prod.mk.injEq] at he
   obtain ⟨rfl, rfl⟩ := he
   obtain ⟨fm2, f1, f2, f3, f4, _⟩ := frzL_ok hge l l' p' fm1 lk1 hl h hz
   exact ⟨fm2, f1, f2, f3, f4⟩
  ·cases he
 | .tup l, x', p, fm1, lk1, he, h, hz => by
  simp only [frzA] at he
  split at he
  ·rename_i l' p' hl
   simp only [Option.some.injEq, Prod.mk.injEq] at he
   obtain ⟨rfl, rfl⟩ := he
   obtain ⟨fm2, f1, f2, f3, _, f5⟩ := frzL_ok hge l l' p' fm1 lk1 hl h hz
   exact ⟨fm2, f1, f2, f3, fun cs ⟨vs, e1, e2⟩ => ⟨vs, e1, f5 vs e2⟩⟩
  ·cases he
 | .any, x', p, fm1, lk1, he, h, hz => by simp only [frzA, Option.some.injEq, Prod.mk.injEq] at he; obtain ⟨rfl, rfl⟩ := he; exact FrzTo.none h hz fun _ h => h
 | .undef, x', p, fm1, lk1, he, h, hz => by simp only [frzA, Option.some.injEq, Prod.mk.injEq] at he; obtain ⟨rfl, rfl⟩ := he; exact FrzTo.none h hz fun _ h => h
 | .bool _ _, x', p, fm1, lk1, he, h, hz => by simp only [frzA, Option.some.injEq, Prod.mk.injEq] at he; obtain ⟨rfl, rfl⟩ := he; exact FrzTo.none h hz fun _ h => h
 | .int _ _ _, x', p, fm1, lk1, he, h, hz => by simp only [frzA, Option.some.injEq, Prod.mk.injEq] at he; obtain ⟨rfl, rfl⟩ := he; exact FrzTo.none h hz fun _ h => h
 | .str _ _, x', p, fm1, lk1, he, h, hz => by simp only [frzA, Option.some.injEq, Prod.mk.injEq] at he; obtain ⟨rfl, rfl⟩ := he; exact FrzTo.none h hz fun _ h => h
 | .val _, x', p, fm1, lk1, he, h, hz => by simp only [frzA, Option.some.injEq, Prod.mk.injEq] at he; obtain ⟨rfl, rfl⟩ := he; exact FrzTo.none h hz fun _ h => h
 | .ptr _ _ _ _ _, x', p, fm1, lk1, he, h, hz => by simp only [frzA, Option.some.injEq, Prod.mk.injEq] at he; obtain ⟨rfl, rfl⟩ := he; exact FrzTo.none h hz fun _ h => h
 | .fzi _ _ _, x', p, fm1, lk1, he, h, hz => by simp only [frzA, Option.some.injEq, Prod.mk.injEq] at he; obtain ⟨rfl, rfl⟩ := he; exact FrzTo.none h hz fun _ h => h
 | .fz _ _, x', p, fm1, lk1, he, h, hz => by simp only [frzA, Option.some.injEq, Prod.mk.injEq] at he; obtain ⟨rfl, rfl⟩ := he; exact FrzTo.none h hz fun _ h => h
 | .fpt _, x', p, fm1, lk1, he, h, hz => by simp only [frzA, Option.some.injEq, Prod.mk.injEq] at he; obtain ⟨rfl, rfl⟩ := he; exact FrzTo.none h hz fun _ h => h
 | .map _, x', p, fm1, lk1, he, h, hz => by simp only [frzA, Option.some.injEq, Prod.mk.injEq] at he; obtain ⟨rfl, rfl⟩ := he; exact FrzTo.none h hz fun _ h => h
 | .fn _ _ _, x', p, fm1, lk1, he, h, hz => by simp only [frzA, Option.some.injEq, Prod.mk.injEq] at he; obtain ⟨rfl, rfl⟩ := he; exact FrzTo.none h hz fun _ h => h
 | .ifc _ _, x', p, fm1, lk1, he, h, hz => by simp only [frzA, Option.some.injEq, Prod.mk.injEq] at he; obtain ⟨rfl, rfl⟩ := he; exact FrzTo.none h hz fun _ h => h
 | .arr _ _ _ _, x', p, fm1, lk1, he, h, hz => by simp only [frzA, Option.some.injEq, Prod.mk.injEq] at he; obtain ⟨rfl, rfl⟩ := he; exact FrzTo.none h hz fun _ h => h
 | .arrc _ _ _, x', p, fm1, lk1, he, h, hz => by simp only [frzA, Option.some.injEq, Prod.mk.injEq] at he; obtain ⟨rfl, rfl⟩ := he; exact FrzTo.none h hz fun _ h => h
theorem frzL_ok (hge : ∀ i t ps, lk i = some (.cells true t ps) → C.gl.length ≤ i) : ∀ (x x' : List A) (p : List (Nat × Blk)) (fm1 : Fm) (lk1 : Lk), frzA.frzL lk x = some (x', p) → RelL C.gl B loc fm1 n tm lk1 a w → Frz lk lk1 →
  FrzTo C B loc n tm lk a w fm1 lk1 p (fun fm2 lk2 => (∀ cs, VCs loc fm1 lk1 x cs → VCs loc fm2 lk2 x' cs) ∧ (∀ vs, VTs loc fm1 lk1 x vs → VTs loc fm2 lk2 x' vs))
 | [], x', p, fm1, lk1, he, h, hz => by
  simp only [frzA.frzL, Option.some.injEq, Prod.mk.injEq] at he
  obtain ⟨rfl, rfl⟩ := he
  exact FrzTo.none h hz ⟨fun _ h => h, fun _ h => h⟩
 | y :: l, x', p, fm1, lk1, he, h, hz => by
  simp only [frzA.frzL] at he
  split at he
  ·rename_i y' p1 l' p2 hy hl
   simp only [Option.some.injEq, Prod.mk.injEq] at he
   obtain ⟨rfl, rfl⟩ := he
   obtain ⟨fm2, f1, f2, f3, f4⟩ := frzA_ok hge y y' p1 fm1 lk1 hy h hz
   obtain ⟨fm3, g1, g2, g3, g4, g5⟩ := frzL_ok hge l l' p2 fm2 _ hl f2 f3
   have hle1 : Le loc loc fm1 fm2 lk1 (updL lk1 p1) := Les f1 (fun i hi => updL_some p1 hi)
   have hle2 : Le loc loc fm2 fm3 (updL lk1 p1) (updL (updL lk1 p1) p2) := Les g1 (fun i hi => updL_some p2 hi)
   refine ⟨fm3, fun b l h => g1 b l (f1 b l h), by rw [updL_append]; exact g2, by rw [updL_append]; exact g3, ?_, ?_⟩
   ·rintro cs ⟨c1, c2, e1, e2, e3⟩
    rw [updL_append]
    exact ⟨c1, c2, e1, VC.mono hle2 _ _ (f4 _ e2), g4 _ (VCs.mono hle1 _ _ e3)⟩
   ·rintro vs ⟨v, r', e1, e2, e3⟩
    rw [updL_append]
    refine ⟨v, r', e1, ?_, g5 _ (VTs.mono hle1 _ _ e3)⟩
    rw [aggA_frz hy]
    revert e2
    cases aggA y with
    | true => exact fun ⟨ds, q1, q2⟩ => ⟨ds, q1, VC.mono hle2 _ _ (f4 _ q2)⟩
    | false => exact fun q => VC.mono hle2 _ _ (f4 _ q)
  ·cases he
end
theorem frzV_ok (hC : Ro C) (h : RelL C.gl B loc fm n tm lk a w) {x x' : A} {p : List (Nat × Blk)} (he : frzA lk x = some (x', p)) {v : Value} (hv : VR loc fm lk x v) :
  ∃ fm2, (∀ b l, fm b = some l → fm2 b = some l) ∧ RelL C.gl B loc fm2 n tm (updL lk p) a w ∧ Frz lk (updL lk p) ∧ VR loc fm2 (updL lk p) x' v := by
 obtain ⟨fm2, f1, f2, f3, f4⟩ := frzA_ok (fun i t ps hi => own_ge hC h hi rfl) x x' p fm lk he h Frz.refl
 refine ⟨fm2, f1, f2, f3, ?_⟩
 unfold VR at hv ⊢
 rw [aggA_frz he]
 revert hv
 cases aggA x with
 | true => exact fun ⟨ds, q1, q2⟩ => ⟨ds, q1, f4 _ q2⟩
 | false => exact fun q => f4 _ q
end
end
section
theorem memN_false {x : Nat} : ∀ {l : List Nat}, memN x l = false → x ∉ l
 | [], _, h => by cases h
 | y :: l, h, hm => by
  simp only [memN] at h
  split at h
  ·cases h
  ·rename_i hb
   rcases List.mem_cons.1 hm with e | hm
   ·subst e
    rw [Nat.beq_refl] at hb
    cases hb
   ·exact memN_false h hm
theorem updL_not : ∀ (l : List (Nat × Blk)) (lk : Lk) (i : Nat), i ∉ l.map (·.1) → updL lk l i = lk i
 | [], _, _, _ => rfl
 | (j, c) :: l, lk, i, h => by
  simp only [List.map_cons, List.mem_cons, not_or] at h
  show updL (fun q => if q = j then some c else lk q) l i = lk i
  rw [updL_not l _ i h.2, if_neg h.1]
section
variable {C : Ctx} {n nid : Nat} {w : World} {B : Base} {loc : Loc} {fm : Fm} {tm : Nat → A} {lk : Lk} {a : Act} {o : Oper}
theorem Free.not {q : Bool} {m : Nat} {fz : Nat × Nat} (h : Free q m fz) {j : Nat} (hj : j < m) : (decide (fz.1 ≤ j) && decide (j < fz.2)) = false := by
 unfold Free at h
 rw [Bool.and_eq_false_iff, decide_eq_false_iff_not, decide_eq_false_iff_not]
 omega
theorem run_storeCells {P : Program} {b o : Nat} {vs l : List Value} {t : TypeId} {fz : Nat × Nat} (hw : w.heap[b]? = some (.cells l.toArray t fz)) (hl : o + vs.length ≤ l.length) {q : Bool} (hf : Free q l.length fz) (h1 : ∀ v ∈ vs, v.oneCell' = true) :
  (storeCells ⟨b, o, none⟩ vs 0).run P w = .ok () (w.setCells b o vs) := by
 have := run_storeCells_cells (P := P) b o vs 0 w (fun j hj => by
  have hlt : o + j < l.length := by omega
  simp [World.cell?, hw, hlt]) (fun j hj => by
  simp only [World.frozen?, hw]
  exact hf.not (by omega)) h1
 simpa using this
theorem does_stP (hC : Ro C) (h : RelL C.gl B loc fm n tm lk a w) (hd : ∀ d, o.dst = some d → d < n) {t : TypeId} {x y : Operand} (ho : o.op = .store t x y) {m : Nat} (hm : sizeT C.P t = some m) {id s i j : Nat} {l : Bool}
  (hx : VR loc fm lk (.ptr id s i l j) (a.eval x)) {ty : TypeId} {ps q : List Pc} (hb : lk id = some (.cells true ty ps)) {X : A} (hy : VR loc fm lk X (a.eval y)) (hcv : cellsV X = true) (h1 : 1 ≤ m) (hw : wAs (flatA X) = m) (hq : (stP X ps s i l j).is q) :
  Does C.P o a w (Post C B n tm lk a o.dst ⟨.undef, [(id, .cells true ty q)]⟩) := by
 obtain ⟨ex, _⟩ := VR_ptr hx
 have hc := VR_cells hy hcv
 have hlen : (a.eval y).cells.toList.length = m := by rw [flat_len hc, hw]
 obtain ⟨cs, k1, k2, k3, k4, k5⟩ := cells_at h.heap hb
 obtain ⟨g1, g2, g3⟩ := stP_ok k1 hc hq
 have hreal : (loc id).real = true := k4 (fun e => by rw [e] at g2; simp only [List.length_nil] at g2; omega)
 obtain ⟨rest, fz, e1, e2, _⟩ := k5 hreal
 obtain ⟨_, _, e4⟩ := e2 rfl
 have hon : ∀ v ∈ (a.eval y).cells.toList, v.oneCell' = true := ones_of_cellV _ _ (flatA_ok _ _ hc) hcv
 have hst := run_storeCells (P := C.P) (b := (loc id).blk) (o := baseL ps s + i * stL ps s + j) (vs := (a.eval y).cells.toList) e1 (by rw [List.length_append]; omega) e4 hon
 have hR := h.write hb (own_ge hC h hb rfl) hreal (baseL ps s + i * stL ps s + j) (a.eval y).cells.toList (fun cs' hcs' => (stP_ok hcs' hc hq).2) (fun hl => g1.lies hl) (fun r hr => g1.rest r hr) g1.lst
 refine Or.inr (Or.inl ⟨_, ?_, loc, fm, hR.val o.dst hd rfl⟩)
 rw [k2.base, k2.st] at ex
 have hsz : (a.eval y).cells.size = m := by rw [← hlen]; simp
 simp [execOp, ho, ex, Instr.storeAt, Instr.sureAddr, storeVar, run_sizeOf' hm, hsz, hst]
theorem storeT_ok (hC : Ro C) (h : RelL C.gl B loc fm n tm lk a w) (hd : ∀ d, o.dst = some d → d < n) {t : TypeId} {x y : Operand} {e : Eff} (ho : o.op = .store t x y) (he : (storeT C lk t (ev C tm x) (ev C tm y)).is e) :
  Does C.P o a w (Post C B n tm lk a o.dst e) := by
 have hx := h.ev x
 have hy := h.ev y
 generalize ev C tm x = X at *
 generalize ev C tm y = Y at *
 unfold storeT at he
 split at he
 ·rename_i m hm
  split at he
  ·rename_i id s i l j
   split at he
   ·rename_i ty ps hb
    split at he
    ·split at he
     ·rename_i x' fz hz
      obtain ⟨hg, he⟩ := Tr.is_gd.1 he
      simp only [Bool.and_eq_true, Bool.not_eq_true'] at hg
      obtain ⟨⟨⟨g1, g2⟩, g3⟩, g4⟩ := hg
      obtain ⟨q, hq, he⟩ := Tr.is_bind.1 he
      have he := (Tr.is_leaf.1 he).symm
      subst he
      obtain ⟨fm2, f1, f2, f3, f4⟩ := frzV_ok hC h hz hy
      have hb2 : updL lk fz id = some (.cells true ty ps) := by rw [updL_not _ _ _ (memN_false g4)]; exact hb
      have hle : Le loc loc fm fm2 lk (updL lk fz) := Les f1 (fun i hi => updL_some fz hi)
      have := does_stP hC f2 hd ho hm (VR.mono hle _ _ hx) hb2 f4 g3 (Nat.le_of_ble_eq_true g1) (Nat.eq_of_beq_eq_true g2) hq
      unfold Post at this ⊢
      rwa [updL_append]
     ·exact he.elim
    ·obtain ⟨hg, he⟩ := Tr.is_gd.1 he
     simp only [Bool.and_eq_true] at hg
     obtain ⟨⟨g1, g2⟩, g3⟩ := hg
     obtain ⟨q, hq, he⟩ := Tr.is_bind.1 he
     have he := (Tr.is_leaf.1 he).symm
     subst he
     exact does_stP hC h hd ho hm hx hb hy g3 (Nat.le_of_ble_eq_true g1) (Nat.eq_of_beq_eq_true g2) hq
   ·exact he.elim
  ·exact he.elim
 ·exact he.elim
theorem fieldOf_ok {P : Program} {t : TypeId} {f : Nat} {fd : Field} (h : fieldOf P t f = some fd) : ∃ fs, P.underlying t = some (.struct fs) ∧ fs[f]? = some fd := by
 unfold fieldOf at h
 split at h
 ·rename_i fs hu
  exact ⟨fs, hu, h⟩
 ·cases h
theorem skipP_ok : ∀ (ps : List Pc) (j q : Nat), skipP j ps = some q → wPs (ps.take q) = j
 | ps, 0, q, h => by
  cases ps <;> (simp only [skipP, Option.some.injEq] at h; subst h; simp [wPs])
 | [], j + 1, q, h => by simp [skipP] at h
 | p :: ps, j + 1, q, h => by
  simp only [skipP] at h
  split at h
  ·rename_i hb
   have hb := Nat.le_of_ble_eq_true hb
   split at h
   ·rename_i q' hq
    rw [Option.some.injEq] at h
    subst h
    have := skipP_ok ps _ q' hq
    rw [List.take_succ_cons]
    simp only [wPs]
    omega
   ·cases h
  ·cases h
theorem wPs_append : ∀ (a b : List Pc), wPs (a ++ b) = wPs a + wPs b
 | [], b => by simp [wPs]
 | p :: a, b => by simp [wPs, wPs_append a b, Nat.add_assoc]
theorem base_skip {ps : List Pc} {s j q : Nat} (h : skipP j (ps.drop s) = some q) : baseL ps (s + q) = baseL ps s + j := by
 unfold baseL
 rw [List.take_add, wPs_append, skipP_ok _ _ _ h]
theorem drop_head {ps : List Pc} {s : Nat} {p : Pc} {r : List Pc} (h : ps.drop s = p :: r) : ps[s]? = some p := by
 have := congrArg (fun q : List Pc => q[0]?) h
 simpa using this
theorem mkAgg_VC {l : List A} {cs : List Value} (h : VCs loc fm lk l cs) : VC loc fm lk (mkAgg l) cs := by
 unfold mkAgg
 split
 ·obtain ⟨c1, c2, h1, h2, h3⟩ := h
  rw [show c2 = [] from h3, List.append_nil] at h1
  rw [h1]
  exact h2
 ·obtain ⟨c1, c2, h1, h2, h3⟩ := h
  rw [show c2 = [] from h3, List.append_nil] at h1
  rw [h1]
  exact h2
 ·exact h
theorem partC_VC {agg : Bool} {j m : Nat} {l : List A} {x : A} {cs : List Value} (hf : Flat l) (hv : VCs loc fm lk l cs) (h : partC agg j m l = some x) (h1 : 1 ≤ m) : ∃ m', j + m' ≤ cs.length ∧ VC loc fm lk x ((cs.drop j).take m') := by
 unfold partC at h
 split at h
 ·rename_i l' hl'
  obtain ⟨h1', h2⟩ := dropC_ok l j l' cs hf hv hl'
  split at h
  ·split at h
   ·rename_i r hr
    rw [Option.some.injEq] at h
    subst h
    obtain ⟨e1, e2, e3⟩ := takeC_ok l' m r _ h2 h1' hr
    rw [List.length_drop] at e3
    exact ⟨m, by omega, mkAgg_VC e1⟩
   ·cases h
  ·split at h
   ·rename_i lc k n' xs r
    split at h
    ·rename_i hb
     have hb := Nat.le_of_ble_eq_true hb
     rw [Option.some.injEq] at h
     subst h
     obtain ⟨c1, c2, e1, e2, e3⟩ := h1'
     obtain ⟨e4, e5, e6⟩ := (show c1 = iv k xs ∧ xs.length = n' ∧ wfs k xs from e2)
     cases xs with
     | nil => simp at e5; omega
     | cons y ys =>
      subst e4
      have hlen := congrArg List.length e1
      simp [iv] at hlen
      refine ⟨1, by omega, ?_⟩
      rw [e1]
      exact ⟨rfl, e6 y (List.mem_cons_self ..)⟩
    ·cases h
   ·cases h
   ·rename_i a' r hna hnb
    rw [Option.some.injEq] at h
    subst h
    obtain ⟨c1, c2, e1, e2, e3⟩ := h1'
    have ha : aggA a' = false := by
     cases a' with
     | agg q => exact absurd rfl (h2 _ (List.mem_cons_self ..) q)
     | arr lc k n' xs => exact (hna lc k n' xs rfl).elim
     | arrc c n' xs => exact (hnb c n' xs rfl).elim
     | _ => rfl
    have hl := VC.len1 _ _ e2 ha
    have hlen := congrArg List.length e1
    rw [List.length_drop, List.length_append, hl] at hlen
    refine ⟨1, by omega, ?_⟩
    rw [e1, ← hl, List.take_left]
    exact e2
   ·cases h
 ·cases h
theorem fieldT_ok (h : RelL C.gl B loc fm n tm lk a w) (hd : ∀ d, o.dst = some d → d < n) {t : TypeId} {x : Operand} {f : Nat} {v : A} (ho : o.op = .fieldAddr t x f) (he : fieldT C lk t (ev C tm x) f = some v) :
  Does C.P o a w (Post C B n tm lk a o.dst ⟨v, []⟩) := by
 have hx := h.ev x
 generalize ev C tm x = X at *
 unfold fieldT at he
 split at he
 ·rename_i fd hfd
  obtain ⟨fs, hu, hf⟩ := fieldOf_ok hfd
  split at he
  ·rename_i m hm
   have run : ∀ b off, a.eval x = .pointer (some ⟨b, off, none⟩) → (execOp a.eval o).run C.P w = .ok (.value (.pointer (some ⟨b, off + fd.offset, none⟩))) w := fun b off ex => by
    simp [execOp, ho, ex, Instr.fieldAt, run_underlying hu, hf, Instr.sureAddr, fieldPlace, run_sizeOf' hm, Addr.add_lit]
   split at he
   ·rename_i id s i l j
    obtain ⟨ex, px⟩ := VR_ptr hx
    split at he
    ·rename_i own ty ps hb
     split at he
     ·rw [Option.some.injEq] at he
      subst he
      exact does_pure h hd (run _ _ ex) ⟨by rw [Nat.add_assoc], px⟩
     ·split at he
      ·rename_i hc
       simp only [Bool.and_eq_true] at hc
       have hi := Nat.eq_of_beq_eq_true hc.1.2
       have hj := Nat.eq_of_beq_eq_true hc.2
       split at he
       ·rename_i q hq
        rw [Option.some.injEq] at he
        subst he
        obtain ⟨cs, k1, k2, _⟩ := cells_at h.heap hb
        refine does_pure h hd (run _ _ ex) ⟨?_, px⟩
        rw [k2.base, base_skip hq, hi, hj]
        simp
       ·cases he
      ·cases he
    ·cases he
   ·rename_i A0
    obtain ⟨b, off, l, m', ex, hl, hlen, hv⟩ := VR_fpt hx
    split at he
    ·rename_i g hg
     rw [Option.map_eq_some_iff] at he
     obtain ⟨y, hy, rfl⟩ := he
     obtain ⟨m2, e1, e2⟩ := partC_VC (flatA_flat _) (flatA_ok _ _ hv) hy (Nat.succ_le_succ (Nat.zero_le _))
     rw [List.length_take, List.length_drop] at e1
     refine does_pure h hd (run _ _ ex) ⟨b, off + fd.offset, l, m2, rfl, hl, by omega, ?_⟩
     rw [List.drop_take, List.take_take, List.drop_drop] at e2
     rw [show min m2 (m' - fd.offset) = m2 by omega] at e2
     exact e2
    ·cases he
   ·cases he
  ·cases he
 ·cases he
theorem idx_ok {l : Bool} {j : Int} {m : Nat} {k : Nat → Tr Eff} {e : Eff} (h : (indexT.idx l j m k).is e) : (0 ≤ j ∧ j < (m : Int)) ∧ (k j.toNat).is e := by
 unfold indexT.idx at h
 split at h
 ·obtain ⟨h1, h2⟩ := Tr.is_gd.1 h
  simp only [Bool.and_eq_true] at h1
  exact ⟨⟨of_decide_eq_true h1.1, of_decide_eq_true h1.2⟩, h2⟩
 ·exact ⟨h.1, h.2⟩
theorem elA_VC {c : Cd} {x : c.T} {cs : List Value} (h : VDs fm (c.enc x) cs) : VC loc fm lk (elA c (encA c x)) cs := by
  have hv : VCs loc fm lk (encA c x) cs := dAs_ok _ _ h
  unfold elA
  cases hc : c.agg with
  | true =>
    simp only
    split
    · rename_i lc k m xs he
      rw [he] at hv
      obtain ⟨c1, c2, h1, h2, h3⟩ := hv
      rw [show c2 = [] from h3, List.append_nil] at h1
      rw [h1]
      exact h2
    · exact hv
  | false =>
    cases c <;> first
      | (cases hc; done)
      | (obtain ⟨c1, c2, h1, h2, h3⟩ := hv
         rw [show c2 = [] from h3, List.append_nil] at h1
         rw [h1]
         exact h2)
theorem indexT_ok (h : RelL C.gl B loc fm n tm lk a w) (hd : ∀ d, o.dst = some d → d < n) {t : TypeId} {x i : Operand} {e : Eff} (ho : o.op = .indexAddr t x i) (he : (indexT C lk t (ev C tm x) (ev C tm i)).is e) :
  Does C.P o a w (Post C B n tm lk a o.dst e) := by
 have hx := h.ev x
 have hi := h.ev i
 generalize ev C tm x = X at *
 generalize ev C tm i = Y at *
 unfold indexT at he
 split at he
 ·rename_i li k j
  obtain ⟨ei, wi⟩ := VR_int hi
  split at he
  ·rename_i m e' hu
   have run : ∀ b off sz, sizeT C.P e' = some sz → a.eval x = .pointer (some ⟨b, off, none⟩) → 0 ≤ j → j < (m : Int) → (execOp a.eval o).run C.P w = .ok (.value (.pointer (some ⟨b, off + j.toNat * sz, none⟩))) w := fun b off sz hs ex h0 h1 => by
    simp [execOp, ho, ex, ei, Instr.indexAt, asIntOf, run_underlying hu, Instr.sureAddr, h0, h1, run_sizeOf' hs, Addr.add_lit]
   split at he
   ·rename_i id s i0 l j0 sz hs
    obtain ⟨ex, px⟩ := VR_ptr hx
    split at he
    ·rename_i own ty ps hb
     obtain ⟨cs, k1, k2, _⟩ := cells_at h.heap hb
     split at he
     ·rename_i ln lc k' mm xs r hr
      obtain ⟨hj0, he⟩ := Tr.is_gd.1 he
      have hj0 := Nat.eq_of_beq_eq_true hj0
      obtain ⟨⟨b0, b1⟩, he⟩ := idx_ok he
      rw [is_ret] at he
      subst he
      refine does_pure h hd (run _ _ _ hs ex b0 b1) ⟨?_, px⟩
      have hst : (loc id).st s = 1 := by rw [k2.st]; simp [stL, drop_head hr, stOf]
      rw [hst, hj0]
      simp [Nat.add_assoc]
     ·rename_i ln c mm xs r hr
      obtain ⟨hg, he⟩ := Tr.is_gd.1 he
      simp only [Bool.and_eq_true] at hg
      obtain ⟨⟨⟨g1, g2⟩, g3⟩, g4⟩ := hg
      have g1 := Nat.eq_of_beq_eq_true g1
      have g2 := Nat.eq_of_beq_eq_true g2
      have g4 := Nat.eq_of_beq_eq_true g4
      obtain ⟨⟨b0, b1⟩, he⟩ := idx_ok he
      rw [is_ret] at he
      subst he
      refine does_pure h hd (run _ _ _ hs ex b0 b1) ⟨?_, px⟩
      have hst : (loc id).st s = c.w := by rw [k2.st]; simp [stL, drop_head hr, stOf]
      rw [hst, g1, g4, g2]
      simp
     ·obtain ⟨hg, he⟩ := Tr.is_gd.1 (Tr.is_lit.1 he)
      simp only [Bool.and_eq_true] at hg
      obtain ⟨⟨⟨g1, g2⟩, g3⟩, g4⟩ := hg
      have g3 := Nat.eq_of_beq_eq_true g3
      have g4 := Nat.eq_of_beq_eq_true g4
      obtain ⟨⟨b0, b1⟩, he⟩ := idx_ok he
      split at he
      ·rename_i d hdq
       rw [is_ret] at he
       subst he
       refine does_pure h hd (run _ _ _ hs ex b0 b1) ⟨?_, px⟩
       rw [k2.base, base_skip hdq, g3, g4]
       simp
      ·exact he.elim
    ·exact he.elim
   ·exact he.elim
  ·rename_i e' hu
   have run : ∀ b off sz (len c : Nat), sizeT C.P e' = some sz → a.eval x = .slice (some ⟨b, off, none⟩) len c → 0 ≤ j → j < (len : Int) → (execOp a.eval o).run C.P w = .ok (.value (.pointer (some ⟨b, off + j.toNat * sz, none⟩))) w := fun b off sz len c hs ex h0 h1 => by
    simp [execOp, ho, ex, ei, Instr.indexAt, asIntOf, run_underlying hu, h0, h1, run_sizeOf' hs, Addr.add_lit]
   have vec : ∀ (lv : Bool) id sz mm p (own : Bool) ty, VR loc fm lk (.vec id) (a.eval x) → lk id = some (.cells own ty [p]) → cntOf p = mm → stOf p = sz → sizeT C.P e' = some sz → 0 ≤ j → j < (mm : Int) → e = ⟨.ptr id 0 j.toNat lv 0, []⟩ → Does C.P o a w (Post C B n tm lk a o.dst e) := by
    intro lv id sz mm p own ty hx hb hm hst hs b0 b1 hee
    subst hee
    obtain ⟨ad, c, ex, e1, e2, e3, e4⟩ := VR_vec hx
    obtain ⟨cs, k1, k2, _⟩ := cells_at h.heap hb
    have hc : (loc id).cnt 0 = mm := by rw [k2.cnt]; exact hm
    have hst' : (loc id).st 0 = sz := by rw [k2.st]; exact hst
    have hb0 : (loc id).base 0 = 0 := by rw [k2.base]; rfl
    rcases e3 with e3 | ⟨rfl, _⟩
    ·omega
    ·refine does_pure h hd (run _ _ _ _ _ hs ex b0 (by rw [hc]; exact b1)) ⟨?_, e4⟩
     rw [hst', hb0]
     simp
   split at he
   ·rename_i id sz hs
    split at he
    ·rename_i own ty ln lc k' mm xs hb
     obtain ⟨hg, he⟩ := Tr.is_gd.1 he
     obtain ⟨⟨b0, b1⟩, he⟩ := idx_ok he
     exact vec li id sz mm _ own ty hx hb rfl (Nat.eq_of_beq_eq_true hg).symm hs b0 b1 (is_ret.1 he)
    ·rename_i own ty ln c mm xs hb
     obtain ⟨hg, he⟩ := Tr.is_gd.1 he
     obtain ⟨⟨b0, b1⟩, he⟩ := idx_ok he
     exact vec li id sz mm _ own ty hx hb rfl (Nat.eq_of_beq_eq_true hg).symm hs b0 b1 (is_ret.1 he)
    ·rename_i own ty q hb
     obtain ⟨hg, he⟩ := Tr.is_gd.1 (Tr.is_lit.1 he)
     simp only [Bool.and_eq_true] at hg
     obtain ⟨⟨b0, b1⟩, he⟩ := idx_ok he
     exact vec true id sz q.length _ own ty hx hb rfl (Nat.eq_of_beq_eq_true hg.1).symm hs b0 b1 (is_ret.1 he)
    ·exact he.elim
   ·rename_i l id s off len cap sz hs
    obtain ⟨ad, c, ex, e1, e2, e3, e4, e5, e6⟩ := VR_slc hx
    split at he
    ·rename_i own ty ps hb
     obtain ⟨cs, k1, k2, _⟩ := cells_at h.heap hb
     have slc : ∀ p lv, ps[s]? = some p → stOf p = sz → 0 ≤ j → j < (len : Int) → e = ⟨.ptr id s (off + j.toNat) lv 0, []⟩ → Does C.P o a w (Post C B n tm lk a o.dst e) := fun p lv hp hst b0 b1 hee => by
      subst hee
      have := e4 (by omega)
      subst this
      refine does_pure h hd (run _ _ _ _ _ hs ex b0 b1) ⟨?_, e6⟩
      have hst' : (loc id).st s = sz := by rw [k2.st]; simp [stL, hp, hst]
      rw [hst', Nat.add_mul]
      simp [Nat.add_assoc]
     split at he
     ·rename_i ln lc k' mm xs hp
      obtain ⟨hg, he⟩ := Tr.is_gd.1 he
      obtain ⟨⟨b0, b1⟩, he⟩ := idx_ok he
      exact slc _ _ hp (Nat.eq_of_beq_eq_true hg).symm b0 b1 (is_ret.1 he)
     ·rename_i ln cd mm xs hp
      obtain ⟨hg, he⟩ := Tr.is_gd.1 he
      obtain ⟨⟨b0, b1⟩, he⟩ := idx_ok he
      exact slc _ _ hp (Nat.eq_of_beq_eq_true hg).symm b0 b1 (is_ret.1 he)
     ·rename_i p0 hp
      obtain ⟨hg, he⟩ := Tr.is_gd.1 he
      simp only [Bool.and_eq_true] at hg
      obtain ⟨⟨⟨⟨g1, g2⟩, g3⟩, g4⟩, g5⟩ := hg
      have g1 := Nat.eq_of_beq_eq_true g1
      have g4 := Nat.eq_of_beq_eq_true g4
      obtain ⟨⟨b0, b1⟩, he⟩ := idx_ok he
      rw [is_ret] at he
      subst he
      have := e4 (by omega)
      subst this
      refine does_pure h hd (run _ _ _ _ _ hs ex b0 b1) ⟨?_, e6⟩
      have hst' : (loc id).st s = 1 := by rw [k2.st]; simp [stL, hp, stOf]
      have hcnt : (loc id).cnt s = 1 := by rw [k2.cnt]; simp [cntL, hp, cntOf]
      have hj : j.toNat = 0 := by omega
      have hoff : off = 0 := by omega
      rw [hst', g1, hj, hoff, g4]
      simp
     ·exact he.elim
    ·exact he.elim
   ·rename_i l k' xs sz hs
    obtain ⟨hg, he⟩ := Tr.is_gd.1 he
    have hg := Nat.eq_of_beq_eq_true hg
    obtain ⟨⟨b0, b1⟩, he⟩ := idx_ok he
    obtain ⟨hw, ad, c, ex, e1, e2, e3⟩ := VR_fzi hx
    obtain ⟨b, off, l0, rfl, f1, f2⟩ := e3 (by omega)
    rw [is_ret] at he
    subst he
    have hlt : j.toNat < xs.length := by omega
    have hcell : l0[off + j.toNat]? = some (.int k' (xs.getD j.toNat 0)) := by
     have h3 : (iv k' xs)[j.toNat]? = some (.int k' (xs.getD j.toNat 0)) := by simp [iv, hlt]
     rw [← f2] at h3
     exact take_get h3
    have hlt2 := (List.getElem?_eq_some_iff.1 hcell).1
    refine does_pure h hd (run _ _ _ _ _ hs ex b0 b1) ⟨b, off + j.toNat, l0, 1, by rw [hg, Nat.mul_one], f1, by omega, ?_⟩
    have hd1 : (l0.drop (off + j.toNat)).take 1 = [.int k' (xs.getD j.toNat 0)] := by
     rw [List.drop_eq_getElem_cons hlt2, (List.getElem?_eq_some_iff.1 hcell).2]
     rfl
    rw [hd1]
    refine ⟨rfl, ?_⟩
    simp only [List.getD_eq_getElem?_getD, List.getElem?_eq_getElem hlt, Option.getD_some]
    exact hw _ (List.getElem_mem hlt)
   ·rename_i c xs sz hs
    obtain ⟨hg, he⟩ := Tr.is_gd.1 he
    have hg := Nat.eq_of_beq_eq_true hg
    obtain ⟨b0, he⟩ := Tr.is_ob.1 he
    rw [Tr.is_opt] at he
    split at he
    ·exact he.elim
    ·rename_i y hy
     rw [is_ret] at he
     subst he
     have hlt := (List.getElem?_eq_some_iff.1 hy).1
     obtain ⟨l1, q1, ad, c', ex, e1, e2, e3⟩ := VR_fz hx
     obtain ⟨b, off, l0, rfl, f1, f2⟩ := e3 (by omega)
     obtain ⟨d1, d2, d3, g1, g2, g3, g4, _, _⟩ := Els.get xs j.toNat y l1 q1 hy
     have hw : 0 < c.w := by cases c <;> decide
     have hl1 : l1.length ≤ l0.length - off := by
      have := congrArg List.length f2
      rw [List.length_take, List.length_drop] at this
      omega
     have hl2 : l1.length = j.toNat * c.w + c.w + d3.length := by rw [g1, List.length_append, List.length_append, g2, g3]
     refine does_pure h hd (run _ _ _ _ _ hs ex b0 (by omega)) ⟨b, off + j.toNat * sz, l0, c.w, rfl, f1, ?_, ?_⟩
     ·rw [hg]
      omega
     ·have : (l0.drop (off + j.toNat * sz)).take c.w = d2 := by
       have h4 : (l1.drop (j.toNat * sz)).take c.w = d2 := by
        rw [g1, List.append_assoc, hg, ← g2, List.drop_left, ← g3, List.take_left]
       rw [← f2, List.drop_take, List.take_take, List.drop_drop] at h4
       rw [show min c.w (l1.length - j.toNat * sz) = c.w by rw [g1, List.length_append, List.length_append, g2, g3, hg]; omega] at h4
       exact h4
      rw [this]
      exact elA_VC g4
   ·exact he.elim
  ·exact he.elim
 ·exact he.elim
theorem indexV_ok (h : RelL C.gl B loc fm n tm lk a w) (hd : ∀ d, o.dst = some d → d < n) {t : TypeId} {x i : Operand} {e : Eff} (ho : o.op = .index t x i) (he : (indexV C t (ev C tm x) (ev C tm i)).is e) :
  Does C.P o a w (Post C B n tm lk a o.dst e) := by
 have hx := h.ev x
 have hi := h.ev i
 generalize ev C tm x = X at *
 generalize ev C tm i = Y at *
 unfold indexV at he
 split at he
 ·rename_i li k0 j lc k m xs
  obtain ⟨ei, wi⟩ := VR_int hi
  obtain ⟨ex, lx, wx⟩ := VR_arr hx
  split at he
  ·rename_i mm e' hu
   split at he
   ·rename_i k' hk hs
    obtain ⟨hg, he⟩ := Tr.is_gd.1 he
    simp only [Bool.and_eq_true] at hg
    have g1 := of_decide_eq_true hg.1
    have g2 := Nat.eq_of_beq_eq_true hg.2
    subst g1
    obtain ⟨⟨b0, b1⟩, he⟩ := idx_ok he
    rw [is_ret] at he
    subst he
    have hlt : j.toNat < xs.length := by omega
    have b2 : j < (mm : Int) := by omega
    refine does_pure h hd (x := .int k' xs[j.toNat]) ?_ ⟨by simp [hlt], ?_⟩
    ·simp [execOp, ho, ex, ei, Instr.index, asIntOf, run_underlying hu, b0, b2, run_sizeOf' hs, part_int (intT_ok hk) xs j.toNat hlt]
    ·simp only [List.getD_eq_getElem?_getD, List.getElem?_eq_getElem hlt, Option.getD_some]
     exact wx _ (List.getElem_mem hlt)
   ·rename_i sz hk hs
    obtain ⟨hg, he⟩ := Tr.is_gd.1 he
    simp only [Bool.and_eq_true] at hg
    have g1 := of_decide_eq_true hg.1
    have g2 := Nat.eq_of_beq_eq_true hg.2
    obtain ⟨⟨b0, b1⟩, he⟩ := idx_ok he
    rw [is_ret] at he
    subst he
    have hle : j.toNat * sz + sz ≤ xs.length := by
     have : (j.toNat + 1) * sz ≤ mm * sz := Nat.mul_le_mul_right _ (by omega)
     rw [Nat.add_mul, Nat.one_mul] at this
     omega
    refine does_pure h hd (x := .agg (iv k ((xs.drop (j.toNat * sz)).take sz)).toArray) ?_ ⟨_, rfl, rfl, by rw [List.length_take, List.length_drop]; omega, fun x hx => wx x (List.mem_of_mem_drop (List.mem_of_mem_take hx))⟩
    have hpart : (part e' (iv k xs).toArray (j.toNat * sz)).run C.P w = .ok (.agg (iv k ((xs.drop (j.toNat * sz)).take sz)).toArray) w := by
     have : ((iv k xs).drop (j.toNat * sz)).take sz = iv k ((xs.drop (j.toNat * sz)).take sz) := by
      simp [iv, List.map_take, List.map_drop]
     simp [part, run_isAgg g1, run_sizeOf' hs, this]
    simp [execOp, ho, ex, ei, Instr.index, asIntOf, run_underlying hu, b0, b1, run_sizeOf' hs, hpart]
   ·exact he.elim
  ·exact he.elim
 ·rename_i li k0 j l s
  obtain ⟨ei, wi⟩ := VR_int hi
  obtain ⟨ex, wx⟩ := VR_str hx
  split at he
  ·rename_i hu
   obtain ⟨⟨b0, b1⟩, he⟩ := idx_ok he
   rw [is_ret] at he
   subst he
   have hlt : j.toNat < s.length := by omega
   have hb := wx _ (List.getElem_mem hlt)
   have hget : (baOf s)[j.toNat]? = some (UInt8.ofNat (s[j.toNat]).toNat) := by
    have : j.toNat < (baOf s).size := by rw [baOf_size]; exact hlt
    rw [getElem?_pos (baOf s) j.toNat this]
    congr 1
    show (baOf s).data[j.toNat]'_ = _
    simp [baOf]
   refine does_pure h hd (x := .int .u8 s[j.toNat]) ?_ ⟨by simp [hlt], ?_⟩
   ·simp [execOp, ho, ex, ei, Instr.index, asIntOf, run_underlying hu, b0, hget]
    omega
   ·simp only [List.getD_eq_getElem?_getD, List.getElem?_eq_getElem hlt, Option.getD_some]
    exact wf_u8.2 hb
  ·exact he.elim
 ·exact he.elim
end
end
section
def SqC (fm : Fm) : Sq → List Value → Prop
 | .nil, cs => cs = []
 | .ints _ _ k xs, cs => cs = iv k xs ∧ wfs k xs
 | .els _ c xs, cs => Els fm c xs cs
def wSq : Sq → Nat
 | .els _ c _ => c.w
 | _ => 1
def Reads (w : World) (m : Nat) (cs : List Value) (v : Value) : Prop :=
 ∃ ad c, v = .slice ad m c ∧ m ≤ c ∧ c < lim63 ∧ (cs = [] ∨ ∃ b o, ad = some ⟨b, o, none⟩ ∧ (∃ l t fz, w.heap[b]? = some (.cells l t fz)) ∧ ∀ q u, cs[q]? = some u → w.cell? ⟨b, o + q, none⟩ = some u)
section
variable {C : Ctx} {n nid : Nat} {w : World} {B : Base} {loc : Loc} {fm : Fm} {tm : Nat → A} {lk : Lk} {a : Act} {o : Oper}
theorem FzS.reads (h : FmOk fm w) {m : Nat} {cs : List Value} {v : Value} (hv : FzS fm m cs v) (h0 : m = 0 → cs = []) : Reads w m cs v := by
 obtain ⟨ad, c, e1, e2, e3, e4⟩ := hv
 refine ⟨ad, c, e1, e2, e3, ?_⟩
 rcases Nat.eq_zero_or_pos m with hm | hm
 ·exact Or.inl (h0 hm)
 ·right
  obtain ⟨b, o, l, f1, f2, f3⟩ := e4 hm
  obtain ⟨rest, t, fz, g⟩ := h b l f2
  refine ⟨b, o, f1, ⟨_, t, fz, g⟩, fun q u hq => ?_⟩
  rw [← f3] at hq
  have := take_get hq
  have hlt := (List.getElem?_eq_some_iff.1 this).1
  simp only [World.cell?, g, Option.isSome_none, Bool.false_eq_true, if_false]
  simp [List.getElem?_append_left hlt, this]
theorem Reads.load {m : Nat} {cs : List Value} {v : Value} (h : Reads w m cs v) : ∃ ad c, v = .slice ad m c ∧ ∀ b, ad = some b → (loadCells b cs.length).run C.P w = .ok cs.toArray w := by
 obtain ⟨ad, c, e1, e2, e3, e4⟩ := h
 refine ⟨ad, c, e1, fun b hb => ?_⟩
 rcases e4 with rfl | ⟨b', o, f1, _, f2⟩
 ·exact run_loadCells_list (P := C.P) w b [] (by simp)
 ·rw [f1, Option.some.injEq] at hb
  subst hb
  exact run_loadCells_list (P := C.P) w _ cs (fun j u hj => by rw [Addr.add_lit]; exact f2 j u hj)
theorem nz_w (c : Cd) : 0 < c.w := by cases c <;> decide
theorem sqOf_ok (h : HRel loc fm lk w) {x : A} {v : Value} {q : Sq} (hv : VR loc fm lk x v) (hq : sqOf lk x = some q) : ∃ cs, SqC fm q cs ∧ cs.length = lenSq q * wSq q ∧ Reads w (lenSq q) cs v := by
 have slc : ∀ (own : Bool) (t : TypeId) (ps : List Pc) (id s off len c : Nat) (ad : Option Addr), lk id = some (.cells own t ps) → off + len ≤ (loc id).cnt s → len ≤ c → c < lim63 → (0 < c → ad = some ⟨(loc id).blk, (loc id).base s + off * (loc id).st s, none⟩) →
   (∀ ln lc k m xs l, ps[s]? = some (.row ln lc k m xs) → ∃ cs, SqC fm (.ints l lc k ((xs.drop off).take len)) cs ∧ cs.length = ((xs.drop off).take len).length * 1 ∧ Reads w ((xs.drop off).take len).length cs (.slice ad len c)) ∧
   (∀ ln cd m (xs : List cd.T) l, ps[s]? = some (.lst ln cd m xs) → ∃ cs, SqC fm (.els l cd ((xs.drop off).take len)) cs ∧ cs.length = ((xs.drop off).take len).length * cd.w ∧ Reads w ((xs.drop off).take len).length cs (.slice ad len c)) := by
  intro own t ps id s off len c ad hb hlen h1 h2 h3
  obtain ⟨cs, k1, k2, k3, k4, k5⟩ := cells_at h hb
  rw [k2.cnt] at hlen
  obtain ⟨p1, p2⟩ := piece_sub k1 hlen
  rw [k2.base, k2.st] at h3
  have rd : ∀ (d : List Value) (m : Nat), m = len → (d = [] → True) → (0 < len ∨ d = []) → (∀ q u, d[q]? = some u → cs[baseL ps s + off * stL ps s + q]? = some u) → Reads w m d (.slice ad len c) := fun d m hm _ hz hd => by
   subst hm
   refine ⟨ad, c, rfl, h1, h2, ?_⟩
   by_cases hd0 : d = []
   ·exact Or.inl hd0
   ·right
    have h0 : 0 < m := by
     rcases hz with hz | hz
     ·exact hz
     ·exact absurd hz hd0
    have hdl : 0 < d.length := List.length_pos_iff.2 hd0
    have hcs : cs ≠ [] := fun e => by
     have := hd 0 d[0] (List.getElem?_eq_getElem hdl)
     rw [e] at this
     simp at this
    obtain ⟨rest, fz, e1, _⟩ := k5 (k4 hcs)
    exact ⟨_, _, h3 (by omega), ⟨_, t, fz, e1⟩, fun q u hq => k3 _ _ (hd q u hq)⟩
  refine ⟨fun ln lc k m xs l hs => ?_, fun ln cd m xs l hs => ?_⟩
  ·obtain ⟨q1, q2, q3, q4, q5⟩ := p1 ln lc k m xs hs
   refine ⟨_, ⟨rfl, fun x hx => q2 x (List.mem_of_mem_drop (List.mem_of_mem_take hx))⟩, by rw [iv_length, Nat.mul_one], rd _ _ q4 (fun _ => trivial) ?_ q3⟩
   rcases Nat.eq_zero_or_pos len with h0 | h0
   ·right
    apply List.length_eq_zero_iff.1
    rw [iv_length, q4, h0]
   ·exact Or.inl h0
  ·obtain ⟨q1, ⟨d, q2, q3⟩, q4, q5⟩ := p2 ln cd m xs hs
   have hl := Els.length _ _ q2
   refine ⟨d, q2, hl, rd _ _ q4 (fun _ => trivial) ?_ q3⟩
   rcases Nat.eq_zero_or_pos len with h0 | h0
   ·right
    apply List.length_eq_zero_iff.1
    rw [hl, q4, h0, Nat.zero_mul]
   ·exact Or.inl h0
 unfold sqOf at hq
 split at hq
 ·have ev := VR_val hv
  rw [Option.some.injEq] at hq
  subst hq ev
  exact ⟨[], rfl, rfl, none, 0, rfl, Nat.le_refl _, by decide, Or.inl rfl⟩
 ·rw [Option.some.injEq] at hq
  subst hq
  obtain ⟨h1, h2⟩ := VR_fzi hv
  exact ⟨_, ⟨rfl, h1⟩, by rw [iv_length]; exact (Nat.mul_one _).symm, h2.reads h.fm (fun h0 => by
   have h0 : _ = 0 := h0
   rw [show ([] : List Value) = iv .i64 [] from rfl]
   apply List.length_eq_zero_iff.1
   rw [iv_length, h0])⟩
 ·rw [Option.some.injEq] at hq
  subst hq
  obtain ⟨l, h1, h2⟩ := VR_fz hv
  have hl := Els.length _ _ h1
  exact ⟨l, h1, hl, h2.reads h.fm (fun h0 => by
   have h0 : _ = 0 := h0
   apply List.length_eq_zero_iff.1
   rw [hl, h0, Nat.zero_mul])⟩
 ·rename_i id
  obtain ⟨ad, c, ev, e1, e2, e3, e4⟩ := VR_vec hv
  subst ev
  have hst : ∀ (own : Bool) (t : TypeId) (p : Pc), lk id = some (.cells own t [p]) → 0 < c → ad = some ⟨(loc id).blk, (loc id).base 0 + 0 * (loc id).st 0, none⟩ := fun own t p hb h0 => by
   obtain ⟨cs, k1, k2, _⟩ := cells_at h hb
   rcases e3 with e3 | ⟨e3, _⟩
   ·omega
   ·rw [e3, k2.base]; simp [baseL, wPs]
  have hcn : ∀ (own : Bool) (t : TypeId) (p : Pc), lk id = some (.cells own t [p]) → (loc id).cnt 0 = cntOf p := fun own t p hb => by
   obtain ⟨cs, k1, k2, _⟩ := cells_at h hb
   rw [k2.cnt]; rfl
  split at hq
  ·rename_i own t ln lc k m xs hb
   rw [Option.some.injEq] at hq
   subst hq
   obtain ⟨p1, _⟩ := slc own t _ id 0 0 _ c ad hb (by rw [Nat.zero_add]; exact Nat.le_refl _) e1 e2 (hst _ _ _ hb)
   have := p1 ln lc k m xs ln rfl
   obtain ⟨cs, k1, k2, _⟩ := cells_at h hb
   obtain ⟨d1, d2, _, ⟨_, k3, _⟩, _⟩ := k1
   rw [hcn _ _ _ hb, show cntOf (.row ln lc k m xs) = xs.length from k3.symm, List.drop_zero, List.take_length] at this
   rw [hcn _ _ _ hb, show cntOf (.row ln lc k m xs) = xs.length from k3.symm]
   exact this
  ·rename_i own t ln cd m xs hb
   rw [Option.some.injEq] at hq
   subst hq
   obtain ⟨_, p2⟩ := slc own t _ id 0 0 _ c ad hb (by rw [Nat.zero_add]; exact Nat.le_refl _) e1 e2 (hst _ _ _ hb)
   have := p2 ln cd m xs ln rfl
   obtain ⟨cs, k1, k2, _⟩ := cells_at h hb
   obtain ⟨d1, d2, _, ⟨_, k3⟩, _⟩ := k1
   rw [hcn _ _ _ hb, show cntOf (.lst ln cd m xs) = xs.length from k3.symm, List.drop_zero, List.take_length] at this
   rw [hcn _ _ _ hb, show cntOf (.lst ln cd m xs) = xs.length from k3.symm]
   exact this
  ·cases hq
 ·rename_i l id s off len cap
  obtain ⟨ad, c, ev, e1, e2, e3, e4, e5, e6⟩ := VR_slc hv
  subst ev
  split at hq
  ·rename_i own t ps hb
   obtain ⟨p1, p2⟩ := slc own t ps id s off len c ad hb e5 e1 e2 e4
   split at hq
   ·rename_i ln lc k m xs hs
    rw [Option.some.injEq] at hq
    subst hq
    obtain ⟨cs, k1, k2, _⟩ := cells_at h hb
    have hm : xs.length = m := ((piece_sub k1 (s := s) (off := off) (len := len) (by rw [k2.cnt] at e5; exact e5)).1 ln lc k m xs hs).1
    rw [subL_eq hm]
    exact p1 ln lc k m xs l hs
   ·rename_i ln cd m xs hs
    rw [Option.some.injEq] at hq
    subst hq
    obtain ⟨cs, k1, k2, _⟩ := cells_at h hb
    have hm : xs.length = m := ((piece_sub k1 (s := s) (off := off) (len := len) (by rw [k2.cnt] at e5; exact e5)).2 ln cd m xs hs).1
    rw [subL_eq hm]
    exact p2 ln cd m xs l hs
   ·cases hq
  ·cases hq
 ·cases hq
theorem lenA_ok (h : HRel loc fm lk w) {x : A} {v : Value} {l : Bool} {m : Nat} (hv : VR loc fm lk x v) (hq : lenA lk x = some (l, m)) : ∃ ad c, v = .slice ad m c := by
 unfold lenA at hq
 split at hq
 ·have := VR_val hv
  simp only [Option.some.injEq, Prod.mk.injEq] at hq
  obtain ⟨_, rfl⟩ := hq
  exact ⟨none, 0, this⟩
 ·simp only [Option.some.injEq, Prod.mk.injEq] at hq
  obtain ⟨_, rfl⟩ := hq
  obtain ⟨_, ad, c, e, _⟩ := VR_fzi hv
  exact ⟨ad, c, e⟩
 ·simp only [Option.some.injEq, Prod.mk.injEq] at hq
  obtain ⟨_, rfl⟩ := hq
  obtain ⟨_, _, ad, c, e, _⟩ := VR_fz hv
  exact ⟨ad, c, e⟩
 ·obtain ⟨ad, c, e, _⟩ := VR_vec hv
  split at hq
  ·rename_i hb
   simp only [Option.some.injEq, Prod.mk.injEq] at hq
   obtain ⟨_, rfl⟩ := hq
   obtain ⟨cs, k1, k2, _⟩ := cells_at h hb
   rw [k2.cnt] at e
   exact ⟨ad, c, e⟩
  ·rename_i hb
   simp only [Option.some.injEq, Prod.mk.injEq] at hq
   obtain ⟨_, rfl⟩ := hq
   obtain ⟨cs, k1, k2, _⟩ := cells_at h hb
   rw [k2.cnt] at e
   exact ⟨ad, c, e⟩
  ·rename_i hb
   simp only [Option.some.injEq, Prod.mk.injEq] at hq
   obtain ⟨_, rfl⟩ := hq
   obtain ⟨cs, k1, k2, _⟩ := cells_at h hb
   rw [k2.cnt] at e
   exact ⟨ad, c, e⟩
  ·cases hq
 ·simp only [Option.some.injEq, Prod.mk.injEq] at hq
  obtain ⟨_, rfl⟩ := hq
  obtain ⟨ad, c, e, _⟩ := VR_slc hv
  exact ⟨ad, c, e⟩
 ·cases hq
end
end
section
section
variable {C : Ctx} {n nid : Nat} {w : World} {B : Base} {loc : Loc} {fm : Fm} {tm : Nat → A} {lk : Lk} {a : Act} {o : Oper}
theorem bndA_ok (h : RelL C.gl B loc fm n tm lk a w) {q : Option Operand} {l : Bool} {r : Option Int} (he : bndA (q.map (ev C tm)) = some (l, r)) :
  (r = none ∧ q.map a.eval = none) ∨ ∃ k i, r = some i ∧ q.map a.eval = some (.int k i) := by
 cases q with
 | none =>
  simp only [Option.map_none, bndA, Option.some.injEq, Prod.mk.injEq] at he
  exact Or.inl ⟨he.2.symm, rfl⟩
 | some q =>
  have hv := h.ev q
  simp only [Option.map_some] at he ⊢
  generalize ev C tm q = X at *
  unfold bndA at he
  split at he
  ·rename_i e; cases e
  ·rename_i l0 k0 i0 e
   rw [Option.some.injEq] at e
   subst e
   simp only [Option.some.injEq, Prod.mk.injEq] at he
   exact Or.inr ⟨_, _, he.2.symm, by rw [(VR_int hv).1]⟩
  ·cases he
theorem bndT_ok {l : Bool} {lo hi mx top : Int} {t : Tr Eff} {e : Eff} (h : (bndT l lo hi mx top t).is e) : (0 ≤ lo ∧ lo ≤ hi ∧ hi ≤ mx ∧ mx ≤ top) ∧ t.is e := by
 unfold bndT at h
 split at h
 ·obtain ⟨h1, h2⟩ := Tr.is_gd.1 h
  simp only [Bool.and_eq_true] at h1
  exact ⟨⟨of_decide_eq_true h1.1.1.1, of_decide_eq_true h1.1.1.2, of_decide_eq_true h1.1.2, of_decide_eq_true h1.2⟩, h2⟩
 ·exact ⟨h.1, h.2⟩
theorem bounds_ok {isS : Bool} {len cap : Nat} {lo hi mx : Option Int} {vlo vhi vmx : Option Value} (h1 : (lo = none ∧ vlo = none) ∨ ∃ k i, lo = some i ∧ vlo = some (.int k i)) (h2 : (hi = none ∧ vhi = none) ∨ ∃ k i, hi = some i ∧ vhi = some (.int k i))
  (h3 : (mx = none ∧ vmx = none) ∨ ∃ k i, mx = some i ∧ vmx = some (.int k i)) (hm : hi.isSome = true ∨ mx.isNone = true) (hb : 0 ≤ lo.getD 0 ∧ lo.getD 0 ≤ hi.getD len ∧ hi.getD len ≤ mx.getD (hi.getD len) ∧ mx.getD (hi.getD len) ≤ (cap : Int)) :
  (Instr.sliceBounds isS len cap vlo vhi vmx).run C.P w = .ok ((lo.getD 0).toNat, (hi.getD len).toNat, (match mx with | some q => q.toNat | none => cap)) w := by
 obtain ⟨b1, b2, b3, b4⟩ := hb
 have sb : ∀ (k : IntKind) (i : Int) (y : Nat) (code : BoundsCode), 0 ≤ i → i ≤ (y : Int) → (Instr.sliceBound (.int k i) y code).run C.P w = .ok i.toNat w := fun k i y code h0 h1 => by
  simp [Instr.sliceBound, asIntOf, h0, h1]
 unfold Instr.sliceBounds
 rcases h3 with ⟨rfl, rfl⟩ | ⟨k3, i3, rfl, rfl⟩
 ·rcases h2 with ⟨rfl, rfl⟩ | ⟨k2, i2, rfl, rfl⟩
  ·rcases h1 with ⟨rfl, rfl⟩ | ⟨k1, i1, rfl, rfl⟩
   ·simp
   ·simp only [Option.getD_none, Option.getD_some] at b1 b2 b3 b4
    simp [sb k1 i1 len .sliceB b1 b2]
  ·simp only [Option.getD_none, Option.getD_some] at b2 b3 b4
   have hh : ∀ code, (Instr.sliceBound (.int k2 i2) cap code).run C.P w = .ok i2.toNat w := fun code => sb k2 i2 cap code (by omega) b4
   rcases h1 with ⟨rfl, rfl⟩ | ⟨k1, i1, rfl, rfl⟩
   ·simp [hh]
   ·simp only [Option.getD_some] at b1 b2
    have hl := sb k1 i1 i2.toNat .sliceB b1 (by omega)
    simp [hh, hl]
 ·rcases h2 with ⟨rfl, rfl⟩ | ⟨k2, i2, rfl, rfl⟩
  ·rcases hm with hm | hm <;> cases hm
  ·simp only [Option.getD_some] at b2 b3 b4
   have hmm : ∀ code, (Instr.sliceBound (.int k3 i3) cap code).run C.P w = .ok i3.toNat w := fun code => sb k3 i3 cap code (by omega) b4
   have hh : ∀ code, (Instr.sliceBound (.int k2 i2) i3.toNat code).run C.P w = .ok i2.toNat w := fun code => sb k2 i2 _ code (by omega) (by omega)
   rcases h1 with ⟨rfl, rfl⟩ | ⟨k1, i1, rfl, rfl⟩
   ·simp [hh, hmm]
   ·simp only [Option.getD_some] at b1 b2
    have hl : ∀ code, (Instr.sliceBound (.int k1 i1) i2.toNat code).run C.P w = .ok i1.toNat w := fun code => sb k1 i1 _ code b1 (by omega)
    simp [hh, hmm, hl]
theorem subS_eq {α : Type} {l : Bool} {lo : Nat} {hi : Option Int} {xs : List α} (h : ∀ q, hi = some q → q.toNat ≤ xs.length) : subS l lo (hi.getD 0).toNat hi.isNone xs = (xs.take (hi.getD (xs.length : Int)).toNat).drop lo := by
 unfold subS
 cases hi with
 | none => simp
 | some q =>
  simp only [Option.isNone_some, Option.getD_some]
  split
  ·rename_i hc
   simp only [Bool.and_eq_true] at hc
   rw [Nat.eq_of_beq_eq_true hc.2, List.drop_zero]
  ·rfl
theorem FzS.sub {fm : Fm} {m : Nat} {cs : List Value} {ad : Option Addr} {c w lo hi : Nat} (hv : FzS fm m cs (.slice ad m c)) (hw : cs.length = m * w) (h1 : lo ≤ hi) (h2 : hi ≤ m) (c' : Nat) (ad' : Option Addr) (hc : hi - lo ≤ c') (hc2 : c' < lim63)
  (had : 0 < hi - lo → ad' = ad.map (·.add (lo * w))) : FzS fm (hi - lo) ((cs.take (hi * w)).drop (lo * w)) (.slice ad' (hi - lo) c') := by
 obtain ⟨ad0, c0, e1, e2, e3, e4⟩ := hv
 simp only [Value.slice.injEq] at e1
 obtain ⟨rfl, _, rfl⟩ := e1
 refine ⟨ad', c', rfl, hc, hc2, fun h0 => ?_⟩
 obtain ⟨b, o, l, f1, f2, f3⟩ := e4 (by omega)
 refine ⟨b, o + lo * w, l, by rw [had h0, f1]; simp [Addr.add_lit], f2, ?_⟩
 have hle : lo * w ≤ hi * w := Nat.mul_le_mul_right _ h1
 have hle2 : hi * w ≤ m * w := Nat.mul_le_mul_right _ h2
 rw [← List.drop_drop]
 conv => rhs; rw [← f3]
 rw [List.length_drop, List.length_take, hw, Nat.min_eq_left hle2, List.take_take, Nat.min_eq_left hle2, List.drop_take]
theorem inT_ok {l : Bool} {x m : Nat} {hi : Option Int} {cap : Option Nat} {t : Tr Eff} {e : Eff} (h : (sliceT.inT l x m hi cap t).is e) : (∀ i k, hi = some i → cap = some k → x ≤ m) ∧ t.is e := by
 unfold sliceT.inT at h
 split at h
 ·have h := Tr.is_le.1 h
  exact ⟨fun _ _ _ _ => h.1, h.2⟩
 ·rename_i hh
  exact ⟨fun i k e1 e2 => (hh i k e1 e2).elim, h⟩
theorem sliceT_ok (h : RelL C.gl B loc fm n tm lk a w) (hd : ∀ d, o.dst = some d → d < n) {t : TypeId} {x : Operand} {lo hi mx : Option Operand} {e : Eff} (ho : o.op = .slice t x lo hi mx)
  (he : (sliceT C lk t (ev C tm x) (lo.map (ev C tm)) (hi.map (ev C tm)) (mx.map (ev C tm))).is e) : Does C.P o a w (Post C B n tm lk a o.dst e) := by
 have hx := h.ev x
 generalize ev C tm x = X at *
 unfold sliceT at he
 split at he
 case h_2 => exact he.elim
 rename_i l1 LO l2 HI l3 MX h1 h2 h3
 have k1 := bndA_ok h h1
 have k2 := bndA_ok h h2
 have k3 := bndA_ok h h3
 replace he := Tr.is_gd.1 he
 obtain ⟨hm, he⟩ := he
 simp only [Bool.or_eq_true] at hm
 have bnd : ∀ (isS : Bool) (len cap : Nat), len ≤ cap → (0 ≤ LO.getD 0 ∧ LO.getD 0 ≤ HI.getD len ∧ HI.getD len ≤ MX.getD (HI.getD len) ∧ MX.getD (HI.getD len) ≤ (cap : Int)) →
   (Instr.sliceBounds isS len cap (lo.map a.eval) (hi.map a.eval) (mx.map a.eval)).run C.P w = .ok ((LO.getD 0).toNat, (HI.getD len).toNat, (MX.map Int.toNat).getD cap) w := fun isS len cap _ hb => by
  have := bounds_ok (C := C) (w := w) (isS := isS) k1 k2 k3 hm hb
  rw [this]
  cases MX <;> rfl
 have slc : ∀ (e' : TypeId) (sz : Nat) (ad : Option Addr) (len c : Nat) (v : A), C.P.underlying t = some (.slice e') → sizeT C.P e' = some sz → a.eval x = .slice ad len c → len ≤ c → c < lim63 →
   (0 ≤ LO.getD 0 ∧ LO.getD 0 ≤ HI.getD len ∧ HI.getD len ≤ MX.getD (HI.getD len) ∧ MX.getD (HI.getD len) ≤ (c : Int)) → e = ⟨v, []⟩ →
   (∀ (ad' : Option Addr) (c' : Nat), (HI.getD (len : Int)).toNat - (LO.getD 0).toNat ≤ c' → c' = (MX.map Int.toNat).getD c - (LO.getD 0).toNat → c' < lim63 → (0 < c' → ad' = ad.map (·.add ((LO.getD 0).toNat * sz))) → (ad = none → ad' = none) → VR loc fm lk v (.slice ad' ((HI.getD (len : Int)).toNat - (LO.getD 0).toNat) c')) →
   Does C.P o a w (Post C B n tm lk a o.dst e) := by
  intro e' sz ad len c v hu hs ex hlc hc hb hee hv
  subst hee
  have hr := bnd true len c hlc hb
  have hmx : (HI.getD (len : Int)).toNat ≤ (MX.map Int.toNat).getD c ∧ (MX.map Int.toNat).getD c ≤ c := by
   cases MX with
   | none => simp only [Option.getD_none, Option.map_none] at hb ⊢; omega
   | some q => simp only [Option.getD_some, Option.map_some] at hb ⊢; omega
  refine does_pure h hd (x := .slice (if (MX.map Int.toNat).getD c = (LO.getD 0).toNat then ad else ad.map (·.add ((LO.getD 0).toNat * sz))) ((HI.getD (len : Int)).toNat - (LO.getD 0).toNat) ((MX.map Int.toNat).getD c - (LO.getD 0).toNat)) ?_ (hv _ _ ?_ rfl ?_ ?_ ?_)
  ·simp [execOp, ho, ex, Instr.sliceAt, run_underlying hu, Instr.slice, hr, run_sizeOf' hs]
  ·omega
  ·omega
  ·intro h0
   rw [if_neg (by omega)]
  ·intro h0
   subst h0
   split <;> rfl
 split at he
 ·rename_i m e' id s i l j hu
  obtain ⟨ex, px⟩ := VR_ptr hx
  split at he
  ·rename_i own ty ps hb
   split at he
   ·rename_i ln lc k mm xs hs
    replace he := Tr.is_gd.1 he
    obtain ⟨hg, he⟩ := he
    simp only [Bool.and_eq_true] at hg
    obtain ⟨⟨⟨⟨g1, g2⟩, g3⟩, g4⟩, g5⟩ := hg
    have g1 := Nat.eq_of_beq_eq_true g1
    have g2 := of_decide_eq_true g2
    have g4 := Nat.le_of_ble_eq_true g4
    have g5 := Nat.le_of_ble_eq_true g5
    replace he := bndT_ok he
    obtain ⟨hbb, he⟩ := he
    rw [is_ret] at he
    subst he
    obtain ⟨cs, q1, q2, _⟩ := cells_at h.heap hb
    have hst : (loc id).st s = 1 := by rw [q2.st]; simp [stL, hs, stOf]
    have hcnt : (loc id).cnt s = mm := by rw [q2.cnt]; simp [cntL, hs, cntOf]
    have hmx : LO.getD 0 ≤ HI.getD (m : Int) ∧ HI.getD (m : Int) ≤ MX.getD (HI.getD (m : Int)) ∧ MX.getD (HI.getD (m : Int)) ≤ (m : Int) ∧ (MX.map Int.toNat).getD m = (MX.getD (m : Int)).toNat ∧ (HI.getD (m : Int)).toNat ≤ (MX.getD (m : Int)).toNat ∧ (MX.getD (m : Int)).toNat ≤ m := by
     cases MX with
     | none => simp only [Option.getD_none, Option.map_none] at hbb ⊢; omega
     | some q => simp only [Option.getD_some, Option.map_some] at hbb ⊢; refine ⟨hbb.2.1, hbb.2.2.1, hbb.2.2.2, trivial, ?_, ?_⟩ <;> omega
    have hr := bnd false m m (Nat.le_refl m) ⟨hbb.1, hmx.1, hmx.2.1, hmx.2.2.1⟩
    rw [hmx.2.2.2.1] at hr
    refine does_pure h hd (x := .slice (some (if (MX.getD (m : Int)).toNat = (LO.getD 0).toNat then ⟨(loc id).blk, (loc id).base s + i * (loc id).st s + j, none⟩ else Addr.add ⟨(loc id).blk, (loc id).base s + i * (loc id).st s + j, none⟩ ((LO.getD 0).toNat * 1))) ((HI.getD (m : Int)).toNat - (LO.getD 0).toNat) ((MX.getD (m : Int)).toNat - (LO.getD 0).toNat)) ?_ ?_
    ·simp [execOp, ho, ex, Instr.sliceAt, run_underlying hu, Instr.sureAddr, hr, run_sizeOf' g2]
    ·refine ⟨_, _, rfl, by omega, ?_, rfl, fun h0 => ?_, by rw [hcnt]; omega, px⟩
     ·unfold lim63; omega
     ·rw [if_neg (by omega), Addr.add_lit, hst, g1]
      congr 2
      omega
   ·exact he.elim
  ·exact he.elim
 ·rename_i e' hu
  split at he
  ·rename_i sz hs
   split at he
   ·rename_i id
    split at he
    ·rw [is_ret] at he
     subst he
     obtain ⟨ad, c, ex, e1, e2, e3, e4⟩ := VR_vec hx
     refine slc e' sz ad _ c (.vec id) hu hs ex e1 e2 ⟨Int.le_refl _, by simp, by simp, by simpa using Int.ofNat_le.2 e1⟩ rfl (fun ad' c' f1 f2 f3 f4 f5 => ?_)
     simp only [Option.getD_none, Option.map_none, Int.toNat_zero, Nat.sub_zero, Int.toNat_natCast] at f1 f2 f4 ⊢
     subst f2
     refine ⟨ad', _, rfl, f1, f3, ?_, e4⟩
     rcases e3 with e3 | ⟨e3, e5⟩
     ·exact Or.inl e3
     ·by_cases h0 : c' = 0
      ·exact Or.inl h0
      ·right
       refine ⟨?_, e5⟩
       rw [f4 (by omega), e3]
       simp [Addr.add]
    ·obtain ⟨ad, c, ex, e1, e2, e3, e4⟩ := VR_vec hx
     have vec : ∀ (own : Bool) (ty : TypeId) (p : Pc) (mm : Nat) (lv : Bool), lk id = some (.cells own ty [p]) → cntOf p = mm → stOf p = sz →
       (0 ≤ LO.getD 0 ∧ LO.getD 0 ≤ HI.getD mm ∧ HI.getD mm ≤ MX.getD (HI.getD mm) ∧ MX.getD (HI.getD mm) ≤ (mm : Int)) →
       e = ⟨.slc lv id 0 (LO.getD 0).toNat ((HI.getD mm).toNat - (LO.getD 0).toNat) (MX.map fun q => q.toNat - (LO.getD 0).toNat), []⟩ → Does C.P o a w (Post C B n tm lk a o.dst e) := by
      intro own ty p mm lv hb hm' hst hbb hee
      obtain ⟨cs, q1, q2, _⟩ := cells_at h.heap hb
      have hc : (loc id).cnt 0 = mm := by rw [q2.cnt]; exact hm'
      have hst' : (loc id).st 0 = sz := by rw [q2.st]; exact hst
      have hb0 : (loc id).base 0 = 0 := by rw [q2.base]; rfl
      rw [hc] at ex e1
      refine slc e' sz ad mm c _ hu hs ex e1 e2 (by omega) hee (fun ad' c' f1 f2 f3 f4 f5 => ?_)
      refine ⟨ad', c', rfl, f1, f3, ?_, fun h0 => ?_, by rw [hc]; omega, e4⟩
      ·cases MX with
       | none =>
        simp only [Option.map_none, Option.getD_none] at f2 ⊢
        refine ⟨by rw [hc]; omega, fun h0 => ?_⟩
        rcases e3 with e3 | ⟨_, e5, e6⟩
        ·omega
        ·refine ⟨e6, Nat.le_trans (Nat.le_of_eq ?_) e5⟩
         rw [hb0, f2, Nat.zero_add]
         congr 1
         omega
       | some q => exact f2
      ·have hc0 : c ≠ 0 := fun e => by
        rw [f2] at h0
        cases MX with
        | none => simp only [Option.map_none, Option.getD_none] at h0; omega
        | some q => simp only [Option.map_some, Option.getD_some] at h0 hbb; omega
       rcases e3 with e3 | ⟨e3, _⟩
       ·exact absurd e3 hc0
       ·rw [f4 h0, e3, hb0, hst']
        simp [Addr.add_lit]
     split at he
     ·rename_i own ty ln lc k mm xs hb
      replace he := Tr.is_gd.1 he
      obtain ⟨hg, he⟩ := he
      replace he := bndT_ok he
      obtain ⟨hbb, he⟩ := he
      exact vec own ty _ mm _ hb rfl (Nat.eq_of_beq_eq_true hg).symm hbb (is_ret.1 he)
     ·rename_i own ty ln cd mm xs hb
      replace he := Tr.is_gd.1 he
      obtain ⟨hg, he⟩ := he
      replace he := bndT_ok he
      obtain ⟨hbb, he⟩ := he
      exact vec own ty _ mm _ hb rfl (Nat.eq_of_beq_eq_true hg).symm hbb (is_ret.1 he)
     ·exact he.elim
   ·rename_i l id s off len cap
    obtain ⟨ad, c, ex, e1, e2, e3, e4, e5, e6⟩ := VR_slc hx
    split at he
    ·rename_i own ty ps hb
     obtain ⟨cs, q1, q2, _⟩ := cells_at h.heap hb
     have sub : ∀ (p : Pc) (lv : Bool), ps[s]? = some p → stOf p = sz → ∀ (ln2 : Bool) (nn : Nat), cntOf p = nn → (sliceT.slcT lv ln2 nn id s off len cap LO HI MX).is e → Does C.P o a w (Post C B n tm lk a o.dst e) := by
      intro p lv hp hst ln2 nn hnn he
      unfold sliceT.slcT at he
      replace he := bndT_ok he
      obtain ⟨hbb, he⟩ := he
      have hst' : (loc id).st s = sz := by rw [q2.st]; simp [stL, hp, hst]
      have hcn : (loc id).cnt s = nn := by rw [q2.cnt]; simp [cntL, hp, hnn]
      have hcap : (cap.getD (nn - off) : Nat) ≤ c := by
       cases cap with
       | none =>
        have := e3.1
        rw [hcn] at this
        exact this
       | some k => exact Nat.le_of_eq (Eq.symm e3)
      obtain ⟨hin, he⟩ := inT_ok he
      have hin' : off + (HI.getD (len : Int)).toNat ≤ (loc id).cnt s := by
       cases HI with
       | none => simpa using e5
       | some hh =>
        cases cap with
        | none =>
         simp only [Option.getD_some, Option.getD_none] at hbb ⊢
         omega
        | some k =>
         rw [hcn]
         exact hin _ _ rfl rfl
      refine slc e' sz ad len c _ hu hs ex e1 e2 (by omega) (is_ret.1 he) (fun ad' c' f1 f2 f3 f4 f5 => ?_)
      refine ⟨ad', c', rfl, f1, f3, ?_, fun h0 => ?_, by omega, e6⟩
      ·cases MX with
       | none =>
        simp only [Option.map_none, Option.getD_none] at f2 ⊢
        cases cap with
        | none =>
         obtain ⟨g1, g2⟩ := e3
         simp only [Option.getD_none] at hbb
         refine ⟨by omega, fun h0 => ?_⟩
         obtain ⟨g3, g4⟩ := g2 (by omega)
         refine ⟨g3, Nat.le_trans (Nat.le_of_eq ?_) g4⟩
         congr 2
         omega
        | some q =>
         show c' = q - (LO.getD 0).toNat
         rw [f2, show c = q from e3]
       | some q => exact f2
      ·have hc0 : 0 < c := by
        cases MX with
        | none => simp only [Option.map_none, Option.getD_none] at f2; omega
        | some q => simp only [Option.map_some, Option.getD_some] at f2 hbb; omega
       rw [f4 h0, e4 hc0, hst']
       simp [Addr.add_lit, Nat.add_mul, Nat.add_assoc]
     split at he
     ·rename_i ln lc k mm xs hp
      replace he := Tr.is_gd.1 he
      obtain ⟨hg, he⟩ := he
      exact sub _ _ hp (Nat.eq_of_beq_eq_true hg).symm _ _ rfl he
     ·rename_i ln cd mm xs hp
      replace he := Tr.is_gd.1 he
      obtain ⟨hg, he⟩ := he
      exact sub _ _ hp (Nat.eq_of_beq_eq_true hg).symm _ _ rfl he
     ·exact he.elim
    ·exact he.elim
   ·rename_i l k xs
    replace he := Tr.is_gd.1 he
    obtain ⟨hg, he⟩ := he
    have hg := Nat.eq_of_beq_eq_true hg
    replace he := bndT_ok he
    obtain ⟨hbb, he⟩ := he
    obtain ⟨hw, hz⟩ := VR_fzi hx
    obtain ⟨ad, c, ex, e1, e2, e3⟩ := hz
    have hH : (HI.getD (xs.length : Int)).toNat ≤ xs.length := by omega
    refine slc e' sz ad xs.length c _ hu hs ex e1 e2 (by omega) (is_ret.1 he) (fun ad' c' f1 f2 f3 f4 f5 => ?_)
    have hsub := FzS.sub (w := 1) (lo := (LO.getD 0).toNat) (hi := (HI.getD (xs.length : Int)).toNat) ⟨ad, c, rfl, e1, e2, e3⟩ (by rw [iv_length, Nat.mul_one]) (by omega) hH c' ad' f1 f3 (fun h0 => by rw [f4 (by omega), hg])
    rw [subS_eq (fun q hq => by rw [hq, Option.getD_some] at hH; exact hH)]
    have hl : ((xs.take (HI.getD (xs.length : Int)).toNat).drop (LO.getD 0).toNat).length = (HI.getD (xs.length : Int)).toNat - (LO.getD 0).toNat := by
     rw [List.length_drop, List.length_take]
     omega
    refine ⟨_, rfl, fun y hy => hw y (List.mem_of_mem_take (List.mem_of_mem_drop hy)), ?_⟩
    rw [hl]
    have : iv k ((xs.take (HI.getD (xs.length : Int)).toNat).drop (LO.getD 0).toNat) = ((iv k xs).take ((HI.getD (xs.length : Int)).toNat * 1)).drop ((LO.getD 0).toNat * 1) := by
     simp [iv, List.map_drop, List.map_take]
    rw [this]
    exact hsub
   ·rename_i cd xs
    replace he := Tr.is_gd.1 he
    obtain ⟨hg, he⟩ := he
    have hg := Nat.eq_of_beq_eq_true hg
    replace he := bndT_ok he
    obtain ⟨hbb, he⟩ := he
    obtain ⟨l0, hw, hz⟩ := VR_fz hx
    obtain ⟨ad, c, ex, e1, e2, e3⟩ := hz
    have hH : (HI.getD (xs.length : Int)).toNat ≤ xs.length := by omega
    have hll := Els.length _ _ hw
    refine slc e' sz ad xs.length c _ hu hs ex e1 e2 (by omega) (is_ret.1 he) (fun ad' c' f1 f2 f3 f4 f5 => ?_)
    have hsub := FzS.sub (w := cd.w) (lo := (LO.getD 0).toNat) (hi := (HI.getD (xs.length : Int)).toNat) ⟨ad, c, rfl, e1, e2, e3⟩ hll (by omega) hH c' ad' f1 f3 (fun h0 => by rw [f4 (by omega), hg])
    rw [subS_eq (fun q hq => by rw [hq, Option.getD_some] at hH; exact hH)]
    have hl : ((xs.take (HI.getD (xs.length : Int)).toNat).drop (LO.getD 0).toNat).length = (HI.getD (xs.length : Int)).toNat - (LO.getD 0).toNat := by
     rw [List.length_drop, List.length_take]
     omega
    refine ⟨_, _, rfl, ?_, by rw [hl]; exact hsub⟩
    have h5 := Els.sub xs 0 (HI.getD (xs.length : Int)).toNat l0 hw
    rw [List.drop_zero, Nat.zero_mul, List.drop_zero] at h5
    have h6 := Els.sub _ (LO.getD 0).toNat ((HI.getD (xs.length : Int)).toNat - (LO.getD 0).toNat) _ h5
    have t1 : ((xs.take (HI.getD (xs.length : Int)).toNat).drop (LO.getD 0).toNat).take ((HI.getD (xs.length : Int)).toNat - (LO.getD 0).toNat) = (xs.take (HI.getD (xs.length : Int)).toNat).drop (LO.getD 0).toNat := List.take_of_length_le (by rw [hl]; exact Nat.le_refl _)
    have t2 : ((l0.take ((HI.getD (xs.length : Int)).toNat * cd.w)).drop ((LO.getD 0).toNat * cd.w)).take (((HI.getD (xs.length : Int)).toNat - (LO.getD 0).toNat) * cd.w) = (l0.take ((HI.getD (xs.length : Int)).toNat * cd.w)).drop ((LO.getD 0).toNat * cd.w) := List.take_of_length_le (by
     rw [List.length_drop, List.length_take, hll, Nat.min_eq_left (Nat.mul_le_mul_right _ hH), Nat.sub_mul]
     exact Nat.le_refl _)
    rw [t1, t2] at h6
    exact h6
   ·replace he := bndT_ok he
    obtain ⟨hbb, he⟩ := he
    have ex := VR_val hx
    refine slc e' sz none 0 0 _ hu hs ex (Nat.le_refl _) (by decide) (by simpa using hbb) (is_ret.1 he) (fun ad' c' f1 f2 f3 f4 f5 => ?_)
    have h5 := f5 rfl
    subst h5
    have hL : (LO.getD 0).toNat = 0 ∧ (HI.getD ((0 : Nat) : Int)).toNat = 0 ∧ c' = 0 := by
     have h6 : (MX.map Int.toNat).getD 0 = 0 := by
      cases MX with
      | none => rfl
      | some q => simp only [Option.getD_some, Option.map_some] at hbb ⊢; omega
     have h7 : HI.getD ((0 : Nat) : Int) = HI.getD 0 := rfl
     rw [h7, f2, h6]
     cases MX with
     | none => simp only [Option.getD_none] at hbb; omega
     | some q => simp only [Option.getD_some] at hbb; omega
    show [_] = [_]
    rw [hL.1, hL.2.1, hL.2.2]
   ·exact he.elim
  ·exact he.elim
 ·rename_i l s hu
  obtain ⟨ex, wx⟩ := VR_str hx
  split at he
  ·replace he := bndT_ok he
   obtain ⟨hbb, he⟩ := he
   rw [is_ret] at he
   subst he
   have hH : (HI.getD (s.length : Int)).toNat ≤ s.length := by omega
   have hmx : mx.map a.eval = none := by
    rcases k3 with ⟨_, e⟩ | ⟨k, i, e, _⟩
    ·exact e
    ·cases e
   have hr := bnd false s.length s.length (Nat.le_refl _) ⟨hbb.1, hbb.2.1, Int.le_refl _, by simpa using hbb.2.2.2⟩
   rw [hmx] at hr
   rw [subS_eq (fun q hq => by rw [hq, Option.getD_some] at hH; exact hH)]
   refine does_pure h hd (x := .string ((baOf s).extract (LO.getD 0).toNat (HI.getD (s.length : Int)).toNat)) ?_ ⟨?_, fun y hy => wx y (List.mem_of_mem_take (List.mem_of_mem_drop hy))⟩
   ·simp [execOp, ho, ex, Instr.sliceAt, run_underlying hu, Instr.slice, hmx, baOf_size, hr]
   ·congr 2
    apply ByteArray.ext
    apply Array.ext'
    simp [baOf, List.map_drop, List.map_take, List.drop_take]
  ·exact he.elim
 ·exact he.elim
theorem arrayAtT_ok (h : RelL C.gl B loc fm n tm lk a w) (hd : ∀ d, o.dst = some d → d < n) {t : TypeId} {x : Operand} {e : Eff} (ho : o.op = .sliceToArrayPointer t x) (he : (arrayAtT C lk t (ev C tm x)).is e) :
  Does C.P o a w (Post C B n tm lk a o.dst e) := by
 have hx := h.ev x
 generalize ev C tm x = X at *
 unfold arrayAtT at he
 split at he
 ·rename_i m e' hu
  split at he
  ·rename_i k hk
   replace he := Tr.is_gd.1 he
   obtain ⟨h1, he⟩ := he
   have h1 := Nat.le_of_ble_eq_true h1
   have run : ∀ ad len c, a.eval x = .slice ad len c → m ≤ len → (execOp a.eval o).run C.P w = .ok (.value (.pointer ad)) w := fun ad len c ex hl => by
    simp [execOp, ho, ex, Instr.arrayAt, run_underlying hu, Nat.not_lt.2 hl]
   split at he
   ·rename_i id
    obtain ⟨ad, c, ex, e1, e2, e3, e4⟩ := VR_vec hx
    split at he
    ·rename_i own ty ln lc k' mm xs hb
     replace he := Tr.is_gd.1 he
     obtain ⟨_, he⟩ := he
     replace he := Tr.is_le.1 he
     obtain ⟨hle, he⟩ := he
     rw [is_ret] at he
     subst he
     obtain ⟨cs, q1, q2, _⟩ := cells_at h.heap hb
     have hc : (loc id).cnt 0 = mm := by rw [q2.cnt]; rfl
     have hb0 : (loc id).base 0 = 0 := by rw [q2.base]; rfl
     rcases e3 with e3 | ⟨rfl, _⟩
     ·omega
     ·exact does_pure h hd (run _ _ _ ex (by omega)) ⟨by rw [hb0]; simp, e4⟩
    ·exact he.elim
   ·rename_i l id s off len cap
    obtain ⟨ad, c, ex, e1, e2, e3, e4, e5, e6⟩ := VR_slc hx
    split at he
    ·rename_i own ty ps hb
     split at he
     ·rename_i ln lc k' mm xs hp
      replace he := Tr.is_gd.1 he
      obtain ⟨_, he⟩ := he
      replace he := Tr.is_le.1 he
      obtain ⟨hle, he⟩ := he
      rw [is_ret] at he
      subst he
      have := e4 (by omega)
      subst this
      exact does_pure h hd (run _ _ _ ex hle) ⟨rfl, e6⟩
     ·exact he.elim
    ·exact he.elim
   ·rename_i l k' xs
    replace he := Tr.is_gd.1 he
    obtain ⟨hkk, he⟩ := he
    have hkk := of_decide_eq_true hkk
    subst hkk
    replace he := Tr.is_le.1 he
    obtain ⟨hle, he⟩ := he
    rw [is_ret] at he
    subst he
    obtain ⟨hw, ad, c, ex, e1, e2, e3⟩ := VR_fzi hx
    obtain ⟨b, off, l0, rfl, f1, f2⟩ := e3 (by omega)
    have hlen := congrArg List.length f2
    rw [List.length_take, List.length_drop, iv_length] at hlen
    refine does_pure h hd (run _ _ _ ex hle) ⟨b, off, l0, m, rfl, f1, by omega, ?_⟩
    have : (l0.drop off).take m = iv k' (xs.take m) := by
     have h5 := congrArg (List.take m) f2
     rw [iv_length, List.take_take, Nat.min_eq_left hle] at h5
     rw [h5]
     simp [iv, List.map_take]
    exact ⟨this, by rw [List.length_take]; omega, fun y hy => hw y (List.mem_of_mem_take hy)⟩
   ·exact he.elim
  ·exact he.elim
 ·exact he.elim
end
end
section
theorem zeroRow_ok {k : IntKind} : ∀ (n : Nat) (l l' : List Value), zeroRow k n l = some l' → l = iv k (List.replicate n 0) ++ l'
 | 0, l, l', h => by simp only [zeroRow, Option.some.injEq] at h; subst h; rfl
 | n + 1, l, l', h => by
  unfold zeroRow at h
  split at h
  ·cases ‹n + 1 = 0›
  ·rename_i m k' r e
   simp only [Nat.succ.injEq] at e
   subst e
   split at h
   ·rename_i hk
    have hk := of_decide_eq_true hk
    subst hk
    rw [zeroRow_ok _ _ _ h]
    simp [iv, List.replicate_succ]
   ·cases h
  ·cases h
theorem wfs_zero (k : IntKind) (n : Nat) : wfs k (List.replicate n 0) := fun x hx => by
 rw [List.eq_of_mem_replicate hx]
 exact wf_zero k
section
variable {loc : Loc} {fm : Fm} {lk : Lk}
theorem zeroC_ok {v : Value} {x : A} (h : zeroC v = some x) : VC loc fm lk x [v] ∧ aggA x = false := by
 unfold zeroC at h
 split at h
 ·rw [Option.some.injEq] at h; subst h; exact ⟨⟨rfl, wf_zero _⟩, rfl⟩
 ·rw [Option.some.injEq] at h; subst h; exact ⟨rfl, rfl⟩
 ·rename_i s
  split at h
  ·rename_i hs
   rw [Option.some.injEq] at h
   subst h
   refine ⟨⟨?_, fun x hx => by cases hx⟩, rfl⟩
   congr 2
   apply ByteArray.ext
   apply Array.ext'
   rw [hs]
   rfl
  ·cases h
 all_goals first
  | (rw [Option.some.injEq] at h; subst h; exact ⟨rfl, rfl⟩)
  | cases h
theorem zeroD_ok {d : D} {l l' : List Value} (h : zeroD d l = some l') : ∃ c, l = c ++ l' ∧ VD fm d c := by
 unfold zeroD at h
 split at h
 ·split at h
  ·rename_i hb
   simp only [Bool.and_eq_true] at hb
   have h1 := of_decide_eq_true hb.1.1
   have h2 := of_decide_eq_true hb.1.2
   have h3 := of_decide_eq_true hb.2
   rw [Option.some.injEq] at h
   subst h h1 h2 h3
   exact ⟨[_], rfl, rfl, wf_zero _⟩
  ·cases h
 ·split at h
  ·rename_i b c l0 hb
   simp only [Bool.and_eq_true, Bool.not_eq_true'] at hb
   rw [Option.some.injEq] at h
   rw [hb.1, hb.2]
   subst h
   exact ⟨[.bool false], rfl, rfl⟩
  ·cases h
 ·rw [Option.some.injEq] at h
  subst h
  exact ⟨[_], rfl, rfl⟩
 ·rename_i k n xs l0
  split at h
  ·rename_i hb
   have hb := of_decide_eq_true hb
   subst hb
   exact ⟨_, zeroRow_ok _ _ _ h, rfl, by simp, wfs_zero _ _⟩
  ·cases h
 ·cases h
theorem zeroDs_ok : ∀ (ds : List D) (l l' : List Value), zeroDs ds l = some l' → ∃ c, l = c ++ l' ∧ VDs fm ds c
 | [], l, l', h => by simp only [zeroDs, Option.some.injEq] at h; subst h; exact ⟨[], rfl, rfl⟩
 | d :: ds, l, l', h => by
  simp only [zeroDs] at h
  split at h
  ·rename_i l1 hl
   obtain ⟨c1, e1, e2⟩ := zeroD_ok (fm := fm) hl
   obtain ⟨c2, e3, e4⟩ := zeroDs_ok ds l1 l' h
   exact ⟨c1 ++ c2, by rw [e1, e3, List.append_assoc], c1, c2, rfl, e2, e4⟩
  ·cases h
def wDs : List D → Nat
 | [] => 0
 | d :: r => wD d + wDs r
theorem VDs_len : ∀ (ds : List D) (cs : List Value), VDs fm ds cs → cs.length = wDs ds
 | [], cs, h => by rw [show cs = [] from h]; rfl
 | d :: ds, cs, ⟨c1, c2, h1, h2, h3⟩ => by rw [h1, List.length_append, h2.len, VDs_len ds c2 h3]; rfl
theorem enc_w {c : Cd} {x : c.T} {cs : List Value} (h : VDs fm (c.enc x) cs) : cs.length = c.w := by
 rw [VDs_len _ _ h]
 cases c <;> rfl
theorem zeroE_w (c : Cd) : wDs (zeroE c) = c.w := by cases c <;> rfl
theorem zeroEs_ok {c : Cd} {x : c.T} (hx : c.dec (zeroE c) = some x) : ∀ (n : Nat) (l l' : List Value), zeroEs c n l = some l' → ∃ d, l = d ++ l' ∧ Els fm c (List.replicate n x) d
 | 0, l, l', h => by simp only [zeroEs, Option.some.injEq] at h; subst h; exact ⟨[], rfl, rfl⟩
 | n + 1, l, l', h => by
  simp only [zeroEs] at h
  split at h
  ·rename_i l1 hl
   obtain ⟨c1, e1, e2⟩ := zeroDs_ok (fm := fm) _ _ _ hl
   obtain ⟨c2, e3, e4⟩ := zeroEs_ok hx n l1 l' h
   refine ⟨c1 ++ c2, by rw [e1, e3, List.append_assoc], c1, c2, rfl, dec_ok hx e2, by rw [VDs_len _ _ e2, zeroE_w], e4⟩
  ·cases h
theorem PcsOk.app {ps qs : List Pc} {c d : List Value} (h : PcsOk loc fm lk ps c) (h' : PcsOk loc fm lk qs d) : PcsOk loc fm lk (ps ++ qs) (c ++ d) := PcsOk.join ps qs c d h h'
theorem zeroP_ok {C : Ctx} : ∀ (f : Nat) (t : TypeId) (l : List Value) (ps : List Pc) (l' : List Value), zeroP C f t l = some (ps, l') → ∃ c, l = c ++ l' ∧ PcsOk loc fm lk ps c
 | 0, t, l, ps, l', h => by cases h
 | f + 1, t, l, ps, l', h => by
  unfold zeroP at h
  split at h
  ·rename_i n e hu
   split at h
   ·rename_i k hk
    split at h
    ·rename_i l1 hl
     simp only [Option.some.injEq, Prod.mk.injEq] at h
     obtain ⟨rfl, rfl⟩ := h
     exact ⟨_, zeroRow_ok _ _ _ hl, _, [], by simp, ⟨rfl, by simp, wfs_zero _ _⟩, rfl⟩
    ·cases h
   ·split at h
    ·rename_i c hc
     split at h
     ·rename_i x hx
      split at h
      ·rename_i l1 hl
       simp only [Option.some.injEq, Prod.mk.injEq] at h
       obtain ⟨rfl, rfl⟩ := h
       obtain ⟨d, e1, e2⟩ := zeroEs_ok (fm := fm) hx _ _ _ hl
       exact ⟨d, e1, d, [], by simp, ⟨e2, by simp⟩, rfl⟩
      ·cases h
     ·cases h
    ·have key : ∀ (m : Nat) (l : List Value) (ps : List Pc) (l' : List Value), zeroP.zeroN (zeroP C f e) m l = some (ps, l') → ∃ c, l = c ++ l' ∧ PcsOk loc fm lk ps c := by
      intro m
      induction m with
      | zero =>
       intro l ps l' h
       simp only [zeroP.zeroN, Option.some.injEq, Prod.mk.injEq] at h
       obtain ⟨rfl, rfl⟩ := h
       exact ⟨[], rfl, rfl⟩
      | succ m ih =>
       intro l ps l' h
       simp only [zeroP.zeroN] at h
       split at h
       ·rename_i p l1 hp
        split at h
        ·rename_i q l2 hq
         simp only [Option.some.injEq, Prod.mk.injEq] at h
         obtain ⟨rfl, rfl⟩ := h
         obtain ⟨c1, e1, e2⟩ := zeroP_ok f e l p l1 hp
         obtain ⟨c2, e3, e4⟩ := ih l1 q l2 hq
         exact ⟨c1 ++ c2, by rw [e1, e3, List.append_assoc], e2.app e4⟩
        ·cases h
       ·cases h
     exact key n l ps l' h
  ·rename_i fs hu
   have key : ∀ (ts : List TypeId) (l : List Value) (ps : List Pc) (l' : List Value), zeroP.zeroF (zeroP C f) ts l = some (ps, l') → ∃ c, l = c ++ l' ∧ PcsOk loc fm lk ps c := by
    intro ts
    induction ts with
    | nil =>
     intro l ps l' h
     simp only [zeroP.zeroF, Option.some.injEq, Prod.mk.injEq] at h
     obtain ⟨rfl, rfl⟩ := h
     exact ⟨[], rfl, rfl⟩
    | cons t ts ih =>
     intro l ps l' h
     simp only [zeroP.zeroF] at h
     split at h
     ·rename_i p l1 hp
      split at h
      ·rename_i q l2 hq
       simp only [Option.some.injEq, Prod.mk.injEq] at h
       obtain ⟨rfl, rfl⟩ := h
       obtain ⟨c1, e1, e2⟩ := zeroP_ok f t l p l1 hp
       obtain ⟨c2, e3, e4⟩ := ih l1 q l2 hq
       exact ⟨c1 ++ c2, by rw [e1, e3, List.append_assoc], e2.app e4⟩
      ·cases h
     ·cases h
   exact key _ l ps l' h
  ·split at h
   ·rename_i v l1
    split at h
    ·rename_i x hx
     simp only [Option.some.injEq, Prod.mk.injEq] at h
     obtain ⟨rfl, rfl⟩ := h
     exact ⟨[v], rfl, [v], [], rfl, zeroC_ok hx, rfl⟩
    ·cases h
   ·cases h
  ·cases h
theorem zeroT_ok {C : Ctx} {t : TypeId} {ps : List Pc} (h : zeroT C t = some ps) : ∃ i z, C.P.info? t = some i ∧ i.zero = some z ∧ PcsOk loc fm lk ps z.cells.toList := by
 unfold zeroT at h
 split at h
 ·rename_i i hi
  split at h
  ·rename_i z hz
   split at h
   ·rename_i ps' he
    rw [Option.some.injEq] at h
    subst h
    obtain ⟨c, e1, e2⟩ := zeroP_ok (loc := loc) (fm := fm) (lk := lk) _ _ _ _ _ he
    rw [List.append_nil] at e1
    exact ⟨i, z, hi, hz, by rw [e1]; exact e2⟩
   ·cases h
  ·cases h
 ·cases h
theorem RestOk.nil : ∀ ps : List Pc, RestOk fm ps []
 | [] => trivial
 | [.one _] => trivial
 | [.row ..] => ⟨[], rfl, fun x hx => by cases hx⟩
 | [.lst ..] => ⟨[], rfl⟩
 | [.ones _] => trivial
 | p :: _ :: _ => by cases p <;> trivial
theorem zeros_flat (zs : Array Value) : ∀ n : Nat, ((Array.range (n * zs.size)).map fun i => zs[i % zs.size]!).toList = (List.replicate n zs.toList).flatten
 | 0 => by simp
 | n + 1 => by
  have ih := zeros_flat zs n
  rw [List.replicate_succ', List.flatten_append, ← ih]
  simp only [Array.toList_map, Array.toList_range, List.flatten_singleton]
  rw [Nat.add_mul, Nat.one_mul, List.range_add, List.map_append, List.map_map]
  congr 1
  apply List.ext_getElem
  ·simp
  ·intro j h1 h2
   have hj : j < zs.size := by simpa using h2
   have : (n * zs.size + j) % zs.size = j := by rw [Nat.mul_comm, Nat.mul_add_mod, Nat.mod_eq_of_lt hj]
   simp [this, hj]
theorem Els.zeros {c : Cd} {x : c.T} {zs : List Value} (h : VDs fm (c.enc x) zs) (hw : zs.length = c.w) : ∀ n : Nat, Els fm c (List.replicate n x) (List.replicate n zs).flatten
 | 0 => rfl
 | n + 1 => by
  rw [List.replicate_succ, List.replicate_succ, List.flatten_cons]
  exact ⟨zs, _, rfl, h, hw, Els.zeros h hw n⟩
theorem iv_zeros (k : IntKind) : ∀ n : Nat, (List.replicate n [Value.int k 0]).flatten = iv k (List.replicate n 0)
 | 0 => rfl
 | n + 1 => by
  rw [List.replicate_succ, List.replicate_succ, List.flatten_cons, iv_zeros k n]
  rfl
theorem zeroSq_ok {C : Ctx} {e : TypeId} {ln : Bool} {n : Nat} {p : Pc} (h : zeroSq C e ln n = some p) : ∃ i z, C.P.info? e = some i ∧ i.zero = some z ∧ PcsOk loc fm lk [p] (List.replicate n z.cells.toList).flatten ∧
  (∀ m, RestOk fm [p] (List.replicate m z.cells.toList).flatten) ∧ cntOf p = n ∧ stOf p = z.cells.size ∧ i.size = z.cells.size := by
 unfold zeroSq at h
 split at h
 ·rename_i i hi
  split at h
  ·rename_i z hz
   split at h
   case h_2 => cases h
   rename_i hbs
   have hbs := Nat.eq_of_beq_eq_true hbs
   split at h
   ·rename_i k hk
    split at h
    ·rename_i hr
     rw [Option.some.injEq] at h
     subst h
     have := zeroRow_ok _ _ _ hr
     have hz1 : z.cells.toList = [.int k 0] := by rw [this]; rfl
     refine ⟨i, z, hi, hz, ?_, fun m => ?_, rfl, ?_, hbs⟩
     ·rw [hz1, iv_zeros]
      exact ⟨_, [], by simp, ⟨rfl, by simp, wfs_zero _ _⟩, rfl⟩
     ·rw [hz1, iv_zeros]
      exact ⟨_, rfl, wfs_zero _ _⟩
     ·show 1 = z.cells.size
      rw [← Array.length_toList, hz1]
      rfl
    ·cases h
   ·split at h
    ·rename_i c hc
     split at h
     ·rename_i x hr hx
      rw [Option.some.injEq] at h
      subst h
      obtain ⟨d, e1, e2⟩ := zeroDs_ok (fm := fm) _ _ _ hr
      rw [List.append_nil] at e1
      subst e1
      have hw : z.cells.toList.length = c.w := by rw [VDs_len _ _ e2, zeroE_w]
      have e3 := dec_ok hx e2
      refine ⟨i, z, hi, hz, ⟨_, [], by simp, ⟨Els.zeros e3 hw n, by simp⟩, rfl⟩, fun m => ⟨_, Els.zeros e3 hw m⟩, rfl, ?_, hbs⟩
      show c.w = _
      rw [← hw, Array.length_toList]
     ·cases h
    ·cases h
  ·cases h
 ·cases h
end
end
section
theorem foldSet (off : Nat) : ∀ (vs : List Value) (j0 : Nat) (cs : Array Value), off + j0 + vs.length ≤ cs.size →
  ((vs.zipIdx j0).foldl (fun cs (p : Value × Nat) => cs.setIfInBounds (off + p.2) p.1) cs).toList = cs.toList.take (off + j0) ++ vs ++ cs.toList.drop (off + j0 + vs.length)
 | [], j0, cs, _ => by simp
 | v :: vs, j0, cs, h => by
  simp only [List.length_cons] at h
  rw [List.zipIdx_cons, List.foldl_cons, foldSet off vs (j0 + 1) _ (by simp; omega)]
  have hlt : off + j0 < cs.toList.length := by simp; omega
  have e1 : (cs.setIfInBounds (off + j0) v).toList = cs.toList.set (off + j0) v := by simp
  have e2 : (cs.toList.set (off + j0) v).take (off + j0 + 1) = cs.toList.take (off + j0) ++ [v] := by
   rw [List.take_add_one, List.getElem?_set_self hlt, List.take_set_of_le (Nat.le_refl _)]
   rfl
  have e3 : (cs.toList.set (off + j0) v).drop (off + j0 + 1 + vs.length) = cs.toList.drop (off + j0 + 1 + vs.length) := List.drop_set_of_lt (by omega)
  rw [e1, show off + (j0 + 1) = off + j0 + 1 by omega, e2, e3, List.length_cons, show off + j0 + (vs.length + 1) = off + j0 + 1 + vs.length by omega]
  simp
theorem fill_step {place : Nat → Option (Nat × Nat)} {i off size : Nat} {v : Value} {cs : List Value} {rest : List (Nat × Value)} (hp : place i = some (off, size)) (hv : v.cells.toList.length = size) (hl : off + size ≤ cs.length) :
  Instr.fill place cs.toArray ((i, v) :: rest) = Instr.fill place (ovL cs off v.cells.toList).toArray rest := by
 have hc : ¬ (v.cells.size ≠ size ∨ off + v.cells.size > cs.toArray.size) := by
  rw [← Array.length_toList, hv]
  simp
  omega
 have := foldSet off v.cells.toList 0 cs.toArray (by rw [hv]; simp; omega)
 simp only [Nat.add_zero] at this
 have e : (v.cells.zipIdx.foldl (fun cs (p : Value × Nat) => cs.setIfInBounds (off + p.2) p.1) cs.toArray) = (ovL cs off v.cells.toList).toArray := by
  apply Array.toList_inj.1
  unfold ovL
  rw [← Array.foldl_toList, Array.toList_zipIdx, this]
 rw [← e]
 conv => lhs; unfold Instr.fill
 simp only [hp]
 rw [if_neg (by simpa using hc)]
inductive F2 {α β : Type} (R : α → β → Prop) : List α → List β → Prop
 | nil : F2 R [] []
 | cons {x : α} {y : β} {xs : List α} {ys : List β} : R x y → F2 R xs ys → F2 R (x :: xs) (y :: ys)
theorem mapM_places (P : Program) : ∀ (fs : List Field), (∀ f ∈ fs, (P.info? f.type).isSome = true) → fs.mapM (fun f => (P.info? f.type).map fun i => (f.offset, i.size)) = some (fs.map fun f => (f.offset, ((P.info? f.type).map (·.size)).getD 0))
 | [], _ => rfl
 | f :: fs, h => by
  obtain ⟨i, hi⟩ := Option.isSome_iff_exists.1 (h f (List.mem_cons_self ..))
  simp [List.mapM_cons, hi, mapM_places P fs (fun g hg => h g (List.mem_cons_of_mem _ hg))]
section
variable {C : Ctx} {n nid : Nat} {w : World} {B : Base} {loc : Loc} {fm : Fm} {tm : Nat → A} {lk : Lk} {a : Act} {o : Oper}
theorem run_zeroValue' {P : Program} {t : TypeId} {i : TypeInfo} {z : Value} (h : P.info? t = some i) (hz : i.zero = some z) : (zeroValue t).run P w = .ok z w := by
 simp [zeroValue, typeInfo, h, hz]
theorem does_new (h : RelL C.gl B loc fm n tm lk a w) (hd : ∀ d, o.dst = some d → d < n) (hn : lk nid = none) (t : TypeId) (ps : List Pc) (cs rest : List Value) (hp : PcsOk loc fm lk ps cs) (hre : RestOk fm ps rest) (v : A) (x : Value)
  (hr : (execOp a.eval o).run C.P w = .ok (.value x) (w.alloc (.cells (cs ++ rest).toArray t)))
  (hv : ∀ (loc' : Loc) (lk' : Lk), loc' nid = (⟨w.heap.size, baseL ps, stL ps, cntL ps, (cs ++ rest).length, true⟩ : Spot) → (lk' nid).isSome = true → VR loc' fm lk' v x) :
  Does C.P o a w (Post C B n tm lk a o.dst ⟨v, [(nid, .cells true t ps)]⟩) := by
 obtain ⟨loc', e1, e2, h'⟩ := h.new_cells hn t ps cs rest hp hre
 exact Or.inl ⟨x, _, hr, loc', fm, h'.val o.dst hd (hv loc' _ e1 (by simp))⟩
theorem ptr_new {q : Spot} {ps : List Pc} {loc' : Loc} {fm' : Fm} {lk' : Lk} {b : Nat} (h : loc' nid = q) (hb : q.blk = b) (hs : q.base = baseL ps) (hk : (lk' nid).isSome = true) : VR loc' fm' lk' (.ptr nid 0 0 true 0) (.pointer (some ⟨b, 0, none⟩)) := by
 refine ⟨?_, hk⟩
 rw [h, hb, hs]
 simp [baseL, wPs]
theorem alloc_ok (h : RelL C.gl B loc fm n tm lk a w) (hd : ∀ d, o.dst = some d → d < n) {t : TypeId} {ps : List Pc} (hn : lk nid = none) (ho : o.op = .alloc t) (ht : zeroT C t = some ps) :
  Does C.P o a w (Post C B n tm lk a o.dst ⟨.ptr nid 0 0 true 0, [(nid, .cells true t ps)]⟩) := by
 obtain ⟨i, z, hi, hz, hp⟩ := zeroT_ok (loc := loc) (fm := fm) (lk := lk) ht
 refine does_new h hd hn t ps z.cells.toList [] hp (RestOk.nil _) _ (.pointer (some ⟨w.heap.size, 0, none⟩)) ?_ (fun loc' lk' e1 e2 => ptr_new e1 rfl rfl e2)
 simp [execOp, ho, Instr.alloc, run_zeroValue' hi hz, newVar, newRow]
theorem pcOf_ok : ∀ (l : List A) (cs : List Value), Flat l → VCs loc fm lk l cs → PcsOk loc fm lk (l.map pcOf) cs
 | [], _, _, h => h
 | x :: l, cs, hf, ⟨c1, c2, h1, h2, h3⟩ => by
  refine ⟨c1, c2, h1, ?_, pcOf_ok l c2 hf.tail h3⟩
  cases x with
  | arr lc k m xs => exact h2
  | arrc c m xs => exact h2
  | agg q => exact absurd rfl (hf _ (List.mem_cons_self ..) q)
  | _ => exact ⟨h2, rfl⟩
theorem box_ok (h : RelL C.gl B loc fm n tm lk a w) (hd : ∀ d, o.dst = some d → d < n) {t : TypeId} {x : Operand} (hn : lk nid = none) (ho : o.op = .box t x) (hc : cellsV (ev C tm x) = true) :
  Does C.P o a w (Post C B n tm lk a o.dst ⟨.ptr nid 0 0 true 0, [(nid, .cells true t ((flatA (ev C tm x)).map pcOf))]⟩) := by
 have hv := VR_cells (h.ev x) hc
 refine does_new h hd hn t _ (a.eval x).cells.toList [] (pcOf_ok _ _ (flatA_flat _) (flatA_ok _ _ hv)) (RestOk.nil _) _ (.pointer (some ⟨w.heap.size, 0, none⟩)) ?_ (fun loc' lk' e1 e2 => ptr_new e1 rfl rfl e2)
 simp [execOp, ho, Instr.box, newVar, newRow]
theorem pcAs_ok : ∀ (ps : List Pc) (l : List A) (cs : List Value), PcsOk loc fm lk ps cs → allSome (ps.map pcA) = some l → VCs loc fm lk l cs
 | [], l, cs, h, he => by
  simp only [List.map_nil, allSome, Option.some.injEq] at he
  subst he
  exact h
 | p :: ps, l, cs, ⟨c1, c2, h1, h2, h3⟩, he => by
  simp only [List.map_cons] at he
  cases hp : pcA p with
  | none => rw [hp] at he; cases he
  | some x =>
   rw [hp] at he
   simp only [allSome] at he
   split at he
   ·rename_i r hr
    rw [Option.some.injEq] at he
    subst he
    exact ⟨c1, c2, h1, (pcA_ok h2 hp).1, pcAs_ok ps r c2 h3 hr⟩
   ·cases he
theorem psA_ok {ps : List Pc} {g : Bool} {x : A} {cs : List Value} (hp : PcsOk loc fm lk ps cs) (h : psA g ps = some x) :
  match g with
  | true => VR loc fm lk x (.agg cs.toArray)
  | false => ∃ u, cs = [u] ∧ VR loc fm lk x u := by
 unfold psA at h
 split at h
 ·rename_i l hl
  have hv := pcAs_ok ps l cs hp hl
  split at h
  ·rw [Option.some.injEq] at h
   subst h
   exact mkAgg_ok hv
  ·split at h
   ·rename_i y hy
    rw [Option.some.injEq] at h
    subst h
    obtain ⟨c1, c2, h1, h2, h3⟩ := hv
    rw [show c2 = [] from h3, List.append_nil] at h1
    subst h1
    have hl1 := VC.len1 _ _ h2 hy
    match cs, hl1 with
    | [u], _ => exact ⟨u, rfl, by unfold VR; rw [hy]; exact h2⟩
   ·cases h
  ·cases h
 ·cases h
theorem buildP_ok {place : Nat → Option Nat} {pl : Nat → Option (Nat × Nat)} : ∀ (parts : List (Nat × A)) (vals : List (Nat × Value)) (ps q : List Pc) (cs : List Value), buildP place parts ps = some q → PcsOk loc fm lk ps cs →
  F2 (fun (p : Nat × A) (v : Nat × Value) => p.1 = v.1 ∧ VR loc fm lk p.2 v.2 ∧ cellsV p.2 = true ∧ ∀ o, place p.1 = some o → pl p.1 = some (o, v.2.cells.toList.length)) parts vals →
  ∃ cs', Instr.fill pl cs.toArray vals = some cs'.toArray ∧ PcsOk loc fm lk q cs' := by
 intro parts
 induction parts with
 | nil =>
  intro vals ps q cs h hp hf
  cases hf
  simp only [buildP, Option.some.injEq] at h
  subst h
  exact ⟨cs, rfl, hp⟩
 | cons p parts ih =>
  intro vals ps q cs h hp hf
  obtain ⟨i, x⟩ := p
  cases hf with
  | cons hv hf =>
   rename_i v vals
   obtain ⟨i', v⟩ := v
   obtain ⟨e1, e2, e3, e4⟩ := hv
   simp only at e1 e2 e3 e4
   subst e1
   have hc := VR_cells e2 e3
   simp only [buildP] at h
   split at h
   ·rename_i off ho
    have hpl := e4 off ho
    have go : ∀ q' o', buildP place parts q' = some q → o' = off → (∀ c, VC loc fm lk x c → c = v.cells.toList → off + c.length ≤ cs.length ∧ PcsOk loc fm lk q' (ovL cs off c)) → ∃ cs', Instr.fill pl cs.toArray ((i, v) :: vals) = some cs'.toArray ∧ PcsOk loc fm lk q cs' := fun q' o' hq _ hst => by
     obtain ⟨g1, g2⟩ := hst _ hc rfl
     obtain ⟨cs', k1, k2⟩ := ih vals q' q _ hq g2 hf
     exact ⟨cs', by rw [fill_step hpl rfl g1]; exact k1, k2⟩
    split at h
    ·rename_i ln lc k m xs l k' y
     split at h
     ·rename_i hb
      simp only [Bool.and_eq_true] at hb
      have hk := of_decide_eq_true hb.1
      have hle := Nat.le_of_ble_eq_true hb.2
      subst hk
      refine go _ off h rfl (fun c hc' _ => ?_)
      obtain ⟨rfl, hw⟩ := (show c = [.int k' y] ∧ wf k' y from hc')
      obtain ⟨c1, c2, f1, ⟨f2, f3, f4⟩, f5⟩ := hp
      rw [show c2 = [] from f5, List.append_nil] at f1
      subst f1
      rw [f2]
      refine ⟨by rw [iv_length]; simp; omega, ?_⟩
      rw [ovL_set _ _ _ _ (by omega)]
      exact ⟨_, [], by simp, ⟨rfl, by rw [List.length_set]; exact f3, wfs_set f4 hw⟩, rfl⟩
     ·cases h
    ·split at h
     ·rename_i s hs
      split at h
      ·rename_i q' hq'
       refine go _ off h rfl (fun c hc' _ => ?_)
       obtain ⟨c1, c2, f1, f2, f3, f4⟩ := PcsOk.split ps s cs hp
       have hb : baseL ps s = off := skipP_ok _ _ _ hs
       obtain ⟨g1, g2, _⟩ := setPs_ok _ _ _ _ _ hq' (flatA_ok _ _ hc') f4
       rw [f1, List.length_append]
       refine ⟨by omega, ?_⟩
       have : ovL (c1 ++ c2) off c = c1 ++ (c ++ c2.drop c.length) := by
        rw [← hb, ← f2]
        have := ovL_mid c1 c2 0 c
        rw [Nat.add_zero] at this
        rw [this]
        simp [ovL]
       rw [this]
       exact PcsOk.join _ _ _ _ f3 g2
      ·cases h
     ·cases h
   ·cases h
theorem forall2_parts (h : RelL C.gl B loc fm n tm lk a w) {place : Nat → Option Nat} {pl : Nat → Option (Nat × Nat)} : ∀ (ps : List (Nat × Operand)), (∀ p ∈ ps, cellsV (ev C tm p.2) = true ∧ ∀ o, place p.1 = some o → pl p.1 = some (o, wAs (flatA (ev C tm p.2)))) →
  F2 (fun (p : Nat × A) (v : Nat × Value) => p.1 = v.1 ∧ VR loc fm lk p.2 v.2 ∧ cellsV p.2 = true ∧ ∀ o, place p.1 = some o → pl p.1 = some (o, v.2.cells.toList.length)) (ps.map fun p => (p.1, ev C tm p.2)) (ps.map fun p => (p.1, a.eval p.2))
 | [], _ => .nil
 | p :: ps, hp => by
  obtain ⟨h1, h2⟩ := hp p (List.mem_cons_self ..)
  refine .cons ⟨rfl, h.ev p.2, h1, fun o ho => ?_⟩ (forall2_parts h ps fun q hq => hp q (List.mem_cons_of_mem _ hq))
  have := VR_cells (h.ev p.2) h1
  rw [h2 o ho, flat_len this]
theorem buildT_ok (h : RelL C.gl B loc fm n tm lk a w) (hd : ∀ d, o.dst = some d → d < n) {t : TypeId} {parts : Array (Nat × Operand)} {e : Eff} (ho : o.op = .build t parts) (he : (buildT C t (parts.toList.map fun p => (p.1, ev C tm p.2))).is e) :
  Does C.P o a w (Post C B n tm lk a o.dst e) := by
 unfold buildT at he
 split at he
 ·rename_i ps hz
  replace he := Tr.is_gd.1 he
  obtain ⟨hf, he⟩ := he
  split at he
  ·rename_i q hq
   obtain ⟨x, hx, rfl⟩ := is_retO.1 he
   obtain ⟨i, z, hi, hzz, hp⟩ := zeroT_ok (loc := loc) (fm := fm) (lk := lk) hz
   have fin : ∀ (pl : Nat → Option (Nat × Nat)), (∀ vs, C.P.built t vs = Instr.fill pl z.cells vs) → (∀ p ∈ parts.toList, cellsV (ev C tm p.2) = true ∧ ∀ o, placeT C t p.1 = some o → pl p.1 = some (o, wAs (flatA (ev C tm p.2)))) →
     Does C.P o a w (Post C B n tm lk a o.dst ⟨x, []⟩) := fun pl hb hpf => by
    obtain ⟨cs', k1, k2⟩ := buildP_ok _ _ ps q z.cells.toList hq hp (forall2_parts h parts.toList hpf)
    have hv := psA_ok k2 hx
    refine does_pure h hd (x := .agg cs'.toArray) ?_ hv
    have hr := run_build (P := C.P) w t (parts.map fun p => (p.1, a.eval p.2)) cs'.toArray (by
     rw [hb, Array.toList_map]
     simpa using k1)
    simp [execOp, ho, hr]
   cases hu : C.P.underlying t with
   | none =>
    unfold fitsT at hf
    rw [hu] at hf
    cases hf
   | some d =>
    cases d with
    | struct fs =>
     unfold fitsT at hf
     rw [hu] at hf
     simp only [Bool.and_eq_true] at hf
     have hall : ∀ f ∈ fs.toList, (C.P.info? f.type).isSome = true := fun f hfm => List.all_eq_true.1 hf.1 f hfm
     refine fin (((fs.toList.map fun f => (f.offset, ((C.P.info? f.type).map (·.size)).getD 0)).toArray)[·]?) (fun vs => ?_) (fun p hpm => ?_)
     ·unfold Program.built
      simp only [hi, hu, hzz, mapM_places C.P fs.toList hall]
     ·have := List.all_eq_true.1 hf.2 (p.1, ev C tm p.2) (List.mem_map.2 ⟨p, hpm, rfl⟩)
      simp only at this
      split at this
      ·rename_i f hfe
       split at this
       ·rename_i m hm
        simp only [Bool.and_eq_true] at this
        refine ⟨this.2, fun o' ho' => ?_⟩
        unfold placeT at ho'
        rw [hu] at ho'
        simp only [hfe, Option.map_some, Option.some.injEq] at ho'
        obtain ⟨i2, hi2, hs2⟩ := sizeT_ok hm
        rw [Nat.eq_of_beq_eq_true this.1, ← ho', ← hs2]
        have : fs.toList[p.1]? = some f := by simpa using hfe
        simp [this, hi2]
       ·cases this
      ·cases this
    | array m e' =>
     unfold fitsT at hf
     rw [hu] at hf
     simp only at hf
     split at hf
     ·rename_i sz hs
      obtain ⟨i2, hi2, hs2⟩ := sizeT_ok hs
      refine fin (fun i => some (i * i2.size, i2.size)) (fun vs => ?_) (fun p hpm => ?_)
      ·unfold Program.built
       simp only [hi, hu, hzz, hi2]
      ·have := List.all_eq_true.1 hf (p.1, ev C tm p.2) (List.mem_map.2 ⟨p, hpm, rfl⟩)
       simp only [Bool.and_eq_true] at this
       refine ⟨this.2, fun o' ho' => ?_⟩
       unfold placeT at ho'
       rw [hu] at ho'
       simp only [hs, Option.some.injEq] at ho'
       rw [Nat.eq_of_beq_eq_true this.1, ← ho', hs2]
     ·cases hf
    | _ =>
     unfold fitsT at hf
     rw [hu] at hf
     cases hf
  ·exact he.elim
 ·exact he.elim
end
end
section
section
variable {C : Ctx} {n nid : Nat} {w : World} {B : Base} {loc : Loc} {fm : Fm} {tm : Nat → A} {lk : Lk} {a : Act} {o : Oper}
theorem vec_new {q : Spot} {loc' : Loc} {fm' : Fm} {lk' : Lk} {b m c : Nat} (h : loc' nid = q) (hb : q.blk = b) (hc : q.cnt 0 = m) (hm : m ≤ c) (hl : c < lim63) (hr : c * q.st 0 ≤ q.room) (hreal : q.real = true) (hk : (lk' nid).isSome = true) :
  VR loc' fm' lk' (.vec nid) (.slice (some ⟨b, 0, none⟩) m c) := by
 refine ⟨_, c, ?_, ?_, hl, Or.inr ⟨rfl, ?_, ?_⟩, hk⟩
 ·rw [h, hb, hc]
 ·rw [h, hc]; exact hm
 ·rw [h]; exact hr
 ·rw [h]; exact hreal
theorem elemT_ok {t e : TypeId} (h : elemT C t = some e) : C.P.underlying t = some (.slice e) := by
 unfold elemT at h
 split at h
 ·rw [Option.some.injEq] at h
  subst h
  assumption
 ·cases h
theorem aD_cellV {x : A} {d : D} (h : aD x = some d) : cellV x = true := by
 unfold aD at h
 split at h <;> first
  | rfl
  | cases h
theorem toEl_cells {c : Cd} {x : A} {y : c.T} (h : toEl c x = some y) : cellsV x = true := by
 unfold toEl at h
 split at h
 ·rename_i ds hds
  have := allSome_spec _ _ hds
  unfold cellsV
  rw [List.all_eq_true]
  intro z hz
  have hm : aD z ∈ (flatA x).map aD := List.mem_map.2 ⟨z, hz, rfl⟩
  rw [this] at hm
  obtain ⟨d, _, hd⟩ := List.mem_map.1 hm
  exact aD_cellV hd.symm
 ·cases h
theorem toEl_ok {c : Cd} {x : A} {y : c.T} {cs : List Value} (h : toEl c x = some y) (hv : VC loc fm lk x cs) : VDs fm (c.enc y) cs := by
 unfold toEl at h
 split at h
 ·rename_i ds hds
  exact dec_ok h (aDs_ok _ _ _ (allSome_spec _ _ hds) (flatA_ok _ _ hv))
 ·cases h
theorem elsOf_ok (hC : Ro C) {c : Cd} : ∀ (ps : List (Nat × Operand)) (k : Nat) (xs : List c.T) (fz : List (Nat × Blk)) (fm1 : Fm) (lk1 : Lk), elsOf lk c k (ps.map fun p => (p.1, ev C tm p.2)) = some (xs, fz) →
  (∀ i t q, lk i = some (.cells true t q) → C.gl.length ≤ i) → RelL C.gl B loc fm1 n tm lk1 a w → Frz lk lk1 → (∀ x : Operand, VR loc fm1 lk1 (ev C tm x) (a.eval x)) →
  FrzTo C B loc n tm lk a w fm1 lk1 fz (fun fm2 _ => ps.map (·.1) = (List.range ps.length).map (k + ·) ∧ xs.length = ps.length ∧ (∀ p ∈ ps, (a.eval p.2).cells.toList.length = c.w) ∧ Els fm2 c xs (ps.flatMap fun p => (a.eval p.2).cells.toList))
 | [], k, xs, fz, fm1, lk1, he, hge, hR, hz, hev => by
  simp only [List.map_nil, elsOf, Option.some.injEq, Prod.mk.injEq] at he
  obtain ⟨rfl, rfl⟩ := he
  exact FrzTo.none hR hz ⟨rfl, rfl, fun p hp => (by cases hp), rfl⟩
 | p :: ps, k, xs, fz, fm1, lk1, he, hge, hR, hz, hev => by
  simp only [List.map_cons, elsOf] at he
  split at he
  ·rename_i x' f1 hi hfz
   split at he
   ·rename_i y r f2 hy hr
    simp only [Option.some.injEq, Prod.mk.injEq] at he
    obtain ⟨rfl, rfl⟩ := he
    have hi := Nat.eq_of_beq_eq_true hi
    obtain ⟨fm2, g1, g2, g3, g4⟩ := frzA_ok hge _ _ _ fm1 lk1 hfz hR hz
    have hle1 : Le loc loc fm1 fm2 lk1 (updL lk1 f1) := Les g1 (fun i hi => updL_some f1 hi)
    have hv1 : VR loc fm2 (updL lk1 f1) x' (a.eval p.2) := by
     have := hev p.2
     unfold VR at this ⊢
     rw [aggA_frz hfz]
     revert this
     cases aggA (ev C tm p.2) with
     | true => exact fun ⟨ds, q1, q2⟩ => ⟨ds, q1, g4 _ q2⟩
     | false => exact fun q => g4 _ q
    have hc1 := VR_cells hv1 (toEl_cells hy)
    have hd1 := toEl_ok hy hc1
    obtain ⟨fm3, k1, k2, k3, k4, k5, k6, k7⟩ := elsOf_ok hC ps (k + 1) r f2 fm2 _ hr hge g2 g3 (fun x => VR.mono hle1 _ _ (hev x))
    refine ⟨fm3, fun b l h => k1 b l (g1 b l h), by rw [updL_append]; exact k2, by rw [updL_append]; exact k3, ?_, by simp [k5], ?_, ?_⟩
    ·rw [List.map_cons, k4, List.length_cons, List.range_succ_eq_map, List.map_cons, List.map_map, hi]
     congr 1
     apply List.map_congr_left
     intro q _
     simp only [Function.comp]
     omega
    ·intro q hq
     rcases List.mem_cons.1 hq with rfl | hq
     ·exact enc_w hd1
     ·exact k6 q hq
    ·exact ⟨_, _, rfl, VDs.mono k1 _ _ hd1, enc_w hd1, k7⟩
   ·cases he
  ·cases he
theorem fill_all {pl : Nat → Option (Nat × Nat)} {sz : Nat} (hpl : ∀ i, pl i = some (i * sz, sz)) : ∀ (ps : List (Nat × Value)) (k : Nat) (done zs : List Value), ps.map (·.1) = (List.range ps.length).map (k + ·) → (∀ p ∈ ps, p.2.cells.toList.length = sz) → done.length = k * sz → zs.length = ps.length * sz →
  Instr.fill pl (done ++ zs).toArray ps = some (done ++ ps.flatMap fun p => p.2.cells.toList).toArray
 | [], k, done, zs, _, _, _, hz => by
  have : zs = [] := List.length_eq_zero_iff.1 (by simpa using hz)
  subst this
  simp [Instr.fill]
 | p :: ps, k, done, zs, hi, hs, hd, hz => by
  rw [List.length_cons, List.range_succ_eq_map, List.map_cons, List.map_cons, List.map_map] at hi
  simp only [List.cons.injEq, Nat.add_zero] at hi
  obtain ⟨h0, hi⟩ := hi
  obtain ⟨i, v⟩ := p
  simp only at h0
  subst h0
  have hv := hs (i, v) (List.mem_cons_self ..)
  simp only at hv
  simp only [List.length_cons, Nat.add_mul, Nat.one_mul] at hz
  rw [fill_step (hpl i) hv (by rw [List.length_append]; omega)]
  have hov : ovL (done ++ zs) (i * sz) v.cells.toList = (done ++ v.cells.toList) ++ zs.drop sz := by
   have := ovL_mid done zs 0 v.cells.toList
   rw [Nat.add_zero, hd] at this
   rw [this]
   simp only [ovL, List.take_zero, List.nil_append, Nat.zero_add, List.append_assoc]
   rw [hv]
  rw [hov, fill_all hpl ps (i + 1) (done ++ v.cells.toList) (zs.drop sz) ?_ (fun q hq => hs q (List.mem_cons_of_mem _ hq)) (by rw [List.length_append, hd, hv, Nat.add_mul, Nat.one_mul]) (by rw [List.length_drop]; omega)]
  ·simp
  ·rw [hi]
   apply List.map_congr_left
   intro q _
   simp only [Function.comp]
   omega
theorem run_buildSlice {t e : TypeId} {len m : Nat} {vals : Array (Nat × Value)} {cs : List Value} (hu : C.P.underlying t = some (.slice e)) (hm : sizeT C.P e = some m) (hlim : len * m ≤ 16777216) {i : TypeInfo} {z : Value} (hi : C.P.info? e = some i) (hz : i.zero = some z) (hzm : len * m = 0 ∨ z.cells.size = m)
  (hf : ∀ zs : List Value, zs.length = len * m → (z.cells.size = m → zs = (List.replicate len z.cells.toList).flatten) → Instr.fill (fun i => some (i * m, m)) zs.toArray vals.toList = some cs.toArray) :
  (Instr.buildSlice t len vals).run C.P w = .ok (.slice (some ⟨w.heap.size, 0, none⟩) len len) (w.alloc (.cells cs.toArray e)) := by
 have hl : ¬ (len * m > 2 ^ 24) := by omega
 unfold Instr.buildSlice
 simp only [Sem.run_bind, run_underlying hu, Result.andThen_ok, run_sizeOf' hm, if_neg hl]
 by_cases h0 : len * m = 0
 ·rw [if_pos h0]
  have := hf [] (by rw [h0]; rfl) (fun hzm' => by
   symm
   apply List.length_eq_zero_iff.1
   simp [hzm', h0])
  simp only [h0, Array.range_zero', Array.map_empty]
  rw [this]
  simp [newRow]
 ·rw [if_neg h0]
  have hzm : z.cells.size = m := by
   rcases hzm with h | h
   ·exact absurd h h0
   ·exact h
  have := hf ((Array.range (len * m)).map fun j => z.cells[j % z.cells.size]!).toList (by simp) (fun _ => by
   rw [← hzm]
   exact zeros_flat z.cells len)
  rw [Array.toArray_toList] at this
  simp only [Sem.run_bind, run_zeroValue' hi hz, Result.andThen_ok, Sem.run_pure, this]
  simp [newRow]
theorem fillI_ok (h : RelL C.gl B loc fm n tm lk a w) {k : IntKind} : ∀ (ps : List (Nat × Operand)) (l l' : Bool) (xs xs' : List Int), fillI k (ps.map fun p => (p.1, ev C tm p.2)) l xs = some (l', xs') → wfs k xs →
  Instr.fill (fun i => some (i * 1, 1)) (iv k xs).toArray (ps.map fun p => (p.1, a.eval p.2)) = some (iv k xs').toArray ∧ wfs k xs' ∧ xs'.length = xs.length
 | [], l, l', xs, xs', he, hw => by
  simp only [List.map_nil, fillI, Option.some.injEq, Prod.mk.injEq] at he
  obtain ⟨_, he⟩ := he
  subst he
  exact ⟨rfl, hw, rfl⟩
 | p :: ps, l, l', xs, xs', he, hw => by
  have hv := h.ev p.2
  simp only [List.map_cons] at he ⊢
  generalize ev C tm p.2 = X at *
  unfold fillI at he
  split at he
  ·rename_i e0; cases e0
  ·rename_i i lv k' v r e0
   simp only [List.cons.injEq, Prod.mk.injEq] at e0
   obtain ⟨⟨rfl, rfl⟩, rfl⟩ := e0
   split at he
   ·rename_i hb
    simp only [Bool.and_eq_true] at hb
    have hk := of_decide_eq_true hb.1
    have hle := Nat.le_of_ble_eq_true hb.2
    subst hk
    obtain ⟨ex, wx⟩ := VR_int hv
    obtain ⟨g1, g2, g3⟩ := fillI_ok h ps _ l' _ xs' he (wfs_set hw wx)
    refine ⟨?_, g2, by rw [g3, List.length_set]⟩
    rw [← g1, ex, fill_step (off := p.1 * 1) (size := 1) rfl rfl (by rw [iv_length]; omega)]
    show Instr.fill _ (ovL (iv k' _) (p.1 * 1) [.int k' v]).toArray _ = _
    rw [Nat.mul_one, ovL_set _ _ _ _ (by omega)]
   ·cases he
  ·cases he
theorem buildSlice0_ok (hC : Ro C) (h : RelL C.gl B loc fm n tm lk a w) (hd : ∀ d, o.dst = some d → d < n) {t : TypeId} {len : Nat} {parts : Array (Nat × Operand)} {e : Eff} (hnb : ∀ b, (nid, b) ∈ e.puts → lk nid = none) (ho : o.op = .buildSlice t len parts)
  (he : (buildSlice0 C lk nid t len (parts.toList.map fun p => (p.1, ev C tm p.2))).is e) : Does C.P o a w (Post C B n tm lk a o.dst e) := by
 unfold buildSlice0 at he
 split at he
 ·rename_i el hel
  have hu := elemT_ok hel
  split at he
  ·rename_i m hm
   replace he := Tr.is_gd.1 he
   obtain ⟨hlim, he⟩ := he
   have hlim := Nat.le_of_ble_eq_true hlim
   split at he
   ·rename_i ln lc k mm zs hzq
    replace he := Tr.is_gd.1 he
    obtain ⟨hm1, he⟩ := he
    have hm1 := Nat.eq_of_beq_eq_true hm1
    subst hm1
    obtain ⟨i, z, hi, hz, hp, _, hcnt, hst, _⟩ := zeroSq_ok (loc := loc) (fm := fm) (lk := lk) hzq
    obtain ⟨c1, c2, f1, ⟨f2, f3, f4⟩, f5⟩ := hp
    rw [show c2 = [] from f5, List.append_nil] at f1
    subst f1
    have hmm : mm = len := hcnt
    subst hmm
    split at he
    ·rename_i l xs hf
     replace he := (Tr.is_leaf.1 he).symm
     subst he
     first | (have hn := hnb _ (List.mem_cons_self ..)) | (have hn := hnb _ (List.mem_append_right _ (List.mem_cons_self ..))) | skip
     obtain ⟨g1, g2, g3⟩ := fillI_ok h parts.toList _ _ _ _ hf f4
     have hlen : xs.length = mm := by rw [g3, f3]
     have hr := run_buildSlice (w := w) (vals := parts.map fun p => (p.1, a.eval p.2)) (cs := iv k xs) hu hm hlim hi hz (Or.inr hst.symm) (fun zs' _ hzs => by
      rw [hzs hst.symm, f2, Array.toList_map]
      exact g1)
     refine does_new h hd hn el [.row true l k mm xs] (iv k xs) [] ⟨_, [], by simp, ⟨rfl, hlen, g2⟩, rfl⟩ (RestOk.nil _) _ (.slice (some ⟨w.heap.size, 0, none⟩) mm mm) ?_ (fun loc' lk' e1 e2 => vec_new e1 rfl rfl (Nat.le_refl _) (by unfold lim63; omega) (by simp [stL, stOf, iv_length, hlen]) rfl e2)
     rw [List.append_nil]
     simp [execOp, ho, hr]
    ·exact he.elim
   ·rename_i ln c mm zs hzq
    replace he := Tr.is_gd.1 he
    obtain ⟨hg, he⟩ := he
    simp only [Bool.and_eq_true] at hg
    have hmw := Nat.eq_of_beq_eq_true hg.1
    have hpl := Nat.eq_of_beq_eq_true hg.2
    rw [List.length_map] at hpl
    obtain ⟨i, z, hi, hz, _, _, hcnt, hst, _⟩ := zeroSq_ok (loc := loc) (fm := fm) (lk := lk) hzq
    split at he
    ·rename_i xs fz hf
     replace he := (Tr.is_leaf.1 he).symm
     subst he
     first | (have hn := hnb _ (List.mem_cons_self ..)) | (have hn := hnb _ (List.mem_append_right _ (List.mem_cons_self ..))) | skip
     obtain ⟨fm2, k1, k2, k3, k4, k5, k6, k7⟩ := elsOf_ok hC parts.toList 0 xs fz fm lk hf (fun i t q hi => own_ge hC h hi rfl) h Frz.refl (fun x => h.ev x)
     have hcs : (parts.toList.flatMap fun p => (a.eval p.2).cells.toList).length = len * c.w := by rw [Els.length _ _ k7, k5, hpl]
     have hr := run_buildSlice (w := w) (vals := parts.map fun p => (p.1, a.eval p.2)) (cs := parts.toList.flatMap fun p => (a.eval p.2).cells.toList) hu hm hlim hi hz (Or.inr (by rw [← hst, hmw]; rfl)) (fun zs' hl _ => by
      have := fill_all (pl := fun i => some (i * m, m)) (sz := m) (fun _ => rfl) (parts.toList.map fun p => (p.1, a.eval p.2)) 0 [] zs' (by
       rw [List.map_map, List.length_map]
       exact k4) (fun p hp => by
       obtain ⟨q, hq, rfl⟩ := List.mem_map.1 hp
       rw [hmw]
       exact k6 q hq) (by simp) (by rw [List.length_map, hl, hpl])
      rw [Array.toList_map]
      simpa [List.flatMap_map] using this)
     have hn2 : updL lk fz nid = none := by
      rcases k3 nid with e | ⟨t', ps', e1, _⟩
      ·rw [e, hn]
      ·rw [hn] at e1; cases e1
     have := does_new (o := o) k2 hd hn2 el [.lst true c len xs] (parts.toList.flatMap fun p => (a.eval p.2).cells.toList) [] ⟨_, [], by simp, ⟨k7, by rw [k5, hpl]⟩, rfl⟩ (RestOk.nil _) (.vec nid) (.slice (some ⟨w.heap.size, 0, none⟩) len len) (by
      rw [List.append_nil]
      simp [execOp, ho, hr]) (fun loc' lk' e1 e2 => vec_new e1 rfl rfl (Nat.le_refl _) (by
       have := nz_w c
       have : len ≤ len * m := Nat.le_mul_of_pos_right _ (by omega)
       unfold lim63
       omega) (by rw [List.append_nil, hcs]; exact Nat.le_refl _) rfl e2)
     unfold Post at this ⊢
     rwa [updL_append]
    ·exact he.elim
   ·exact he.elim
  ·exact he.elim
 ·exact he.elim
theorem onesOf_ok (h : RelL C.gl B loc fm n tm lk a w) : ∀ (ps : List (Nat × Operand)) (k : Nat) (l : List A), onesOf k (ps.map fun p => (p.1, ev C tm p.2)) = some l →
  ps.map (·.1) = (List.range ps.length).map (k + ·) ∧ l.length = ps.length ∧ (∀ p ∈ ps, (a.eval p.2).cells.toList.length = 1) ∧ VCs loc fm lk l (ps.flatMap fun p => (a.eval p.2).cells.toList) ∧ ∀ x ∈ l, aggA x = false
 | [], k, l, he => by
  simp only [List.map_nil, onesOf, Option.some.injEq] at he
  subst he
  refine ⟨rfl, rfl, ?_, rfl, ?_⟩
  ·intro p hp; cases hp
  ·intro x hx; cases hx
 | p :: ps, k, l, he => by
  simp only [List.map_cons, onesOf] at he
  split at he
  ·rename_i hc
   simp only [Bool.and_eq_true] at hc
   split at he
   ·rename_i r hr
    rw [Option.some.injEq] at he
    subst he
    have hi := Nat.eq_of_beq_eq_true hc.1.1
    have hag : aggA (ev C tm p.2) = false := by
     cases hq : aggA (ev C tm p.2) with
     | true => rw [hq] at hc; exact absurd hc.2 (by decide)
     | false => rfl
    have hv := h.ev p.2
    have hcell : cellsV (ev C tm p.2) = true := by
     have : flatA (ev C tm p.2) = [ev C tm p.2] := by
      revert hag
      cases ev C tm p.2 <;> first | exact fun _ => rfl | (intro h; cases h)
     rw [cellsV, this]
     simpa using hc.1.2
    have hvc := VR_cells hv hcell
    obtain ⟨k1, k2, k3, k4, k5⟩ := onesOf_ok h ps (k + 1) r hr
    refine ⟨?_, by simp [k2], ?_, ⟨_, _, rfl, hvc, k4⟩, ?_⟩
    ·rw [List.map_cons, k1, List.length_cons, List.range_succ_eq_map, List.map_cons, List.map_map, hi]
     simp only [Nat.add_zero, List.cons.injEq, true_and]
     apply List.map_congr_left
     intro q _
     simp only [Function.comp]
     omega
    ·intro q hq
     rcases List.mem_cons.1 hq with rfl | hq
     ·exact VC.len1 _ _ hvc hag
     ·exact k3 q hq
    ·intro q hq
     rcases List.mem_cons.1 hq with rfl | hq
     ·exact hag
     ·exact k5 q hq
   ·cases he
  ·cases he
theorem onesT_ok (h : RelL C.gl B loc fm n tm lk a w) (hd : ∀ d, o.dst = some d → d < n) {t : TypeId} {len : Nat} {parts : Array (Nat × Operand)} {e : Eff} (hnb : ∀ b, (nid, b) ∈ e.puts → lk nid = none) (ho : o.op = .buildSlice t len parts)
  (he : (onesT C nid t len (parts.toList.map fun p => (p.1, ev C tm p.2))).is e) : Does C.P o a w (Post C B n tm lk a o.dst e) := by
 unfold onesT at he
 split at he
 case h_2 => exact he.elim
 rename_i el hel
 have hu := elemT_ok hel
 split at he
 case h_2 => exact he.elim
 rename_i i hm hi
 split at he
 case h_2 => exact he.elim
 rename_i z l hz hf
 replace he := Tr.is_gd.1 he
 obtain ⟨hg, he⟩ := he
 simp only [Bool.and_eq_true] at hg
 have hz1 := Nat.eq_of_beq_eq_true hg.1.1
 have hpl := Nat.eq_of_beq_eq_true hg.1.2
 have hlim := Nat.le_of_ble_eq_true hg.2
 rw [List.length_map] at hpl
 replace he := (Tr.is_leaf.1 he).symm
 subst he
 have hn := hnb _ (List.mem_cons_self ..)
 obtain ⟨k1, k2, k3, k4, k5⟩ := onesOf_ok h parts.toList 0 l hf
 have hcs := VCs.len1 _ _ k4 k5
 have hr := run_buildSlice (w := w) (t := t) (len := len) (vals := parts.map fun p => (p.1, a.eval p.2)) (cs := parts.toList.flatMap fun p => (a.eval p.2).cells.toList) hu hm (by omega) hi hz (Or.inr hz1) (fun zs' hl _ => by
  have := fill_all (pl := fun i => some (i * 1, 1)) (sz := 1) (fun _ => rfl) (parts.toList.map fun p => (p.1, a.eval p.2)) 0 [] zs' (by
   rw [List.map_map, List.length_map]
   exact k1) (fun p hp => by
   obtain ⟨q, hq, rfl⟩ := List.mem_map.1 hp
   exact k3 q hq) (by simp) (by rw [List.length_map, hl, hpl])
  rw [Array.toList_map]
  simpa [List.flatMap_map] using this)
 refine does_new h hd hn el [.ones l] (parts.toList.flatMap fun p => (a.eval p.2).cells.toList) [] ⟨_, [], by simp, ⟨k4, k5⟩, rfl⟩ (RestOk.nil _) (.vec nid) (.slice (some ⟨w.heap.size, 0, none⟩) len len) ?_ (fun loc' lk' e1 e2 => vec_new (m := len) (c := len) e1 rfl (by show l.length = len; rw [k2, hpl]) (Nat.le_refl _) (by unfold lim63; omega) (by
  rw [List.append_nil, hcs, k2, hpl]
  exact Nat.le_of_eq (Nat.mul_one _)) rfl e2)
 rw [List.append_nil]
 simp [execOp, ho, hr]
theorem buildSliceT_ok (hC : Ro C) (h : RelL C.gl B loc fm n tm lk a w) (hd : ∀ d, o.dst = some d → d < n) {t : TypeId} {len : Nat} {parts : Array (Nat × Operand)} {e : Eff} (hnb : ∀ b, (nid, b) ∈ e.puts → lk nid = none) (ho : o.op = .buildSlice t len parts)
  (he : (buildSliceT C lk nid t len (parts.toList.map fun p => (p.1, ev C tm p.2))).is e) : Does C.P o a w (Post C B n tm lk a o.dst e) := by
 unfold buildSliceT at he
 split at he
 ·split at he
  ·exact onesT_ok h hd hnb ho he
  ·exact buildSlice0_ok hC h hd hnb ho he
 ·exact he.elim
end
end
section
theorem flatten_rep_add (m k : Nat) (zs : List Value) : (List.replicate (m + k) zs).flatten = (List.replicate m zs).flatten ++ (List.replicate k zs).flatten := by
 rw [← List.replicate_append_replicate, List.flatten_append]
theorem flatten_rep_length (m : Nat) (zs : List Value) : (List.replicate m zs).flatten.length = m * zs.length := by simp
section
variable {C : Ctx} {n nid : Nat} {w : World} {B : Base} {loc : Loc} {fm : Fm} {tm : Nat → A} {lk : Lk} {a : Act} {o : Oper}
theorem run_tyInfo {P : Program} {t : TypeId} {i : TypeInfo} (h : P.info? t = some i) (w : World) : (typeInfo t).run P w = .ok i w := by simp [typeInfo, h]
theorem makeT_ok (h : RelL C.gl B loc fm n tm lk a w) (hd : ∀ d, o.dst = some d → d < n) {t : TypeId} {x y : Operand} {e : Eff} (hnb : ∀ b, (nid, b) ∈ e.puts → lk nid = none) (ho : o.op = .makeSlice t x y) (he : (makeT C nid t (ev C tm x) (ev C tm y)).is e) :
  Does C.P o a w (Post C B n tm lk a o.dst e) := by
 have hx := h.ev x
 have hy := h.ev y
 generalize ev C tm x = X at *
 generalize ev C tm y = Y at *
 unfold makeT at he
 split at he
 ·rename_i el l1 l l2 c hel
  have hu := elemT_ok hel
  obtain ⟨ex, wx⟩ := VR_int hx
  obtain ⟨ey, wy⟩ := VR_int hy
  split at he
  ·rename_i i hi
   obtain ⟨_, hg, he⟩ := Tr.is_bind.1 he
   have hb : 0 ≤ l ∧ l ≤ c ∧ (i.bytes : Int) * c ≤ 281474976710656 := by
    split at hg
    ·replace hg := (Tr.is_gd.1 hg).1
     simp only [Bool.and_eq_true] at hg
     exact ⟨of_decide_eq_true hg.1.1, of_decide_eq_true hg.1.2, of_decide_eq_true hg.2⟩
    ·exact hg.1
   obtain ⟨h1, h2, h3⟩ := hb
   split at he
   ·rename_i p hp
    replace he := (Tr.is_leaf.1 he).symm
    subst he
    first | (have hn := hnb _ (List.mem_cons_self ..)) | (have hn := hnb _ (List.mem_append_right _ (List.mem_cons_self ..))) | skip
    obtain ⟨i', z, hi', hz, q1, q2, q3, q4, q5⟩ := zeroSq_ok (loc := loc) (fm := fm) (lk := lk) hp
    have e1 : i' = i := Option.some.inj (hi'.symm.trans hi)
    subst e1
    have wl : IntKind.i64.wrap l = l := wx
    have wc : IntKind.i64.wrap c = c := wy
    have hwy := wf_i64.1 wy
    have hbl : (i'.bytes : Int) * l ≤ i'.bytes * c := Int.mul_le_mul_of_nonneg_left h2 (by omega)
    have hsz : (sizeOf el).run C.P w = .ok i'.size w := by simp [sizeOf, typeInfo, hi']
    have t1 : ¬ (i'.bytes * c > 2 ^ 48 : Prop) := by omega
    have tl : ((decide (c < 0) || decide ((i'.bytes : Int) * c > 2 ^ 48)) || decide (l < 0) || decide (l > c)) = false := by
     simp only [Bool.or_eq_false_iff, decide_eq_false_iff_not]
     exact ⟨⟨⟨by omega, t1⟩, by omega⟩, by omega⟩
    have hzc : ((Array.range (c.toNat * i'.size)).map fun j => z.cells[j % z.cells.size]!) = ((List.replicate l.toNat z.cells.toList).flatten ++ (List.replicate (c.toNat - l.toNat) z.cells.toList).flatten).toArray := by
     apply Array.toList_inj.1
     rw [q5, zeros_flat, ← flatten_rep_add, show l.toNat + (c.toNat - l.toNat) = c.toNat by omega]
    have hrun : (execOp a.eval o).run C.P w = .ok (.value (.slice (some ⟨w.heap.size, 0, none⟩) l.toNat c.toNat)) (w.alloc (.cells ((List.replicate l.toNat z.cells.toList).flatten ++ (List.replicate (c.toNat - l.toNat) z.cells.toList).flatten).toArray el)) := by
     rw [← hzc]
     simp only [execOp, ho, ex, ey, Instr.makeSlice, Sem.run_bind, run_underlying hu, Result.andThen_ok, asInt, asIntOf, Sem.run_pure, run_tyInfo hi', wl, wc, tl, Bool.false_eq_true, if_false, run_askRoom, hsz, newRow]
     by_cases h0 : c.toNat * i'.size = 0
     ·simp [h0, Array.range_zero']
     ·simp [h0, run_zeroValue' hi' hz]
    refine does_new h hd hn el [p] _ _ q1 (q2 _) _ _ hrun (fun loc' lk' e1 e2 => vec_new e1 rfl q3 (by omega) (by unfold lim63; omega) ?_ rfl e2)
    show c.toNat * stOf p ≤ _
    rw [List.length_append, flatten_rep_length, flatten_rep_length, ← Nat.add_mul, Array.length_toList, q4, show l.toNat + (c.toNat - l.toNat) = c.toNat by omega]
    exact Nat.le_refl _
   ·exact he.elim
  ·exact he.elim
 ·exact he.elim
theorem bsOf_map (s : List Int) (hs : bytes s) : ((baOf s).data.map fun b => Value.int .u8 b.toNat).toList = iv .u8 s := by
 simp only [baOf, iv, Array.toList_map, List.map_map]
 apply List.map_congr_left
 intro x hx
 have := hs x hx
 simp
 omega
theorem RelL.new_marked (h : RelL C.gl B loc fm n tm lk a w) {nid : Nat} (hn : lk nid = none) (t : TypeId) (ps : List Pc) (cs rest : List Value) (hp : PcsOk loc fm lk ps cs) (hr : RestOk fm ps rest) {w' : World} {fz : Nat × Nat} (hz : Free (lstB ps) (cs ++ rest).length fz)
  (hh : w'.heap = (w.alloc (.cells (cs ++ rest).toArray t fz)).heap) (ho : w'.os = w.os) (ht : w'.tape = w.tape) (hpt : w'.output = w.output) :
  ∃ loc', loc' nid = (⟨w.heap.size, baseL ps, stL ps, cntL ps, (cs ++ rest).length, true⟩ : Spot) ∧ (∀ i, i ≠ nid → loc' i = loc i) ∧
   RelL C.gl B loc' fm n tm (fun j => if j = nid then some (.cells true t ps) else lk j) a w' := by
 obtain ⟨loc', e1, e2, e3⟩ := h.newB hn (.cells true t ps) (.cells (cs ++ rest).toArray t fz) ⟨w.heap.size, baseL ps, stL ps, cntL ps, (cs ++ rest).length, true⟩ rfl (fun loc' lk' hle e _ => ⟨cs, PcsOk.mono hle _ _ hp, by rw [e]; exact ⟨rfl, rfl, rfl⟩, by
  rw [e]
  exact ⟨rest, fz, alloc_new _ _, fun _ => ⟨RestOk.mono hle.fm _ _ hr, rfl, hz⟩, fun e => by cases e⟩⟩)
 exact ⟨loc', e1, e2, e3.other hh ho ht hpt⟩
theorem RelL.marked (h : RelL C.gl B loc fm n tm lk a w) {i : Nat} {t : TypeId} {ps : List Pc} (hi : lk i = some (.cells true t ps)) (hr : (loc i).real = true) {w' : World}
  (hw : ∀ (cs : Array Value) (fz : Nat × Nat), w.heap[(loc i).blk]? = some (.cells cs t fz) → Free (lstB ps) cs.size fz → ∃ fz', w'.heap[(loc i).blk]? = some (.cells cs t fz') ∧ Free (lstB ps) cs.size fz') (hk : ∀ k, k ≠ (loc i).blk → w'.heap[k]? = w.heap[k]?)
  (hs : w'.heap.size = w.heap.size) (ho : w'.os = w.os) (ht : w'.tape = w.tape) (hp : w'.output = w.output) : RelL C.gl B loc fm n tm lk a w' := by
 obtain ⟨ha1, ha2⟩ := h.heap.alone i _ hi rfl hr
 refine h.step Le.refl (fun g b hg => (h.glob g b hg).2) ⟨fun j b hj => ?_, h.heap.alone, fun d l hd => ?_⟩ h.new ⟨ho.trans h.fr.os, ht.trans h.fr.tape, hp.trans h.fr.output, by rw [hs]; exact h.fr.size, fun k hkk hq => ?_⟩
 ·by_cases hji : j = i
  ·subst hji
   rw [hi] at hj
   cases hj
   obtain ⟨cs, h1, h2, h3⟩ := h.heap.ok j _ hi
   rw [hr] at h3
   obtain ⟨rest, fz, e1, e2, e3⟩ := h3
   obtain ⟨f1, f2, f3⟩ := e2 rfl
   obtain ⟨fz', k1, k2⟩ := hw _ _ e1 (by simpa using f3)
   refine ⟨cs, h1, h2, ?_⟩
   rw [hr]
   exact ⟨rest, fz', k1, fun _ => ⟨f1, f2, by simpa using k2⟩, fun e => by cases e⟩
  ·exact BlkOk.mono Le.refl rfl (fun hlv hrj => hk _ (ha2 j b hji hj hlv hrj)) (h.heap.ok j b hj)
 ·obtain ⟨rest', t', fz', e⟩ := h.heap.fm d l hd
  refine ⟨rest', t', fz', ?_⟩
  rw [hk d (fun e' => by rw [e', ha1] at hd; cases hd)]
  exact e
 ·rw [hk k (fun e => ?_)]
  ·exact h.fr.block k hkk hq
  ·rcases h.new i _ hi rfl hr with ho | ho
   ·exact hq (e ▸ ho)
   ·omega
theorem cut_cap (need old : Nat) (e : TypeId) (t : Nat) : (Question.appendCap need old e).cut t = need + t % (2 ^ 63 - need) := rfl
theorem convT_ok (h : RelL C.gl B loc fm n tm lk a w) (hd : ∀ d, o.dst = some d → d < n) {s t : TypeId} {x : Operand} {e : Eff} (hnb : ∀ b, (nid, b) ∈ e.puts → lk nid = none) (ho : o.op = .convert s t x) (he : (convT C lk nid s t (ev C tm x)).is e) :
  Does C.P o a w (Post C B n tm lk a o.dst e) := by
 have hx := h.ev x
 generalize ev C tm x = X at *
 unfold convT at he
 split at he
 ·rename_i k0 k l k1 m hs ht
  obtain ⟨ex, wx⟩ := VR_int hx
  rw [is_ret] at he
  subst he
  first | (have hn := hnb _ (List.mem_cons_self ..)) | (have hn := hnb _ (List.mem_append_right _ (List.mem_cons_self ..))) | skip
  exact does_pure h hd (x := .int k (k.wrap m)) (by simp [execOp, ho, ex, convert, run_underlying hs, run_underlying ht, Conv.intToInt]) ⟨rfl, wf_wrap' _ _⟩
 ·rename_i l b hs ht
  obtain ⟨ex, wx⟩ := VR_str hx
  rw [is_ret] at he
  subst he
  first | (have hn := hnb _ (List.mem_cons_self ..)) | (have hn := hnb _ (List.mem_append_right _ (List.mem_cons_self ..))) | skip
  exact does_pure h hd (x := .string (baOf b)) (by simp [execOp, ho, ex, convert, run_underlying hs, run_underlying ht]) ⟨rfl, wx⟩
 ·rename_i el l b hs ht
  obtain ⟨ex, wx⟩ := VR_str hx
  split at he
  ·rename_i h8
   have h8 := intT_ok h8
   obtain ⟨hl, he⟩ := Tr.is_ob.1 he
   replace he := (Tr.is_leaf.1 he).symm
   subst he
   first | (have hn := hnb _ (List.mem_cons_self ..)) | (have hn := hnb _ (List.mem_append_right _ (List.mem_cons_self ..))) | skip
   obtain ⟨cap, hcap⟩ : ∃ cap, cap = (Question.appendCap b.length 0 el).cut (w.tape w.drawn (.appendCap b.length 0 el)) := ⟨_, rfl⟩
   have hc1 : b.length ≤ cap ∧ cap < lim63 := by
    rw [hcap, cut_cap]
    unfold lim63 at hl ⊢
    have hp : 0 < 2 ^ 63 - b.length := by omega
    have := Nat.mod_lt (w.tape w.drawn (.appendCap b.length 0 el)) hp
    omega
   have hcells : ((baOf b).data.map (fun q => Value.int .u8 q.toNat) ++ Array.replicate (cap - b.length) (Value.int .u8 0)) = (iv .u8 b ++ iv .u8 (List.replicate (cap - b.length) 0)).toArray := by
    apply Array.toList_inj.1
    rw [Array.toList_append, bsOf_map b wx]
    simp [iv]
   have hcl : (iv .u8 b ++ iv .u8 (List.replicate (cap - b.length) 0)).length = cap := by
    rw [List.length_append, iv_length, iv_length, List.length_replicate]
    omega
   have hwb : wfs .u8 b := fun y hy => wf_u8.2 (wx y hy)
   let w1 : World := { w with drawn := w.drawn + 1, heap := w.heap.push (.cells (iv .u8 b ++ iv .u8 (List.replicate (cap - b.length) 0)).toArray el) }
   have hrun : (execOp a.eval o).run C.P w = .ok (.value (.slice (some ⟨w.heap.size, 0, none⟩) b.length cap)) (w1.freeze ⟨w.heap.size, cap, none⟩ 1) := by
    have hshape : w1.shape? w.heap.size = some (el, cap) := by
     simp [World.shape?, w1, hcl]
    have hch : (choose (.appendCap b.length 0 el)).run C.P w = .ok cap { w with drawn := w.drawn + 1 } := by
     rw [hcap]
     simp [choose, Sem.run, Question.forced]
    have hnr : (newRow el (iv .u8 b ++ iv .u8 (List.replicate (cap - b.length) 0)).toArray).run C.P { w with drawn := w.drawn + 1 } = .ok ⟨w.heap.size, 0, none⟩ w1 := rfl
    have hms : (markStringish ⟨w.heap.size, 0, none⟩).run C.P w1 = .ok () (w1.freeze ⟨w.heap.size, cap, none⟩ 1) := by
     unfold markStringish
     simp [shape, Sem.run, hshape]
    simp only [execOp, ho, ex, convert, run_underlying hs, run_underlying ht, Sem.run_bind, Result.andThen_ok, run_underlying h8, Conv.stringToBytes, baOf_size, hch, hcells, hnr, hms, Sem.run_pure]
   obtain ⟨loc', e1, e2, e3⟩ := h.new_marked hn el [.row l l .u8 b.length b] (iv .u8 b) (iv .u8 (List.replicate (cap - b.length) 0)) (w' := w1.freeze ⟨w.heap.size, cap, none⟩ 1) (fz := (cap, cap + 1)) ⟨_, [], by simp, ⟨rfl, rfl, hwb⟩, rfl⟩ ⟨_, rfl, wfs_zero _ _⟩ (Or.inr (by rw [hcl]; exact ⟨Nat.le_refl _, rfl⟩)) (by
    apply Array.ext_getElem?
    intro q
    simp only [World.freeze, Nat.one_ne_zero, if_false, w1, World.alloc, Array.getElem?_modify, Array.getElem?_push]
    by_cases hq : q = w.heap.size
    ·subst hq
     simp
    ·have : ¬ w.heap.size = q := fun e => hq e.symm
     simp [hq, this]) rfl rfl rfl
   refine Or.inl ⟨_, _, hrun, loc', fm, e3.val o.dst hd (vec_new e1 rfl rfl hc1.1 hc1.2 ?_ rfl (by simp))⟩
   show cap * 1 ≤ _
   rw [hcl, Nat.mul_one]
   exact Nat.le_refl _
  ·exact he.elim
 ·rename_i x' el hs ht
  split at he
  ·rename_i h8 hq
   have h8 := intT_ok h8
   rw [is_ret] at he
   subst he
   first | (have hn := hnb _ (List.mem_cons_self ..)) | (have hn := hnb _ (List.mem_append_right _ (List.mem_cons_self ..))) | skip
   obtain ⟨cs, q1, q2, q3⟩ := sqOf_ok h.heap hx hq
   have q1 : cs = [] := q1
   subst q1
   obtain ⟨ad, c, ex, hl⟩ := Reads.load (C := C) q3
   refine does_pure h hd (x := .string (baOf [])) ?_ ⟨rfl, fun y hy => by cases hy⟩
   cases ad with
   | none => simp [execOp, ho, ex, lenSq, run_convert_bytes_string w s t el _ _ _ hs h8 ht, Conv.bytesToString]; rfl
   | some b0 =>
    have hl0 : (loadCells b0 0).run C.P w = .ok (([] : List Int).map (Value.int .u8)).toArray w := hl b0 rfl
    simp [execOp, ho, ex, lenSq, run_convert_bytes_string w s t el _ _ _ hs h8 ht, run_bytesToString w _ _ c _ hl0]
    rfl
  ·rename_i ln lc xs h8 hq
   have h8 := intT_ok h8
   rw [is_ret] at he
   subst he
   first | (have hn := hnb _ (List.mem_cons_self ..)) | (have hn := hnb _ (List.mem_append_right _ (List.mem_cons_self ..))) | skip
   obtain ⟨cs, ⟨q1, q1'⟩, q2, q3⟩ := sqOf_ok h.heap hx hq
   subst q1
   obtain ⟨ad, c, ex, hl⟩ := Reads.load (C := C) q3
   have hb : bytes xs := fun y hy => wf_u8.1 (q1' y hy)
   have hfold : ∀ (l : List Int) (r : ByteArray), l.foldl (fun r n => r.push (UInt8.ofNat n.toNat)) r = r ++ baOf l := by
    intro l
    induction l with
    | nil =>
     intro r
     apply ByteArray.ext
     simp [baOf]
    | cons y l ih =>
     intro r
     rw [List.foldl_cons, ih]
     apply ByteArray.ext
     simp [baOf, ByteArray.push]
   refine does_pure h hd (x := .string (baOf xs)) ?_ ⟨rfl, hb⟩
   cases ad with
   | none =>
    have h0 : xs = [] := by
     obtain ⟨ad', c', e1, _, _, e2⟩ := q3
     rw [ex, Value.slice.injEq] at e1
     obtain ⟨rfl, _, rfl⟩ := e1
     rcases e2 with e2 | ⟨b, o', e3, _⟩
     ·apply List.length_eq_zero_iff.1
      have := congrArg List.length e2
      rwa [iv_length] at this
     ·cases e3
    subst h0
    simp [execOp, ho, ex, lenSq, run_convert_bytes_string w s t el _ _ _ hs h8 ht, Conv.bytesToString]
    rfl
   | some b0 =>
    have hl0 : (loadCells b0 xs.length).run C.P w = .ok (xs.map (Value.int .u8)).toArray w := by
     have := hl b0 rfl
     rwa [iv_length] at this
    have he0 : ByteArray.empty ++ baOf xs = baOf xs := by
     apply ByteArray.ext
     simp
    simp [execOp, ho, ex, lenSq, run_convert_bytes_string w s t el _ _ _ hs h8 ht, run_bytesToString w _ _ c _ hl0, hfold, he0]
  ·exact he.elim
 ·rename_i el0 el id hs ht
  split at he
  ·rename_i own_ ln lc k0 m xs h8 hb
   have h8 := intT_ok h8
   replace he := Tr.is_gd.1 he
   obtain ⟨hst, he⟩ := he
   have hst := Nat.eq_of_beq_eq_true hst
   subst hst
   replace he := Tr.is_lt.1 he
   obtain ⟨hm, he⟩ := he
   rw [is_ret] at he
   subst he
   obtain ⟨ad, c, ex, e1, e2, e3, e4⟩ := VR_vec hx
   obtain ⟨cs, k1, k2, _⟩ := cells_at h.heap hb
   have hc : (loc id).cnt 0 = m := by rw [k2.cnt]; rfl
   rw [hs] at ht
   cases ht
   rcases e3 with e3 | ⟨rfl, e5, e6⟩
   ·omega
   ·obtain ⟨cs', _, _, h3⟩ := h.heap.ok id _ hb
    rw [e6] at h3
    obtain ⟨rest, fz, f1, f2, _⟩ := h3
    let w1 : World := w.freeze ⟨(loc id).blk, (cs' ++ rest).length, none⟩ 1
    have hms : (markStringish ⟨(loc id).blk, 0, none⟩).run C.P w = .ok () w1 := by
     unfold markStringish
     have hshape : w.shape? (loc id).blk = some (own_, (cs' ++ rest).length) := by
      simp [World.shape?, f1]
     simp [shape, Sem.run, hshape, w1]
    have hrun : (execOp a.eval o).run C.P w = .ok (.value (.slice (some ⟨(loc id).blk, 0, none⟩) ((loc id).cnt 0) c)) w1 := by
     simp only [execOp, ho, ex, convert, run_underlying hs, Sem.run_bind, Result.andThen_ok, run_underlying h8, beq_self_eq_true, hms, Sem.run_pure]
    have hmod : w1.heap = w.heap.modify (loc id).blk (fun
      | .cells c elem (lo, hi) => .cells c elem (if lo == hi then ((cs' ++ rest).length, (cs' ++ rest).length + 1) else (min lo (cs' ++ rest).length, max hi ((cs' ++ rest).length + 1)))
      | o => o) := by
     simp [w1, World.freeze]
     rfl
    refine Or.inl ⟨_, _, hrun, loc, fm, (h.marked hb e6 (w' := w1) (fun cs2 fz2 hq hfree => ?_) (fun k hk => ?_) ?_ rfl rfl rfl).val o.dst hd ⟨_, c, rfl, e1, e2, Or.inr ⟨rfl, e5, e6⟩, e4⟩⟩
    ·obtain ⟨lo, hi'⟩ := fz2
     refine ⟨_, by rw [hmod, Array.getElem?_modify, if_pos rfl, hq]; rfl, ?_⟩
     have hsz : cs2.size = (cs' ++ rest).length := by
      rw [f1] at hq
      simp only [Option.some.injEq, Obj.cells.injEq] at hq
      rw [← hq.1]
      simp
     rw [hsz] at hfree ⊢
     unfold Free at hfree ⊢
     simp only at hfree ⊢
     split
     ·right; exact ⟨Nat.le_refl _, rfl⟩
     ·rename_i hne
      have hne : ¬ lo = hi' := fun e => hne (by simp [e])
      rcases hfree with hf | hf
      ·exact absurd hf hne
      ·right
       refine ⟨?_, rfl⟩
       simp only
       omega
    ·rw [hmod, Array.getElem?_modify, if_neg (fun e => hk e.symm)]
    ·rw [hmod, Array.size_modify]
  ·exact he.elim
 ·exact he.elim
end
end
section
section
variable {C : Ctx} {n nid : Nat} {w : World} {B : Base} {loc : Loc} {fm : Fm} {tm : Nat → A} {lk : Lk} {a : Act} {o : Oper}
theorem Reads.heap {w' : World} (hh : w'.heap = w.heap) {m : Nat} {cs : List Value} {v : Value} (h : Reads w m cs v) : Reads w' m cs v := by
 obtain ⟨ad, c, e1, e2, e3, e4⟩ := h
 refine ⟨ad, c, e1, e2, e3, ?_⟩
 rcases e4 with e4 | ⟨b, o, f1, ⟨l, t, fz, f2⟩, f3⟩
 ·exact Or.inl e4
 ·exact Or.inr ⟨b, o, f1, ⟨l, t, fz, by rw [hh]; exact f2⟩, fun q u hq => by
   have := f3 q u hq
   simpa [World.cell?, hh] using this⟩
theorem Reads.first {P : Program} {m k sz : Nat} {cs : List Value} {v : Value} (h : Reads w m cs v) (hl : cs.length = m * sz) (hk : k ≤ m) : (Builtin.firstCells sz k v).run P w = .ok (cs.take (k * sz)).toArray w := by
 obtain ⟨ad, c, rfl, e2, e3, e4⟩ := h
 have hlen : (cs.take (k * sz)).length = k * sz := by rw [List.length_take, hl]; exact Nat.min_eq_left (Nat.mul_le_mul_right _ hk)
 cases ad with
 | none =>
  have : cs = [] := by
   rcases e4 with e4 | ⟨b, o, e5, _⟩
   ·exact e4
   ·cases e5
  subst this
  simp [Builtin.firstCells]
 | some b =>
  have := run_loadCells_list (P := P) w b (cs.take (k * sz)) (fun j u hj => by
   rcases e4 with e4 | ⟨b', o', f1, _, f2⟩
   ·rw [e4] at hj; simp at hj
   ·rw [Option.some.injEq] at f1
    subst f1
    rw [Addr.add_lit]
    apply f2
    rw [List.getElem?_take] at hj
    split at hj
    ·exact hj
    ·cases hj)
  rw [hlen] at this
  simpa [Builtin.firstCells] using this
theorem Reads.len {P : Program} {m : Nat} {cs : List Value} {v : Value} (h : Reads w m cs v) : (Builtin.lenOf v).run P w = .ok m w := by
 obtain ⟨ad, c, rfl, _⟩ := h
 simp [Builtin.lenOf]
theorem run_append_room {P : Program} {t e ty : TypeId} {sz : Nat} (hu : P.underlying t = some (.slice e)) (hs : sizeT P e = some sz) {ad : Option Addr} {len cap m : Nat} {y : Value} {news : List Value} {w1 : World} (hy : Reads w m news y) (hl : news.length = m * sz)
  (hroom : len + m ≤ cap) (hst : ∀ b, ad = some b → (storeCells (b.add (len * sz)) news 0).run P w = .ok () w1) (hno : ad = none → w1 = w) :
  (Builtin.append_ #[t, t] ty #[.slice ad len cap, y]).run P w = .ok (.slice ad (len + m) cap) w1 := by
 have hf := hy.first (P := P) hl (Nat.le_refl m)
 rw [List.take_of_length_le (by omega)] at hf
 have hlen := hy.len (P := P)
 cases ad with
 | none =>
  have := hno rfl
  subst this
  simp [Builtin.append_, run_underlying hu, run_sizeOf' hs, hlen, hroom, hf]
 | some b =>
  have := hst b rfl
  simp [Builtin.append_, run_underlying hu, run_sizeOf' hs, hlen, hroom, hf, this]
theorem run_append_grow' {P : Program} {t e ty : TypeId} {i : TypeInfo} {z : Value} (hu : P.underlying t = some (.slice e)) (hi : P.info? e = some i) (hz : i.zero = some z) {ad : Option Addr} {len cap m : Nat} {y : Value} {olds news : List Value} (hx : Reads w len olds (.slice ad len cap)) (hlo : olds.length = len * i.size)
  (hy : Reads w m news y) (hl : news.length = m * i.size) (hg : cap < len + m) (h63 : len + m < lim63) (hfit : Builtin.nextslicecap (len + m) cap * i.bytes ≤ 281474976710656) :
  (Builtin.append_ #[t, t] ty #[.slice ad len cap, y]).run P w = .ok (.slice (some ⟨w.heap.size, 0, none⟩) (len + m) (grownCap w (len + m) cap e))
    (w.drew.alloc (.cells (olds.toArray ++ news.toArray ++ Builtin.zeroCells z.cells (grownCap w (len + m) cap e - (len + m))) e)) := by
 have hs : sizeT P e = some i.size := by simp [sizeT, hi]
 have hn : ¬ (len + m ≤ cap) := by omega
 have hlen := hy.len (P := P)
 have hfo := (hx.heap (w' := w.drew) rfl).first (P := P) hlo (Nat.le_refl len)
 have hfn := (hy.heap (w' := w.drew) rfl).first (P := P) hl (Nat.le_refl m)
 rw [List.take_of_length_le (by omega)] at hfo hfn
 have h63' : ¬ (9223372036854775807 < ((len : Int) + (m : Int))) := by unfold lim63 at h63; omega
 have h48' : ¬ (281474976710656 < Builtin.nextslicecap (len + m) cap * i.bytes) := by omega
 have hq : Question.forced (.appendCap (len + m) cap e) = false := rfl
 simp [Builtin.append_, run_underlying hu, sizeOf, typeInfo, hi, zeroValue, hz, hlen, hn, h63', h48', hfo, hfn, newRow, grownCap, run_askRoom, hq]
 congr 2
 apply Array.ext'
 simp [List.append_assoc]
theorem RelL.newVirtual (h : RelL C.gl B loc fm n tm lk a w) {nid : Nat} (hn : lk nid = none) (t : TypeId) (ps : List Pc) (hps : PcsOk loc fm lk ps []) :
  ∃ loc', loc' nid = (⟨0, baseL ps, stL ps, cntL ps, 0, false⟩ : Spot) ∧ (∀ i, i ≠ nid → loc' i = loc i) ∧
   RelL C.gl B loc' fm n tm (fun j => if j = nid then some (.cells true t ps) else lk j) a w := by
 have hp : ∀ i, (lk i).isSome = true → i ≠ nid := fun i hi e => by rw [e, hn] at hi; cases hi
 have hle : Le loc (fun i => if i = nid then (⟨0, baseL ps, stL ps, cntL ps, 0, false⟩ : Spot) else loc i) fm fm lk (fun j => if j = nid then some (.cells true t ps) else lk j) :=
  ⟨fun i hi => ⟨by simp [hp i hi], by simp [hp i hi, hi]⟩, fun _ _ h => h⟩
 refine ⟨_, by simp, fun i hi => by simp [hi], h.step hle (fun g c hg => ?_) ⟨fun i c hc => ?_, fun i c hc => ?_, h.heap.fm⟩ (fun i c hc hm hr => ?_) h.fr⟩
 ·have := (h.glob g c hg).2
  rw [if_neg (hp g (by rw [this]; rfl))]
  exact this
 ·by_cases hi : i = nid
  ·subst hi
   simp only [if_true, Option.some.injEq] at hc
   subst hc
   exact ⟨[], PcsOk.mono hle _ _ hps, by simp only [if_true]; exact ⟨rfl, rfl, rfl⟩, by simp only [if_true]⟩
  ·simp only [hi, if_false] at hc
   exact BlkOk.mono hle (by simp [hi]) (fun _ _ => rfl) (h.heap.ok i c hc)
 ·intro hm hr
  by_cases hi : i = nid
  ·subst hi
   simp only [if_true] at hr
   cases hr
  ·simp only [hi, if_false] at hc hr ⊢
   obtain ⟨a1, a2⟩ := h.heap.alone i c hc hm hr
   refine ⟨a1, fun i' b' hne hb' hl hr' => ?_⟩
   by_cases hi' : i' = nid
   ·subst hi'
    simp only [if_true] at hr'
    cases hr'
   ·simp only [hi', if_false] at hb' hr' ⊢
    exact a2 i' b' hne hb' hl hr'
 ·by_cases hi : i = nid
  ·subst hi
   simp only [if_true] at hr
   cases hr
  ·simp only [hi, if_false] at hc hr ⊢
   exact h.new i c hc hm hr
def Kin : Pc → Pc → Prop
 | .row _ _ k _ _, .row _ _ k' _ _ => k = k'
 | .lst _ c _ _, .lst _ c' _ _ => c = c'
 | _, _ => False
theorem Kin.rest {p q : Pc} (h : Kin p q) {r : List Value} (hr : RestOk fm [p] r) : RestOk fm [q] r := by
 cases p <;> cases q <;> simp only [Kin] at h
 ·subst h; exact hr
 ·subst h; exact hr
theorem Kin.lst {p q : Pc} (h : Kin p q) : lstB [q] = lstB [p] := by
 cases p <;> cases q <;> first | (cases h; done) | rfl
theorem Kin.st {p q : Pc} (h : Kin p q) : stOf p = stOf q := by
 cases p <;> cases q <;> simp only [Kin] at h
 ·rfl
 ·subst h; rfl
theorem Kin.drop {p q : Pc} (h : Kin p q) {r : List Value} (m : Nat) (hr : RestOk fm [p] r) : RestOk fm [q] (r.drop (m * stOf q)) := by
 cases p <;> cases q <;> simp only [Kin] at h
 ·subst h
  obtain ⟨ys, rfl, hw⟩ := hr
  exact ⟨ys.drop (m * 1), by simp [stOf, iv, List.map_drop], fun x hx => hw x (List.mem_of_mem_drop hx)⟩
 ·subst h
  rename_i c _ _ _ _ _
  obtain ⟨ys, hy⟩ := hr
  refine ⟨ys.drop m, ?_⟩
  have := Els.sub ys m ys.length r hy
  rw [List.take_of_length_le (by simp), List.take_of_length_le (by rw [List.length_drop, Els.length _ _ hy]; omega)] at this
  exact this
theorem wfs_append {k : IntKind} {xs ys : List Int} (h : wfs k xs) (h' : wfs k ys) : wfs k (xs ++ ys) := fun x hx => by
 rcases List.mem_append.1 hx with hx | hx
 ·exact h x hx
 ·exact h' x hx
def sqKin (p : Pc) : Sq → Prop
 | .nil => True
 | .ints ln lc k xs => Kin (.row ln lc k xs.length xs) p
 | .els ln c xs => Kin (.lst ln c xs.length xs) p
theorem catSq_ok {e : TypeId} {x y : Sq} {ln : Bool} {m : Nat} {p : Pc} {c d : List Value} (h : catSq C e x y = some (ln, m, p)) (hx : SqC fm x c) (hy : SqC fm y d) (hlx : c.length = lenSq x * wSq x) (hly : d.length = lenSq y * wSq y) :
  PcsOk loc fm lk [p] (c ++ d) ∧ m = lenSq x + lenSq y ∧ cntOf p = m ∧ c.length = lenSq x * stOf p ∧ d.length = lenSq y * stOf p ∧ sqKin p x ∧ (∀ q, zeroSq C e true 0 = some q → Kin q p) := by
 unfold catSq at h
 split at h
 ·rename_i k hk
  have hz : ∀ (l l' : Bool) (mm : Nat) (zs : List Int) q, zeroSq C e true 0 = some q → Kin q (.row l l' k mm zs) := by
   intro l l' mm zs q hq
   simp only [zeroSq, hk] at hq
   repeat' split at hq
   all_goals first
    | (cases hq; done)
    | (simp only [Option.some.injEq] at hq; subst hq; exact rfl)
  split at h
  ·simp only [Option.some.injEq, Prod.mk.injEq] at h
   obtain ⟨_, rfl, rfl⟩ := h
   rw [show c = [] from hx, show d = [] from hy]
   exact ⟨⟨[], [], rfl, ⟨rfl, rfl, fun x hx => by cases hx⟩, rfl⟩, rfl, rfl, rfl, rfl, trivial, hz _ _ _ _⟩
  ·split at h
   ·rename_i l1 l2 k' ys _ hkk
    have hkk := of_decide_eq_true hkk
    subst hkk
    simp only [Option.some.injEq, Prod.mk.injEq] at h
    obtain ⟨_, rfl, rfl⟩ := h
    obtain ⟨rfl, hw⟩ := hy
    rw [show c = [] from hx]
    exact ⟨⟨iv k' ys, [], by simp, ⟨rfl, rfl, hw⟩, rfl⟩, by simp [lenSq], rfl, by simp [lenSq], by simp [lenSq, stOf, iv_length], trivial, hz _ _ _ _⟩
   ·cases h
  ·split at h
   ·rename_i l1 l2 k' ys _ hkk
    have hkk := of_decide_eq_true hkk
    subst hkk
    simp only [Option.some.injEq, Prod.mk.injEq] at h
    obtain ⟨_, rfl, rfl⟩ := h
    obtain ⟨rfl, hw⟩ := hx
    rw [show d = [] from hy]
    exact ⟨⟨iv k' ys, [], by simp, ⟨rfl, rfl, hw⟩, rfl⟩, by simp [lenSq], rfl, by simp [lenSq, stOf, iv_length], by simp [lenSq], rfl, hz _ _ _ _⟩
   ·cases h
  ·split at h
   ·rename_i l1 l2 k' xs l3 l4 k'' ys _ hkk
    simp only [Bool.and_eq_true] at hkk
    have hk1 := of_decide_eq_true hkk.1
    have hk2 := of_decide_eq_true hkk.2
    subst hk1 hk2
    simp only [Option.some.injEq, Prod.mk.injEq] at h
    obtain ⟨_, rfl, rfl⟩ := h
    obtain ⟨rfl, hw⟩ := hx
    obtain ⟨rfl, hw'⟩ := hy
    exact ⟨⟨iv k'' (xs ++ ys), [], by simp [iv], ⟨rfl, rfl, wfs_append hw hw'⟩, rfl⟩, by simp [lenSq], rfl, by simp [lenSq, stOf, iv_length], by simp [lenSq, stOf, iv_length], rfl, hz _ _ _ _⟩
   ·cases h
  ·cases h
 ·rename_i hk
  split at h
  ·rename_i cd hcd
   have hz : ∀ (l : Bool) (mm : Nat) (zs : List cd.T) q, zeroSq C e true 0 = some q → Kin q (.lst l cd mm zs) := by
    intro l mm zs q hq
    simp only [zeroSq, hk, hcd] at hq
    repeat' split at hq
    all_goals first
     | (cases hq; done)
     | (simp only [Option.some.injEq] at hq; subst hq; exact rfl)
   split at h
   ·simp only [Option.some.injEq, Prod.mk.injEq] at h
    obtain ⟨_, rfl, rfl⟩ := h
    rw [show c = [] from hx, show d = [] from hy]
    exact ⟨⟨[], [], rfl, ⟨rfl, rfl⟩, rfl⟩, rfl, rfl, by simp [lenSq], by simp [lenSq], trivial, hz _ _ _⟩
   ·split at h
    ·rename_i l1 c' ys hcc _
     subst hcc
     simp only [Option.some.injEq, Prod.mk.injEq] at h
     obtain ⟨_, rfl, rfl⟩ := h
     rw [show c = [] from hx, List.nil_append]
     exact ⟨⟨d, [], by simp, ⟨hy, rfl⟩, rfl⟩, by simp [lenSq], rfl, by simp [lenSq], hly, trivial, hz _ _ _⟩
    ·cases h
   ·split at h
    ·rename_i l1 c' ys hcc _
     subst hcc
     simp only [Option.some.injEq, Prod.mk.injEq] at h
     obtain ⟨_, rfl, rfl⟩ := h
     rw [show d = [] from hy, List.append_nil]
     exact ⟨⟨c, [], by simp, ⟨hx, rfl⟩, rfl⟩, by simp [lenSq], rfl, hlx, by simp [lenSq], rfl, hz _ _ _⟩
    ·cases h
   ·split at h
    ·rename_i l1 c' xs l2 c'' ys hcc hcc' _ _
     subst hcc hcc'
     simp only [Option.some.injEq, Prod.mk.injEq] at h
     obtain ⟨_, rfl, rfl⟩ := h
     exact ⟨⟨c ++ d, [], by simp, ⟨Els.join _ _ _ _ hx hy, by simp⟩, rfl⟩, rfl, rfl, hlx, hly, rfl, hz _ _ _⟩
    ·cases h
   ·cases h
  ·cases h
theorem VD.ones {d : D} {cs : List Value} (h : VD fm d cs) : ∀ u ∈ cs, u.oneCell' = true := by
 cases d with
 | int k n => rw [show cs = _ from h.1]; simp [Value.oneCell']
 | bool b => rw [show cs = _ from h]; simp [Value.oneCell']
 | arr k n xs =>
  rw [h.1]
  intro u hu
  obtain ⟨x, _, rfl⟩ := List.mem_map.1 hu
  rfl
 | nil => rw [show cs = _ from h]; simp [Value.oneCell']
 | ints k xs => obtain ⟨v, rfl, _, ad, c, rfl, _⟩ := h; simp [Value.oneCell']
 | rngs xs => obtain ⟨v, rfl, _, ad, c, rfl, _⟩ := h; simp [Value.oneCell']
 | toks xs => obtain ⟨v, rfl, _, ad, c, rfl, _⟩ := h; simp [Value.oneCell']
theorem VDs.ones : ∀ (ds : List D) (cs : List Value), VDs fm ds cs → ∀ u ∈ cs, u.oneCell' = true
 | [], cs, h, u, hu => by rw [show cs = [] from h] at hu; cases hu
 | d :: ds, cs, ⟨c1, c2, e, h1, h2⟩, u, hu => by
  rw [e] at hu
  rcases List.mem_append.1 hu with hu | hu
  ·exact h1.ones u hu
  ·exact VDs.ones ds c2 h2 u hu
theorem Els.ones {c : Cd} : ∀ (xs : List c.T) (cs : List Value), Els fm c xs cs → ∀ u ∈ cs, u.oneCell' = true
 | [], cs, h, u, hu => by rw [show cs = [] from h] at hu; cases hu
 | x :: xs, cs, ⟨c1, c2, e, h1, _, h2⟩, u, hu => by
  rw [e] at hu
  rcases List.mem_append.1 hu with hu | hu
  ·exact VDs.ones _ _ h1 u hu
  ·exact Els.ones xs c2 h2 u hu
theorem SqC.ones {y : Sq} {cs : List Value} (h : SqC fm y cs) : ∀ u ∈ cs, u.oneCell' = true := by
 cases y with
 | nil => intro u hu; rw [show cs = [] from h] at hu; cases hu
 | ints l1 l2 k xs =>
  rw [h.1]
  intro u hu
  obtain ⟨x, _, rfl⟩ := List.mem_map.1 hu
  rfl
 | els ln c xs => exact Els.ones xs cs h
theorem roomT_ok {l : Bool} {m b : Nat} {t : Tr Eff} {e : Eff} (h : (roomT l m b t).is e) : (m * b ≤ 140737488355328 ∧ m < lim63) ∧ t.is e := by
 cases l with
 | true =>
  replace h := Tr.is_gd.1 h
  simp only [Bool.and_eq_true] at h
  exact ⟨⟨Nat.le_of_ble_eq_true h.1.1, Nat.lt_of_succ_le (Nat.le_of_ble_eq_true h.1.2)⟩, h.2⟩
 | false => exact Tr.is_ob.1 h
end
end
section
section
variable {C : Ctx} {n nid : Nat} {w : World} {B : Base} {loc : Loc} {fm : Fm} {tm : Nat → A} {lk : Lk} {a : Act} {o : Oper}
theorem does_builtin {b : Builtin} {c : Call} (ho : o.op = .call c) (hc : c.callee = .builtin b) :
  ∃ consts, (execOp a.eval o).run C.P w = (builtin b c.argTypes o.type consts (c.args.map a.eval)).run C.P w :=
 ⟨_, by simp [execOp, ho, resolve, hc, invoke]; rfl⟩
theorem zeroCells_toList (z : Array Value) (m : Nat) : (Builtin.zeroCells z m).toList = (List.replicate m z.toList).flatten := zeros_flat z m
structure Src (P : Program) (w : World) (t t2 : TypeId) (sz m : Nat) (news : List Value) (y : Value) : Prop where
 room : ∀ (ty : TypeId) (ad : Option Addr) (len cap : Nat) (w1 : World), len + m ≤ cap → (∀ b, ad = some b → (storeCells (b.add (len * sz)) news 0).run P w = .ok () w1) → (ad = none → w1 = w) →
  (Builtin.append_ #[t, t2] ty #[.slice ad len cap, y]).run P w = .ok (.slice ad (len + m) cap) w1
 grow : ∀ (e ty : TypeId) (i : TypeInfo) (z : Value) (ad : Option Addr) (len cap : Nat) (olds : List Value), P.underlying t = some (.slice e) → P.info? e = some i → i.zero = some z → Reads w len olds (.slice ad len cap) → olds.length = len * i.size → cap < len + m → len + m < lim63 →
  Builtin.nextslicecap (len + m) cap * i.bytes ≤ 281474976710656 → (Builtin.append_ #[t, t2] ty #[.slice ad len cap, y]).run P w = .ok (.slice (some ⟨w.heap.size, 0, none⟩) (len + m) (grownCap w (len + m) cap e))
    (w.drew.alloc (.cells (olds.toArray ++ news.toArray ++ Builtin.zeroCells z.cells (grownCap w (len + m) cap e - (len + m))) e))
theorem Src.reads {P : Program} {w : World} {t e : TypeId} {sz m : Nat} {news : List Value} {y : Value} (hu : P.underlying t = some (.slice e)) (hs : sizeT P e = some sz) (hy : Reads w m news y) (hl : news.length = m * sz) : Src P w t t sz m news y :=
 ⟨fun ty ad len cap w1 h1 h2 h3 => run_append_room hu hs hy hl h1 h2 h3, fun e' ty i z ad len cap olds hu' hi hz hx hlo hg h63 hfit => by
  rw [hu] at hu'
  cases hu'
  have : i.size = sz := by simpa [sizeT, hi] using hs
  exact run_append_grow' hu hi hz hx hlo hy (by rw [hl, this]) hg h63 hfit⟩
theorem Src.zeros {P : Program} {w : World} {t t2 e : TypeId} {k : IntKind} {i : TypeInfo} {z : Value} {n : Int} (hu : P.underlying t = some (.slice e)) (hu2 : P.underlying t2 = some (.int k)) (hi : P.info? e = some i) (hz : i.zero = some z) (hzs : i.size = z.cells.size) (h0 : 0 ≤ n) (h1 : n < 9223372036854775808) (hb : n * (i.bytes : Int) ≤ 281474976710656) :
  Src P w t t2 i.size n.toNat (List.replicate n.toNat z.cells.toList).flatten (.int .i64 n) := by
 have hs : sizeT P e = some i.size := by simp [sizeT, hi]
 have hw : IntKind.i64.wrap n = n := wf_i64.2 ⟨by omega, by omega⟩
 have hn0 : ¬ n < 0 := by omega
 have hnb : ¬ (281474976710656 < n * (i.bytes : Int)) := by omega
 have hzc : Builtin.zeroCells z.cells n.toNat = (List.replicate n.toNat z.cells.toList).flatten.toArray := by
  apply Array.toList_inj.1
  rw [zeroCells_toList]
 have hz0 : n.toNat * i.size = 0 → (List.replicate n.toNat z.cells.toList).flatten = [] := fun h => by
  apply List.length_eq_zero_iff.1
  rw [flatten_rep_length, Array.length_toList, ← hzs]
  exact h
 constructor
 ·intro ty ad len cap w1 h1' h2 h3
  have hle : len + n.toNat ≤ cap := h1'
  by_cases hzz : n.toNat * i.size = 0
  ·have hnil := hz0 hzz
   rw [hnil] at h2
   cases ad with
   | none =>
    have := h3 rfl
    subst this
    simp [Builtin.append_, run_underlying hu, run_underlying hu2, run_sizeOf' hs, typeInfo, hi, asIntOf, asInt, hw, hn0, hnb, hle, hzz]
   | some b =>
    have := h2 b rfl
    simp [Builtin.append_, run_underlying hu, run_underlying hu2, run_sizeOf' hs, typeInfo, hi, asIntOf, asInt, hw, hn0, hnb, hle, hzz, this]
  ·cases ad with
   | none =>
    have := h3 rfl
    subst this
    simp [Builtin.append_, run_underlying hu, run_underlying hu2, run_sizeOf' hs, typeInfo, hi, asIntOf, asInt, hw, hn0, hnb, hle, hzz, zeroValue, hz]
   | some b =>
    have := h2 b rfl
    simp [Builtin.append_, run_underlying hu, run_underlying hu2, run_sizeOf' hs, typeInfo, hi, asIntOf, asInt, hw, hn0, hnb, hle, hzz, zeroValue, hz, hzc, this]
 ·intro e' ty i' z' ad len cap olds hu' hi' hz' hx hlo hg h63 hfit
  rw [hu] at hu'
  cases hu'
  rw [hi] at hi'
  cases hi'
  rw [hz] at hz'
  cases hz'
  have hn : ¬ (len + n.toNat ≤ cap) := by omega
  have hfo := (hx.heap (w' := w.drew) rfl).first (P := P) hlo (Nat.le_refl len)
  rw [List.take_of_length_le (by omega)] at hfo
  have h63' : ¬ (9223372036854775807 < ((len : Int) + (n.toNat : Int))) := by unfold lim63 at h63; omega
  have h63'' : ¬ (9223372036854775807 < ((len : Int) + max n 0)) := by unfold lim63 at h63; omega
  have h48' : ¬ (281474976710656 < Builtin.nextslicecap (len + n.toNat) cap * i.bytes) := by omega
  have hq : Question.forced (.appendCap (len + n.toNat) cap e) = false := rfl
  by_cases hzz : n.toNat * i.size = 0
  ·have hnil := hz0 hzz
   rw [hnil]
   simp [Builtin.append_, run_underlying hu, run_underlying hu2, sizeOf, typeInfo, hi, asIntOf, asInt, hw, hn0, hnb, hn, h63', h63'', h48', hfo, newRow, grownCap, run_askRoom, hq, hzz, zeroValue, hz]
  ·simp [Builtin.append_, run_underlying hu, run_underlying hu2, sizeOf, typeInfo, hi, asIntOf, asInt, hw, hn0, hnb, hn, h63', h63'', h48', hfo, newRow, grownCap, run_askRoom, hq, hzz, zeroValue, hz, hzc]
   congr 2
   apply Array.ext'
   simp [List.append_assoc]
theorem grow_ok (h : RelL C.gl B loc fm n tm lk a w) (hn : lk nid = none) {e : TypeId} {q p : Pc} {olds news : List Value} {u m cap : Nat} {i : TypeInfo}
  (hz : zeroSq C e true 0 = some q) (hk : Kin q p) (hi : C.P.info? e = some i) (hst : stOf p = i.size) (hp : PcsOk loc fm lk [p] (olds ++ news)) (hlo : olds.length = u * stOf p) (hln : news.length = m * stOf p) (hcnt : cntOf p = u + m)
  (hg : cap < u + m) (h63 : u + m < lim63) (hb : (u + m) * i.bytes ≤ 140737488355328) {t t2 ty : TypeId} (hu : C.P.underlying t = some (.slice e)) {x y : Value} {ad : Option Addr} (ex : x = .slice ad u cap) (hx : Reads w u olds x) (hy : Src C.P w t t2 i.size m news y) :
  ∃ W v, (Builtin.append_ #[t, t2] ty #[x, y]).run C.P w = .ok v W ∧ ∃ loc', (∀ i, i ≠ nid → loc' i = loc i) ∧ (∀ lk', (lk' nid).isSome = true → VR loc' fm lk' (.vec nid) v) ∧
   RelL C.gl B loc' fm n tm (fun j => if j = nid then some (.cells true e [p]) else lk j) a W := by
 obtain ⟨i', z, hi', hzz, _, q2, _, q4, q5⟩ := zeroSq_ok (loc := loc) (fm := fm) (lk := lk) hz
 have e1 : i' = i := Option.some.inj (hi'.symm.trans hi)
 subst e1
 have hr := hk.rest (q2 (grownCap w (u + m) cap e - (u + m)))
 obtain ⟨loc', k1, k2, k3⟩ := (h.other (w' := w.drew) rfl rfl rfl rfl).new_cells hn e [p] (olds ++ news) (List.replicate (grownCap w (u + m) cap e - (u + m)) z.cells.toList).flatten hp hr
 have hrun := hy.grow e ty _ z ad u cap olds hu hi hzz (ex ▸ hx) (by rw [hlo, hst]) hg h63 (growslice_fits hg hb)
 have hge := grownCap_ge w (u + m) cap e
 have hmx : maxLen = 9223372036854775807 := by decide
 have hle := grownCap_le_maxLen w (u + m) cap e (by unfold lim63 at h63; omega)
 have harr : olds.toArray ++ news.toArray ++ Builtin.zeroCells z.cells (grownCap w (u + m) cap e - (u + m)) = (olds ++ news ++ (List.replicate (grownCap w (u + m) cap e - (u + m)) z.cells.toList).flatten).toArray := by
  apply Array.toList_inj.1
  simp [zeroCells_toList]
 rw [harr, ← ex] at hrun
 refine ⟨_, _, hrun, loc', k2, fun lk' hk' => vec_new k1 rfl (by simpa [cntL] using hcnt) hge (by unfold lim63; omega) ?_ rfl hk', k3⟩
 show _ * stOf p ≤ _
 rw [List.length_append, List.length_append, hlo, hln, flatten_rep_length, Array.length_toList, ← q5, ← hst, ← Nat.add_mul, ← Nat.add_mul]
 exact Nat.mul_le_mul_right _ (by omega)
theorem args2 {c : Call} {f : Operand → A} {X Y : A} (h : c.args.toList.map f = [X, Y]) : ∃ x y, c.args = #[x, y] ∧ f x = X ∧ f y = Y := by
 generalize c.args = as at *
 obtain ⟨l⟩ := as
 match l, h with
 | [x, y], h =>
  simp only [List.map_cons, List.map_nil, List.cons.injEq, and_true] at h
  exact ⟨x, y, rfl, h.1, h.2⟩
theorem args1 {c : Call} {f : Operand → A} {X : A} (h : c.args.toList.map f = [X]) : ∃ x, c.args = #[x] ∧ f x = X := by
 generalize c.args = as at *
 obtain ⟨l⟩ := as
 match l, h with
 | [x], h =>
  simp only [List.map_cons, List.map_nil, List.cons.injEq, and_true] at h
  exact ⟨x, rfl, h⟩
theorem zOk_ok {e : TypeId} (h : appendT0.zOk C e = true) : ∃ q, zeroSq C e true 0 = some q := by
 unfold appendT0.zOk at h
 split at h
 ·rename_i q hq
  exact ⟨q, hq⟩
 ·cases h
theorem sqOf_val {vv : Value} {u : Sq} (h : sqOf lk (.val vv) = some u) : vv = .slice none 0 0 ∧ u = .nil := by
 unfold sqOf at h
 split at h
 ·rename_i e
  cases e
  cases h
  exact ⟨rfl, rfl⟩
 all_goals first
  | (rename_i e; cases e; done)
  | (rename_i e _; cases e; done)
  | (cases h; done)
theorem sqOf_vec {id : Nat} {u : Sq} {p : Pc} {own : Bool} {t : TypeId} {ps : List Pc} (h : sqOf lk (.vec id) = some u) (hk : lk id = some (.cells own t ps)) (hp : sqKin p u) :
  ∃ p0, ps = [p0] ∧ Kin p0 p ∧ ∀ loc cs, PcsOk loc fm lk [p0] cs → cntOf p0 = lenSq u → SqC fm u cs ∧ cs.length = lenSq u * wSq u := by
 simp only [sqOf, hk] at h
 split at h
 ·rename_i e
  cases e
  cases h
  refine ⟨_, rfl, by revert hp; cases p <;> exact fun q => q, fun loc cs hcs _ => ?_⟩
  obtain ⟨c1, c2, e, ⟨e1, e2, e3⟩, e4⟩ := hcs
  rw [show c2 = [] from e4, List.append_nil] at e
  subst e
  exact ⟨⟨e1, e3⟩, by rw [e1, iv_length]; simp [lenSq, wSq]⟩
 ·rename_i e
  cases e
  cases h
  refine ⟨_, rfl, by revert hp; cases p <;> exact fun q => q, fun loc cs hcs _ => ?_⟩
  obtain ⟨c1, c2, e, ⟨e1, e2⟩, e4⟩ := hcs
  rw [show c2 = [] from e4, List.append_nil] at e
  subst e
  exact ⟨e1, by rw [Els.length _ _ e1]; simp [lenSq, wSq]⟩
 ·cases h
end
end
section
section
variable {C : Ctx} {n nid : Nat} {w : World} {B : Base} {loc : Loc} {fm : Fm} {tm : Nat → A} {lk : Lk} {a : Act} {o : Oper}
theorem RelL.recell (h : RelL C.gl B loc fm n tm lk a w) {i : Nat} {t : TypeId} {ps ps' : List Pc} (hi : lk i = some (.cells true t ps)) (hg : C.gl.length ≤ i)
  (hc : ∀ cs, PcsOk loc fm lk ps cs → PcsOk loc fm lk ps' cs) (hl : Lies ps (loc i) → Lies ps' (loc i)) (hre : ∀ rest, RestOk fm ps rest → RestOk fm ps' rest) (hlb : lstB ps' = lstB ps) :
  RelL C.gl B loc fm n tm (fun j => if j = i then some (.cells true t ps') else lk j) a w := by
 have hle : Le loc loc fm fm lk (fun j => if j = i then some (.cells true t ps') else lk j) := Le.upd hi
 refine h.step hle (upd_glob h hg) ⟨fun j b hj => ?_, fun j b hj => ?_, h.heap.fm⟩ (fun j b hj hm hrj => ?_) h.fr
 ·by_cases hji : j = i
  ·subst hji
   simp only [if_true, Option.some.injEq] at hj
   subst hj
   obtain ⟨cs, h1, h2, h3⟩ := h.heap.ok j _ hi
   refine ⟨cs, PcsOk.mono hle _ _ (hc cs h1), hl h2, ?_⟩
   revert h3
   cases (loc j).real with
   | false => exact id
   | true =>
    rintro ⟨rest, fz, e1, e2, e3⟩
    exact ⟨rest, fz, e1, fun ho => ⟨hre _ (e2 ho).1, (e2 ho).2.1, by rw [hlb]; exact (e2 ho).2.2⟩, fun ho => by cases ho⟩
  ·simp only [hji, if_false] at hj
   exact BlkOk.mono hle rfl (fun _ _ => rfl) (h.heap.ok j b hj)
 ·intro hm hrj
  by_cases hji : j = i
  ·subst hji
   obtain ⟨b1, b2⟩ := h.heap.alone j _ hi rfl hrj
   refine ⟨b1, fun i' b' hne hb' hlv hr' => ?_⟩
   simp only [hne, if_false] at hb'
   exact b2 i' b' hne hb' hlv hr'
  ·simp only [hji, if_false] at hj
   obtain ⟨b1, b2⟩ := h.heap.alone j b hj hm hrj
   refine ⟨b1, fun i' b' hne hb' hlv hr' => ?_⟩
   by_cases hi' : i' = i
   ·subst hi'
    exact b2 i' _ hne hi rfl hr'
   ·simp only [hi', if_false] at hb'
    exact b2 i' b' hne hb' hlv hr'
 ·by_cases hji : j = i
  ·subst hji; exact h.new j _ hi rfl hrj
  ·simp only [hji, if_false] at hj
   exact h.new j b hj hm hrj
theorem overPc_ok {off m : Nat} {y : Sq} {p q : Pc} {c d : List Value} (hp : PcOk loc fm lk p c) (hy : SqC fm y d) (hl : d.length = lenSq y * wSq y) (h : overPc off m y p = some q) (hoff : off + m ≤ cntOf p) (hm : m ≤ lenSq y) :
  PcOk loc fm lk q (ovL c (off * stOf p) (d.take (m * stOf p))) ∧ Like p q ∧ (d.take (m * stOf p)).length = m * stOf p := by
 cases p with
 | one x => cases y <;> cases h
 | ones x => cases y <;> cases h
 | row ln lc k N xs =>
  obtain ⟨rfl, e2, e3⟩ := hp
  cases y with
  | nil =>
   cases h
   have hm0 : m = 0 := by simpa [lenSq] using hm
   subst hm0
   rw [Nat.zero_mul, List.take_zero]
   refine ⟨⟨?_, e2, e3⟩, Like.refl _, rfl⟩
   simp [ovL]
  | els l1 c' ys => cases h
  | ints l1 l2 k' ys =>
   simp only [overPc] at h
   split at h
   ·rename_i hk
    have hk := of_decide_eq_true hk
    subst hk
    cases h
    obtain ⟨rfl, f2⟩ := hy
    have hm : m ≤ ys.length := hm
    have hoff : off + m ≤ N := hoff
    have hst : stOf (.row ln lc k' N xs) = 1 := rfl
    rw [hst, Nat.mul_one, Nat.mul_one]
    have e : (iv k' ys).take m = iv k' (ys.take m) := by simp [iv]
    have hlm : (ys.take m).length = m := by rw [List.length_take]; omega
    rw [e, ovL_row, hlm]
    refine ⟨⟨rfl, ?_, wfs_over e3 (fun x hx => f2 x (List.mem_of_mem_take hx))⟩, ⟨rfl, rfl⟩, by rw [iv_length, hlm]⟩
    simp only [List.length_append, List.length_take, List.length_drop]
    omega
   ·cases h
 | lst ln cd N xs =>
  obtain ⟨e1, e2⟩ := hp
  cases y with
  | nil =>
   cases h
   have hm0 : m = 0 := by simpa [lenSq] using hm
   subst hm0
   rw [Nat.zero_mul, List.take_zero]
   refine ⟨⟨?_, e2⟩, Like.refl _, rfl⟩
   simpa [ovL] using e1
  | ints l1 l2 k' ys => cases h
  | els l1 c' ys =>
   simp only [overPc] at h
   split at h
   ·rename_i hcc _
    subst hcc
    cases h
    have hy : Els fm c' ys d := hy
    have hm : m ≤ ys.length := hm
    have hoff : off + m ≤ N := hoff
    have hst : stOf (.lst ln c' N xs) = c'.w := rfl
    rw [hst]
    have hdl := Els.length _ _ hy
    have hcl := Els.length _ _ e1
    have hmw : m * c'.w ≤ ys.length * c'.w := Nat.mul_le_mul_right _ hm
    have hlm : (d.take (m * c'.w)).length = m * c'.w := by rw [List.length_take, hdl]; omega
    have s1 := Els.sub ys 0 m d hy
    have s2 := Els.sub xs 0 off c e1
    have s3 := Els.sub xs (off + m) xs.length c e1
    rw [List.drop_zero, Nat.zero_mul, List.drop_zero] at s1 s2
    rw [List.take_of_length_le (by rw [List.length_drop]; omega), List.take_of_length_le (by rw [List.length_drop, hcl]; omega)] at s3
    refine ⟨⟨?_, ?_⟩, ⟨rfl, rfl⟩, hlm⟩
    ·unfold ovL
     rw [hlm, ← Nat.add_mul]
     exact Els.join _ _ _ _ (Els.join _ _ _ _ s2 s1) s3
    ·simp only [List.length_append, List.length_take, List.length_drop]
     omega
   ·cases h
theorem overPc_w {off m : Nat} {y : Sq} {p q : Pc} (h : overPc off m y p = some q) : lenSq y * wSq y = lenSq y * stOf p := by
 cases p with
 | one x => cases y <;> cases h
 | ones x => cases y <;> cases h
 | row ln lc k N xs =>
  cases y with
  | nil => simp [lenSq]
  | els l1 c' ys => cases h
  | ints l1 l2 k' ys => rfl
 | lst ln cd N xs =>
  cases y with
  | nil => simp [lenSq]
  | ints l1 l2 k' ys => cases h
  | els l1 c' ys =>
   simp only [overPc] at h
   split at h
   ·rename_i hcc _
    subst hcc
    rfl
   ·cases h
theorem st_pos (p : Pc) : 0 < stOf p := by
 cases p with
 | lst ln c n xs => exact nz_w c
 | _ => exact Nat.one_pos
theorem over_ok {ps : List Pc} {s off m : Nat} {y : Sq} {p q : Pc} {cs d : List Value} (hp : PcsOk loc fm lk ps cs) (hs : ps[s]? = some p) (hy : SqC fm y d) (hl : d.length = lenSq y * wSq y) (h : overPc off m y p = some q) (hoff : off + m ≤ cntOf p) (hm : m ≤ lenSq y) :
  baseL ps s + off * stL ps s + (d.take (m * stOf p)).length ≤ cs.length ∧ PcsOk loc fm lk (ps.take s ++ q :: ps.drop (s + 1)) (ovL cs (baseL ps s + off * stL ps s) (d.take (m * stOf p))) ∧ Likes ps (ps.take s ++ q :: ps.drop (s + 1)) := by
 have hlt := (List.getElem?_eq_some_iff.1 hs).1
 have hdrop : ps.drop s = p :: ps.drop (s + 1) := by
  rw [List.drop_eq_getElem_cons hlt]
  congr 1
  exact (List.getElem?_eq_some_iff.1 hs).2
 obtain ⟨c1, c2, f1, f2, f3, f4⟩ := PcsOk.split ps s cs hp
 rw [hdrop] at f4
 obtain ⟨d1, d2, g1, g2, g3⟩ := f4
 obtain ⟨k1, k2, k3⟩ := overPc_ok g2 hy hl h hoff hm
 have hst : stL ps s = stOf p := by simp [stL, hs]
 have hlen := PcOk.length _ _ g2
 have hwp : wP p = cntOf p * stOf p := by
  cases p with
  | one a => cases y <;> cases h
  | ones a => cases y <;> cases h
  | row _ _ k mm xs => simp [wP, cntOf, stOf]
  | lst _ c mm xs => simp [wP, cntOf, stOf]
 have hmul : off * stOf p + m * stOf p ≤ cntOf p * stOf p := by
  rw [← Nat.add_mul]
  exact Nat.mul_le_mul_right _ hoff
 rw [hst, k3, f1, g1]
 refine ⟨by simp only [List.length_append]; omega, ?_, ?_⟩
 ·rw [← f2, ovL_mid, ovL_append _ _ _ _ (by rw [k3]; omega)]
  exact PcsOk.join _ _ _ _ f3 ⟨_, d2, rfl, k1, g3⟩
 ·have : Likes (ps.take s ++ p :: ps.drop (s + 1)) (ps.take s ++ q :: ps.drop (s + 1)) := (Likes.refl (ps.take s)).join ⟨k2, Likes.refl _⟩
  rwa [← hdrop, List.take_append_drop] at this
theorem placeS_ok (h : HRel loc fm lk w) {x : A} {v : Value} {l : Bool} {id s off len : Nat} (hx : VR loc fm lk x v) (hp : placeS lk x = some (l, id, s, off, len)) :
  ∃ ad c, v = .slice ad len c ∧ len ≤ c ∧ c < lim63 ∧ (0 < c → ad = some ⟨(loc id).blk, (loc id).base s + off * (loc id).st s, none⟩) ∧ off + len ≤ (loc id).cnt s := by
 unfold placeS at hp
 split at hp
 ·split at hp
  ·rename_i id' _ l' m hl
   simp only [Option.some.injEq, Prod.mk.injEq] at hp
   obtain ⟨rfl, rfl, rfl, rfl, rfl⟩ := hp
   obtain ⟨ad, c, ex, x1, x2, x3, x4⟩ := VR_vec hx
   obtain ⟨ad', c', e1⟩ := lenA_ok h hx hl
   rw [ex] at e1
   simp only [Value.slice.injEq] at e1
   obtain ⟨_, e2, _⟩ := e1
   refine ⟨ad, c, by rw [ex, e2], by omega, x2, fun h0 => ?_, by omega⟩
   rcases x3 with x3 | ⟨x3, _⟩
   ·omega
   ·rw [x3]
    have hb : (loc id').base 0 = 0 := by
     have : ∃ own t ps, lk id' = some (.cells own t ps) := by
      simp only [lenA] at hl
      split at hl
      ·exact ⟨_, _, _, by assumption⟩
      ·exact ⟨_, _, _, by assumption⟩
      ·exact ⟨_, _, _, by assumption⟩
      ·cases hl
     obtain ⟨own, t, ps, hk⟩ := this
     obtain ⟨cs, _, k2, _⟩ := h.ok id' _ hk
     rw [k2.base]
     rfl
    rw [hb]
    simp
  ·cases hp
 ·simp only [Option.some.injEq, Prod.mk.injEq] at hp
  obtain ⟨rfl, rfl, rfl, rfl, rfl⟩ := hp
  obtain ⟨ad, c, ex, x1, x2, x3, x4, x5, x6⟩ := VR_slc hx
  exact ⟨ad, c, ex, x1, x2, x4, x5⟩
 ·cases hp
theorem lay_ok (hC : Ro C) (h : RelL C.gl B loc fm n tm lk a w) {X : A} {v : Value} {l : Bool} {id s off len m : Nat} (hx : VR loc fm lk X v) (hp : placeS lk X = some (l, id, s, off, len)) {t : TypeId} {ps : List Pc} (hk : lk id = some (.cells true t ps))
  {p q : Pc} (hs : ps[s]? = some p) {y : Sq} {d : List Value} (hy : SqC fm y d) (hl : d.length = lenSq y * wSq y) (ho : overPc off m y p = some q) (hm : m ≤ lenSq y) (hm' : m ≤ len) :
  ∃ ad c W, v = .slice ad len c ∧ (∀ b, ad = some b → (storeCells b (d.take (m * stOf p)) 0).run C.P w = .ok () W) ∧ (ad = none → m = 0 ∧ W = w) ∧
   RelL C.gl B loc fm n tm (fun j => if j = id then some (.cells true t (ps.take s ++ q :: ps.drop (s + 1))) else lk j) a W := by
 obtain ⟨ad, c, ex, x1, x2, x3, x4⟩ := placeS_ok h.heap hx hp
 obtain ⟨cs, k1, k2, k3, k4, k5⟩ := cells_at h.heap hk
 have hcnt : (loc id).cnt s = cntOf p := by rw [k2.cnt]; simp [cntL, hs]
 have hov := fun cs' (hcs' : PcsOk loc fm lk ps cs') => over_ok hcs' hs hy hl ho (by omega) hm
 obtain ⟨g1, g2, g3⟩ := hov cs k1
 rcases Nat.eq_zero_or_pos m with h0 | h0
 ·subst h0
  rw [Nat.zero_mul, List.take_zero] at *
  refine ⟨ad, c, w, ex, fun b _ => by simp [storeCells], fun _ => ⟨rfl, rfl⟩, h.recell hk (own_ge hC h hk rfl) (fun cs' hcs' => ?_) (fun hl => g3.lies hl) (fun r hr => g3.rest r hr) g3.lst⟩
  have := (hov cs' hcs').2.1
  simpa [ovL] using this
 ·have had := x3 (by omega)
  have hvl : (d.take (m * stOf p)).length = m * stOf p := by
   obtain ⟨c1, c2, f1, f2, f3, f4⟩ := PcsOk.split ps s cs k1
   have hlt := (List.getElem?_eq_some_iff.1 hs).1
   have hdrop : ps.drop s = p :: ps.drop (s + 1) := by
    rw [List.drop_eq_getElem_cons hlt]
    congr 1
    exact (List.getElem?_eq_some_iff.1 hs).2
   rw [hdrop] at f4
   obtain ⟨d1, d2, q1, q2, q3⟩ := f4
   exact (overPc_ok q2 hy hl ho (by omega) hm).2.2
  have hpos : 0 < m * stOf p := Nat.mul_pos h0 (st_pos p)
  have hreal : (loc id).real = true := k4 (fun e => by rw [e, hvl] at g1; simp only [List.length_nil] at g1; omega)
  obtain ⟨rest, fz, e1, e2, _⟩ := k5 hreal
  obtain ⟨_, _, e4⟩ := e2 rfl
  have hon : ∀ v ∈ d.take (m * stOf p), v.oneCell' = true := fun v hv => hy.ones v (List.mem_of_mem_take hv)
  have hst := run_storeCells (P := C.P) (b := (loc id).blk) (o := baseL ps s + off * stL ps s) (vs := d.take (m * stOf p)) e1 (by rw [List.length_append]; omega) e4 hon
  have hR := h.write hk (own_ge hC h hk rfl) hreal (baseL ps s + off * stL ps s) (d.take (m * stOf p)) (fun cs' hcs' => ⟨(hov cs' hcs').1, (hov cs' hcs').2.1⟩) (fun hl => g3.lies hl) (fun r hr => g3.rest r hr) g3.lst
  refine ⟨ad, c, _, ex, fun b hb => ?_, fun hb => (by rw [hb] at had; cases had), hR⟩
  rw [hb, Option.some.injEq] at had
  subst had
  rw [k2.base, k2.st]
  exact hst
theorem copyT_ok (hC : Ro C) (h : RelL C.gl B loc fm n tm lk a w) (hd : ∀ d, o.dst = some d → d < n) {c : Call} {t : TypeId} {ts : List TypeId} {X Y : A} {e : Eff} (ho : o.op = .call c) (hc : c.callee = .builtin .copy)
  (hts : c.argTypes.toList = t :: ts) (hargs : c.args.toList.map (ev C tm) = [X, Y]) (he : (copyT C lk t X Y).is e) : Does C.P o a w (Post C B n tm lk a o.dst e) := by
 obtain ⟨consts, hrun⟩ := does_builtin (C := C) (w := w) (a := a) ho hc
 obtain ⟨x, y, ha, hX, hY⟩ := args2 hargs
 have hx := h.ev x
 have hy := h.ev y
 rw [hX] at hx
 rw [hY] at hy
 have hat : c.argTypes = (t :: ts).toArray := by apply Array.ext'; simpa using hts
 rw [ha, hat] at hrun
 unfold copyT at he
 split at he
 case h_2 => exact he.elim
 rename_i el hel
 have hu := elemT_ok hel
 split at he
 case h_2 => exact he.elim
 rename_i m l id s off len v hsz hpl hqv
 split at he
 case h_2 => exact he.elim
 rename_i ty ps hlk
 split at he
 case h_2 => exact he.elim
 rename_i p hps
 replace he := Tr.is_gd.1 he
 obtain ⟨hst, he⟩ := he
 have hst := Nat.eq_of_beq_eq_true hst
 split at he
 case h_2 => exact he.elim
 rename_i q hov
 replace he := (Tr.is_leaf.1 he).symm
 subst he
 obtain ⟨news, v1, v2, v3⟩ := sqOf_ok h.heap hy hqv
 obtain ⟨ad, cap, W, ex, g1, g2, g3⟩ := lay_ok hC h hx hpl hlk hps v1 v2 hov (Nat.min_le_left ..) (Nat.min_le_right ..)
 have hmul : lenSq v * m = news.length := by rw [v2, overPc_w hov, hst]
 have hf := v3.first (P := C.P) hmul.symm (Nat.min_le_left (lenSq v) len)
 have hl := v3.len (P := C.P)
 have hwf : IntKind.i64.wrap ((min (lenSq v) len : Nat) : Int) = ((min (lenSq v) len : Nat) : Int) := by
  obtain ⟨_, _, e1, e2, e3, _⟩ := v3
  unfold lim63 at e3
  have := Nat.min_le_left (lenSq v) len
  exact wf_i64.2 ⟨by omega, by omega⟩
 refine Or.inl ⟨.int .i64 ((min (lenSq v) len : Nat) : Int), W, ?_, loc, fm, g3.val o.dst hd ⟨rfl, hwf⟩⟩
 rw [hst] at g1
 rw [hrun]
 cases ad with
 | none =>
  obtain ⟨h0, rfl⟩ := g2 rfl
  simp [builtin, Builtin.copy_, ex, run_underlying hu, hl, run_sizeOf' hsz, goInt, hf]
 | some b =>
  have := g1 b rfl
  simp [builtin, Builtin.copy_, ex, run_underlying hu, hl, run_sizeOf' hsz, goInt, hf, this]
theorem zerosLike_ok {e : TypeId} {m : Nat} {z : Sq} (h : zerosLike C e m = some z) : ∃ i v, C.P.info? e = some i ∧ i.zero = some v ∧ SqC fm z (List.replicate m v.cells.toList).flatten ∧ lenSq z = m ∧ wSq z = v.cells.size := by
 unfold zerosLike at h
 split at h
 ·rename_i ln lc k m' xs hz
  cases h
  obtain ⟨i, v, h1, h2, ⟨c1, c2, f1, ⟨f2, f3, f4⟩, f5⟩, _, h5, h6, _⟩ := zeroSq_ok (loc := fun _ => ⟨0, fun _ => 0, fun _ => 0, fun _ => 0, 0, true⟩) (fm := fm) (lk := fun _ => none) hz
  rw [show c2 = [] from f5, List.append_nil] at f1
  have h5 : m' = m := h5
  exact ⟨i, v, h1, h2, ⟨f1.trans f2, f4⟩, f3.trans h5, h6⟩
 ·rename_i ln c m' xs hz
  cases h
  obtain ⟨i, v, h1, h2, ⟨c1, c2, f1, ⟨f2, f3⟩, f5⟩, _, h5, h6, _⟩ := zeroSq_ok (loc := fun _ => ⟨0, fun _ => 0, fun _ => 0, fun _ => 0, 0, true⟩) (fm := fm) (lk := fun _ => none) hz
  rw [show c2 = [] from f5, List.append_nil] at f1
  have h5 : m' = m := h5
  exact ⟨i, v, h1, h2, f1 ▸ f2, f3.trans h5, h6⟩
 ·cases h
theorem clearT_ok (hC : Ro C) (h : RelL C.gl B loc fm n tm lk a w) (hd : ∀ d, o.dst = some d → d < n) {c : Call} {t : TypeId} {ts : List TypeId} {X : A} {e : Eff} (ho : o.op = .call c) (hc : c.callee = .builtin .clear)
  (hts : c.argTypes.toList = t :: ts) (hargs : c.args.toList.map (ev C tm) = [X]) (he : (clearT C lk t X).is e) : Does C.P o a w (Post C B n tm lk a o.dst e) := by
 obtain ⟨consts, hrun⟩ := does_builtin (C := C) (w := w) (a := a) ho hc
 obtain ⟨x, ha, hX⟩ := args1 hargs
 have hx := h.ev x
 rw [hX] at hx
 have hat : c.argTypes = (t :: ts).toArray := by apply Array.ext'; simpa using hts
 rw [ha, hat] at hrun
 have htup : ∀ loc fm lk, VR loc fm lk (.tup []) (.tuple #[]) := fun loc fm lk => ⟨[], rfl, rfl⟩
 unfold clearT at he
 split at he
 ·rename_i id
  split at he
  ·rename_i cd M d hlk hu
   replace he := (Tr.is_leaf.1 he).symm
   subst he
   obtain ⟨ex, _⟩ := VR_map hx
   obtain ⟨hr, es, clock, k1, k2⟩ := h.heap.ok id _ hlk
   have hR := h.setMap hlk (own_ge hC h hlk rfl) #[] clock (M' := fun _ => none) ⟨fun e he => (by simp at he), fun n x he => (by cases he), by simp⟩
   refine Or.inl ⟨.tuple #[], _, ?_, loc, fm, hR.val o.dst hd (htup _ _ _)⟩
   rw [hrun]
   simp [builtin, Builtin.clear_, ex, run_underlying hu, MapKept.run_getObj_map k1, MapKept.run_setObj_map _ k1]
  ·rename_i l d hlk hu
   replace he := (Tr.is_leaf.1 he).symm
   subst he
   obtain ⟨ex, _⟩ := VR_map hx
   obtain ⟨hr, _, es, clock, k1, k2⟩ := h.heap.ok id _ hlk
   have hR := h.setMapL hlk (own_ge hC h hlk rfl) (l' := []) #[] clock rfl List.nodup_nil
   refine Or.inl ⟨.tuple #[], _, ?_, loc, fm, hR.val o.dst hd (htup _ _ _)⟩
   rw [hrun]
   simp [builtin, Builtin.clear_, ex, run_underlying hu, MapKept.run_getObj_map k1, MapKept.run_setObj_map _ k1]
  ·exact he.elim
 ·replace he := Tr.is_gd.1 he
  obtain ⟨hsome, he⟩ := he
  obtain ⟨el, hel⟩ := Option.isSome_iff_exists.1 hsome
  have hu := elemT_ok hel
  replace he := (Tr.is_leaf.1 he).symm
  subst he
  have ex := VR_val hx
  refine does_pure h hd (x := .tuple #[]) ?_ (htup _ _ _)
  rw [hrun]
  simp [builtin, Builtin.clear_, ex, run_underlying hu]
 ·split at he
  case h_2 => exact he.elim
  rename_i el hel
  have hu := elemT_ok hel
  split at he
  case h_2 => exact he.elim
  rename_i l id s off len hpl
  split at he
  case h_2 => exact he.elim
  rename_i ty ps z hlk hz
  split at he
  case h_2 => exact he.elim
  rename_i p hps
  split at he
  case h_2 => exact he.elim
  rename_i q hov
  replace he := (Tr.is_leaf.1 he).symm
  subst he
  obtain ⟨i, v, hi, hv, z1, z2, z3⟩ := zerosLike_ok (fm := fm) hz
  have hlen : (List.replicate len v.cells.toList).flatten.length = lenSq z * wSq z := by rw [flatten_rep_length, z2, z3, Array.length_toList]
  obtain ⟨ad, cap, W, ex, g1, g2, g3⟩ := lay_ok hC h hx hpl hlk hps z1 hlen hov (by omega) (Nat.le_refl _)
  have hw := overPc_w hov
  rw [z2] at hw
  rw [List.take_of_length_le (by rw [hlen, z2, hw]; exact Nat.le_refl _)] at g1
  refine Or.inl ⟨.tuple #[], W, ?_, loc, fm, g3.val o.dst hd (htup _ _ _)⟩
  rw [hrun]
  rcases Nat.eq_zero_or_pos len with h0 | h0
  ·subst h0
   have hW : W = w := by
    cases ad with
    | none => exact (g2 rfl).2
    | some b =>
     have := g1 b rfl
     simp [storeCells] at this
     exact this.symm
   subst hW
   cases ad <;> simp [builtin, Builtin.clear_, ex, run_underlying hu]
  ·cases ad with
   | none => have := (g2 rfl).1; omega
   | some b =>
    have := g1 b rfl
    rw [← zeroCells_toList] at this
    match len, h0 with
    | k + 1, _ => simp [builtin, Builtin.clear_, ex, run_underlying hu, run_zeroValue' hi hv, this]
theorem appendAt_ok (hC : Ro C) (h : RelL C.gl B loc fm n tm lk a w) (hd : ∀ d, o.dst = some d → d < n) {t t2 : TypeId} {sz : Nat} {l ls : Bool} {id s off len : Nat} {cap : Option Nat} {x y : Operand} {v : Sq} {news : List Value} {e : Eff}
  (hx : VR loc fm lk (.slc ls id s off len cap) (a.eval x)) (v1 : SqC fm v news) (v2 : news.length = lenSq v * wSq v) (v3 : Src C.P w t t2 sz (lenSq v) news (a.eval y)) (hcap : ∀ k, cap = some k → len + lenSq v ≤ k)
  (hrun : ∀ v W, (Builtin.append_ #[t, t2] o.type #[a.eval x, a.eval y]).run C.P w = .ok v W → (execOp a.eval o).run C.P w = .ok (.value v) W) (he : (appendT0.atT lk l id s off len cap sz v).is e) : Does C.P o a w (Post C B n tm lk a o.dst e) := by
 unfold appendT0.atT at he
 split at he
 case h_2 => exact he.elim
 rename_i ty ps hk
 split at he
 case h_2 => exact he.elim
 rename_i p hs
 replace he := Tr.is_gd.1 he
 obtain ⟨hg, he⟩ := he
 have hg := Nat.eq_of_beq_eq_true hg
 replace he := Tr.is_le.1 he
 obtain ⟨hle, he⟩ := he
 split at he
 case h_2 => exact he.elim
 rename_i q ho
 replace he := (Tr.is_leaf.1 he).symm
 subst he
 obtain ⟨ad, c, ex, x1, x2, x3, x4, x5, x6⟩ := VR_slc hx
 obtain ⟨cs, k1, k2, k3, k4, k5⟩ := cells_at h.heap hk
 have hcnt : (loc id).cnt s = cntOf p := by rw [k2.cnt]; simp [cntL, hs]
 have hstp : (loc id).st s = stOf p := by rw [k2.st]; simp [stL, hs]
 have hc : len + lenSq v ≤ c := by
  cases cap with
  | some k => rw [show c = k from x3]; exact hcap k rfl
  | none =>
   have := x3.1
   omega
 have hX : VR loc fm lk (.slc ls id s (off + len) (lenSq v) (some (c - len))) (.slice (if c = len then none else some ⟨(loc id).blk, (loc id).base s + (off + len) * (loc id).st s, none⟩) (lenSq v) (c - len)) := by
  refine ⟨_, _, rfl, by omega, by omega, rfl, fun h0 => ?_, by omega, x6⟩
  rw [if_neg (by omega)]
 obtain ⟨ad2, c2, W, f1, f2, f3, f4⟩ := lay_ok hC h hX rfl hk hs v1 v2 ho (Nat.le_refl _) (Nat.le_refl _)
 simp only [Value.slice.injEq] at f1
 obtain ⟨f1, _, _⟩ := f1
 have hnl : (news.take (lenSq v * stOf p)) = news := by
  rw [List.take_of_length_le]
  rw [v2, overPc_w ho]
  exact Nat.le_refl _
 rw [hnl] at f2
 have hnews : news.length = lenSq v * sz := by rw [v2, overPc_w ho, hg]
 have hr := v3.room o.type ad len c W hc (fun b hb => by
  by_cases h0 : c = len
  ·have hm0 : lenSq v = 0 := by omega
   obtain ⟨g1, g2⟩ := f3 (by rw [← f1, if_pos h0])
   subst g2
   have : news = [] := List.length_eq_zero_iff.1 (by rw [hnews, hm0, Nat.zero_mul])
   subst this
   simp [storeCells]
  ·have had := x4 (by omega)
   rw [hb, Option.some.injEq] at had
   subst had
   have := f2 _ (by rw [← f1, if_neg h0])
   rw [Nat.add_mul, ← Nat.add_assoc] at this
   rw [← hg, ← hstp, Addr.add_lit]
   exact this) (fun hb => by
  by_cases h0 : c = len
  ·exact (f3 (by rw [← f1, if_pos h0])).2
  ·have had := x4 (by omega)
   rw [hb] at had
   cases had)
 rw [← ex] at hr
 have hne : updL lk [(id, .cells true ty (ps.take s ++ q :: ps.drop (s + 1)))] = fun j => if j = id then some (.cells true ty (ps.take s ++ q :: ps.drop (s + 1))) else lk j := rfl
 refine Or.inl ⟨_, _, hrun _ _ hr, loc, fm, ?_⟩
 rw [hne]
 exact f4.val o.dst hd ⟨ad, c, rfl, hc, x2, x3, x4, by omega, by simp⟩
theorem appendT0_ok (hC : Ro C) (h : RelL C.gl B loc fm n tm lk a w) (hd : ∀ d, o.dst = some d → d < n) {t t2 : TypeId} {x y : Operand} {v0 : Option Sq} {e : Eff} (hnb : ∀ b, (nid, b) ∈ e.puts → lk nid = none)
  (hsrc : ∀ v el i, v0 = some v → C.P.underlying t = some (.slice el) → C.P.info? el = some i → ∃ news, SqC fm v news ∧ news.length = lenSq v * wSq v ∧ (news.length = lenSq v * i.size → Src C.P w t t2 i.size (lenSq v) news (a.eval y)))
  (hrun' : ∀ v W, (Builtin.append_ #[t, t2] o.type #[a.eval x, a.eval y]).run C.P w = .ok v W → (execOp a.eval o).run C.P w = .ok (.value v) W) {X : A} (hx : VR loc fm lk X (a.eval x)) (he : (appendT0 C lk nid t X v0).is e) : Does C.P o a w (Post C B n tm lk a o.dst e) := by
 unfold appendT0 at he
 split at he
 case h_2 => exact he.elim
 rename_i el hel
 have hu := elemT_ok hel
 split at he
 case h_2 => exact he.elim
 rename_i i u v hi hqu
 obtain ⟨olds, u1, u2, u3⟩ := sqOf_ok h.heap hx hqu
 obtain ⟨news, v1, v2, v3'⟩ := hsrc v el i rfl hu hi
 split at he
 case h_2 => exact he.elim
 rename_i ln m p hcat
 obtain ⟨p1, p2, p3, p4, p5, p6, p7⟩ := catSq_ok (loc := loc) (lk := lk) hcat u1 v1 u2 v2
 replace he := Tr.is_gd.1 he
 obtain ⟨hg, he⟩ := he
 simp only [Bool.and_eq_true] at hg
 have hst := Nat.eq_of_beq_eq_true hg.1
 obtain ⟨q, hzq⟩ := zOk_ok hg.2
 have hkin := p7 q hzq
 have hsz : sizeT C.P el = some i.size := by simp [sizeT, hi]
 have hw1 : ∀ v ∈ news, v.oneCell' = true := v1.ones
 subst p2
 have v3 := v3' (by rw [p5, hst])
 split at he
 ·-- nothing to append to
  rename_i vv
  have ex := VR_val hx
  obtain ⟨rfl, rfl⟩ := sqOf_val hqu
  obtain ⟨⟨r1, r2⟩, he⟩ := roomT_ok he
  replace he := (Tr.is_leaf.1 he).symm
  subst he
  first | (have hn := hnb _ (List.mem_cons_self ..)) | (have hn := hnb _ (List.mem_append_right _ (List.mem_cons_self ..))) | skip
  have u0 : olds = [] := u1
  subst u0
  rcases Nat.eq_zero_or_pos (lenSq v) with h0 | h0
  ·have hnews : news = [] := List.length_eq_zero_iff.1 (by rw [v2, h0, Nat.zero_mul])
   subst hnews
   obtain ⟨loc', k1, k2, k3⟩ := h.newVirtual hn el [p] p1
   have hr := v3.room o.type none 0 0 w (by omega) (fun b hb => by cases hb) (fun _ => rfl)
   rw [← ex] at hr
   refine Or.inl ⟨_, _, hrun' _ _ hr, loc', fm, k3.val o.dst hd ⟨none, 0, ?_, ?_, by decide, Or.inl rfl, by simp [updL]⟩⟩
   ·rw [k1]
    show [Value.slice none (0 + lenSq v) 0] = [Value.slice none (cntL [p] 0) 0]
    rw [cntL_one, p3]
    rfl
   ·rw [k1]
    show cntL [p] 0 ≤ 0
    rw [cntL_one, p3, h0]
    exact Nat.le_refl _
  ·obtain ⟨W, vv, k1, loc', k2, k3, k4⟩ := grow_ok h hn hzq hkin hi hst p1 p4 p5 p3 (cap := 0) (by show 0 < lenSq Sq.nil + lenSq v; omega) r2 r1 hu (ty := o.type) ex u3 v3
   exact Or.inl ⟨_, _, hrun' _ _ k1, loc', fm, k4.val o.dst hd (k3 _ (by simp))⟩
 ·rename_i id
  split at he
  case h_2 => exact he.elim
  rename_i e' ps hlk
  replace he := Tr.is_gd.1 he
  obtain ⟨hee, he⟩ := he
  have hee := Nat.eq_of_beq_eq_true hee
  subst hee
  obtain ⟨p0, rfl, hkin0, hcon⟩ := sqOf_vec (fm := fm) hqu hlk p6
  obtain ⟨⟨r1, r2⟩, he⟩ := roomT_ok he
  replace he := (Tr.is_leaf.1 he).symm
  subst he
  first | (have hn := hnb _ (List.mem_cons_self ..)) | (have hn := hnb _ (List.mem_append_right _ (List.mem_cons_self ..))) | skip
  obtain ⟨ad, cap, ex, x1, x2, x3, x4⟩ := VR_vec hx
  have hlen : lenSq u = (loc id).cnt 0 := by
   obtain ⟨ad', c', e1, _⟩ := u3
   rw [ex] at e1
   simp only [Value.slice.injEq] at e1
   exact e1.2.1.symm
  rw [← hlen] at ex x1
  have hne : id ≠ nid := fun e => by rw [e, hn] at hlk; cases hlk
  rcases Nat.lt_or_ge cap (lenSq u + lenSq v) with hgr | hgr
  ·obtain ⟨W, vv, k1, loc', k2, k3, k4⟩ := grow_ok h hn hzq hkin hi hst p1 p4 p5 p3 hgr r2 r1 hu (ty := o.type) ex u3 v3
   have k5 := k4.kill (i := id) (b := .cells true el [p0]) (by simp only [hne, if_false]; exact hlk) (own_ge hC h hlk rfl)
   exact Or.inl ⟨_, _, hrun' _ _ k1, loc', fm, k5.val o.dst hd (k3 _ (by simp [Ne.symm hne]))⟩
  ·obtain ⟨cs, g1, g2, g3⟩ := h.heap.ok id _ hlk
   have hwp : wPs [p0] = lenSq u * stOf p := by
    rw [hlen, g2.cnt, cntL_one, ← hkin0.st]
    cases p0 with
    | one a => exact hkin0.elim
    | ones a => exact hkin0.elim
    | row _ _ k mm xs => simp [wPs, wP, cntOf, stOf]
    | lst _ c mm xs => simp [wPs, wP, cntOf, stOf]
   have hst0 : (loc id).st 0 = stOf p := by rw [g2.st, ← hkin0.st]; rfl
   have hroom : news = [] ∨ ((loc id).real = true ∧ wPs [p0] + news.length ≤ (loc id).room) := by
    rcases x3 with x3 | ⟨x3, x5, x6⟩
    ·left
     exact List.length_eq_zero_iff.1 (by rw [p5, show lenSq v = 0 by omega, Nat.zero_mul])
    ·right
     refine ⟨x6, ?_⟩
     rw [hwp, p5, ← Nat.add_mul, ← hst0]
     exact Nat.le_trans (Nat.mul_le_mul_right _ hgr) x5
   have hfill : ∀ cs', PcsOk loc fm lk [p0] cs' → PcsOk loc fm lk [p] (cs' ++ news) := fun cs' hcs' => by
    obtain ⟨y1, y2⟩ := hcon loc cs' hcs' (by rw [hlen, g2.cnt, cntL_one])
    exact (catSq_ok (loc := loc) (lk := lk) hcat y1 v1 y2 v2).1
   obtain ⟨loc', k1, k2, k3⟩ := h.fill (ps' := [p]) hlk (own_ge hC h hlk rfl) hn news hroom hfill (fun rest hr => by rw [p5]; exact hkin0.drop _ hr) hkin0.lst
   have hr := v3.room o.type ad (lenSq u) cap (w.setCells (loc id).blk (wPs [p0]) news) hgr (fun b hb => by
    rcases hroom with rfl | ⟨hreal, hroom⟩
    ·simp [storeCells, World.setCells]
    ·rcases x3 with x3 | ⟨x3, x5, x6⟩
     ·have : news = [] := List.length_eq_zero_iff.1 (by rw [p5, show lenSq v = 0 by omega, Nat.zero_mul])
      subst this
      simp [storeCells, World.setCells]
     ·rw [hb, Option.some.injEq] at x3
      subst x3
      rw [hreal] at g3
      obtain ⟨rest, fz, f1, f2, _⟩ := g3
      obtain ⟨f3, f4, f5⟩ := f2 rfl
      rw [Addr.add_lit, Nat.zero_add, ← hst, ← hwp]
      exact run_storeCells f1 (by rw [← f4]; exact hroom) f5 hw1) (fun hb => by
    rcases hroom with rfl | ⟨hreal, hroom⟩
    ·rfl
    ·rcases x3 with x3 | ⟨x3, x5, x6⟩
     ·have : news = [] := List.length_eq_zero_iff.1 (by rw [p5, show lenSq v = 0 by omega, Nat.zero_mul])
      subst this
      rfl
     ·rw [hb] at x3; cases x3)
   rw [← ex] at hr
   refine Or.inl ⟨_, _, hrun' _ _ hr, loc', fm, k3.val o.dst hd ⟨ad, cap, ?_, ?_, x2, ?_, by simp [updL, Ne.symm hne]⟩⟩
   ·rw [k1]
    show _ = [Value.slice ad (cntL [p] 0) cap]
    rw [cntL_one, p3]
   ·rw [k1]
    show cntL [p] 0 ≤ cap
    rw [cntL_one, p3]
    exact hgr
   ·rw [k1]
    rcases x3 with x3 | ⟨x3, x5, x6⟩
    ·exact Or.inl x3
    ·refine Or.inr ⟨x3, ?_, x6⟩
     show cap * stOf p ≤ _
     rw [← hst0]
     exact x5
 ·-- a part of a row, its room known
  rename_i l id s off len cap
  unfold roomB at he
  have grow : (roomT ln (lenSq u + lenSq v) i.bytes (.leaf (⟨.vec nid, [(nid, .cells true el [p])]⟩ : Eff))).is e → Nat.ble (len + lenSq v) cap = false → Does C.P o a w (Post C B n tm lk a o.dst e) := fun he hbl => by
   obtain ⟨⟨r1, r2⟩, he⟩ := roomT_ok he
   replace he := (Tr.is_leaf.1 he).symm
   subst he
   have hn := hnb _ (List.mem_cons_self ..)
   obtain ⟨ad, cc, ex, x1, x2, x3, x4, x5, x6⟩ := VR_slc hx
   have hcc : cc = cap := x3
   subst hcc
   have hlen : lenSq u = len := by
    obtain ⟨ad', c', e1, _⟩ := u3
    rw [ex] at e1
    simp only [Value.slice.injEq] at e1
    exact e1.2.1.symm
   rw [← hlen] at ex
   have hgr : cc < lenSq u + lenSq v := by
    rw [hlen]
    exact Nat.lt_of_not_le fun hle => by rw [Nat.ble_eq_true_of_le hle] at hbl; cases hbl
   obtain ⟨W, vv, k1, loc', k2, k3, k4⟩ := grow_ok h hn hzq hkin hi hst p1 p4 p5 p3 hgr r2 r1 hu (ty := o.type) ex u3 v3
   exact Or.inl ⟨_, _, hrun' _ _ k1, loc', fm, k4.val o.dst hd (k3 _ (by simp))⟩
  split at he
  ·split at he
   ·rename_i hb
    exact appendAt_ok hC h hd hx v1 v2 v3 (fun q hq => by cases hq; exact Nat.le_of_ble_eq_true hb) hrun' he
   ·rename_i hb
    exact grow he hb
  ·replace he := Tr.is_br.1 he
   split at he
   ·rename_i hb
    exact appendAt_ok hC h hd hx v1 v2 v3 (fun q hq => by cases hq; exact Nat.le_of_ble_eq_true hb) hrun' he
   ·rename_i hb
    exact grow he hb
 ·-- a part of a row within the cells that are known
  rename_i l id s off len
  exact appendAt_ok hC h hd hx v1 v2 v3 (fun q hq => by cases hq) hrun' he
 ·exact he.elim
theorem VR_whole {w : World} (hh : HRel loc fm lk w) {x : A} {v : Value} (y : Option Sq) (hx : VR loc fm lk x v) : VR loc fm lk (wholeV lk x y) v := by
 unfold wholeV
 split
 case h_2 => exact hx
 rename_i l id s off len
 split
 case h_2 => exact hx
 split
 case h_2 => exact hx
 rename_i hc
 simp only [Bool.and_eq_true] at hc
 have hs := Nat.eq_of_beq_eq_true hc.1.2
 have ho := Nat.eq_of_beq_eq_true hc.2
 subst hs
 subst ho
 split
 case h_2 => exact hx
 rename_i ty p hlk
 split
 case h_2 => exact hx
 rename_i hn
 have hn : cntOf p = len := by
  unfold lenIs at hn
  split at hn
  ·exact Nat.eq_of_beq_eq_true hn
  ·exact Nat.eq_of_beq_eq_true hn
  ·cases hn
 obtain ⟨a, c, e1, h2, h3, h4, h5, h6, h7⟩ := VR_slc hx
 obtain ⟨cs, _, k2, _⟩ := hh.ok id _ hlk
 have hc : (loc id).cnt 0 = cntOf p := by rw [k2.cnt]; rfl
 have hb : (loc id).base 0 = 0 := by rw [k2.base]; rfl
 obtain ⟨h8, h9⟩ := h4
 refine ⟨a, c, by rw [e1, hc, hn], by rw [hc, hn]; exact h2, h3, ?_, h7⟩
 rcases Nat.eq_zero_or_pos c with h0 | h0
 ·exact Or.inl h0
 ·obtain ⟨q1, q2⟩ := h9 h0
  refine Or.inr ⟨?_, ?_, q1⟩
  ·rw [h5 h0, hb]; simp
  ·rw [hb] at q2; simpa using q2
theorem appendT_ok (hC : Ro C) (h : RelL C.gl B loc fm n tm lk a w) (hd : ∀ d, o.dst = some d → d < n) {t t2 : TypeId} {x y : Operand} {v0 : Option Sq} {e : Eff} (hnb : ∀ b, (nid, b) ∈ e.puts → lk nid = none)
  (hsrc : ∀ v el i, v0 = some v → C.P.underlying t = some (.slice el) → C.P.info? el = some i → ∃ news, SqC fm v news ∧ news.length = lenSq v * wSq v ∧ (news.length = lenSq v * i.size → Src C.P w t t2 i.size (lenSq v) news (a.eval y)))
  (hrun' : ∀ v W, (Builtin.append_ #[t, t2] o.type #[a.eval x, a.eval y]).run C.P w = .ok v W → (execOp a.eval o).run C.P w = .ok (.value v) W) (he : (appendT C lk nid t (ev C tm x) v0).is e) : Does C.P o a w (Post C B n tm lk a o.dst e) :=
 appendT0_ok hC h hd hnb hsrc hrun' (VR_whole h.heap v0 (h.ev x)) he
theorem append_ok (hC : Ro C) (h : RelL C.gl B loc fm n tm lk a w) (hd : ∀ d, o.dst = some d → d < n) {c : Call} {t : TypeId} {X Y : A} {e : Eff} (hnb : ∀ b, (nid, b) ∈ e.puts → lk nid = none) (ho : o.op = .call c) (hc : c.callee = .builtin .append)
  (hts : c.argTypes.toList = [t, t]) (hargs : c.args.toList.map (ev C tm) = [X, Y]) (he : (appendT C lk nid t X (sqOf lk Y)).is e) : Does C.P o a w (Post C B n tm lk a o.dst e) := by
 obtain ⟨consts, hrun⟩ := does_builtin (C := C) (w := w) (a := a) ho hc
 obtain ⟨x, y, ha, hX, hY⟩ := args2 hargs
 have hy := h.ev y
 rw [hY] at hy
 have hat : c.argTypes = #[t, t] := by apply Array.ext'; simpa using hts
 rw [ha, hat] at hrun
 subst hX
 refine appendT_ok hC h hd (t2 := t) (y := y) hnb (fun v el i hv hu hi => ?_) (fun v W hv => by rw [hrun]; simp [builtin, hv]) he
 obtain ⟨news, v1, v2, v3⟩ := sqOf_ok h.heap hy hv
 exact ⟨news, v1, v2, fun hl => Src.reads hu (by simp [sizeT, hi]) v3 hl⟩
theorem appendZ_ok (hC : Ro C) (h : RelL C.gl B loc fm n tm lk a w) (hd : ∀ d, o.dst = some d → d < n) {c : Call} {t t2 : TypeId} {X Y : A} {e : Eff} (hnb : ∀ b, (nid, b) ∈ e.puts → lk nid = none) (ho : o.op = .call c) (hc : c.callee = .builtin .append)
  (hts : c.argTypes.toList = [t, t2]) (hargs : c.args.toList.map (ev C tm) = [X, Y]) (he : (appendZ C lk nid t t2 X Y).is e) : Does C.P o a w (Post C B n tm lk a o.dst e) := by
 obtain ⟨consts, hrun⟩ := does_builtin (C := C) (w := w) (a := a) ho hc
 obtain ⟨x, y, ha, hX, hY⟩ := args2 hargs
 have hy := h.ev y
 rw [hY] at hy
 have hat : c.argTypes = #[t, t2] := by apply Array.ext'; simpa using hts
 rw [ha, hat] at hrun
 subst hX
 unfold appendZ at he
 split at he
 case h_2 => exact he.elim
 rename_i k2 l nn el hu2 hel
 have hu := elemT_ok hel
 obtain ⟨ey, wy⟩ := VR_int hy
 split at he
 case h_2 => exact he.elim
 rename_i i hi
 have key : ∀ lb : Bool, 0 ≤ nn → nn * (i.bytes : Int) ≤ 281474976710656 → (appendT C lk nid t (ev C tm x) (zerosN C t lb nn.toNat)).is e → Does C.P o a w (Post C B n tm lk a o.dst e) := fun lb h0 hb he => by
  refine appendT_ok hC h hd (t2 := t2) (y := y) hnb (fun v el' i' hv hu' hi' => ?_) (fun v W hv => by rw [hrun]; simp [builtin, hv]) he
  rw [hu] at hu'
  cases hu'
  rw [hi] at hi'
  cases hi'
  unfold zerosN at hv
  rw [hel] at hv
  simp only at hv
  have hsrc : ∀ (p : Pc) (z : Value), i.zero = some z → i.size = z.cells.size → Src C.P w t t2 i.size nn.toNat (List.replicate nn.toNat z.cells.toList).flatten (a.eval y) := fun p z hz hzs => by
   rw [ey]
   exact Src.zeros hu hu2 hi hz hzs h0 (wf_i64.1 wy).2 hb
  split at hv
  ·rename_i ln lc k m xs hz
   cases hv
   obtain ⟨i2, z, q1, q2, ⟨c1, c2, f1, ⟨f2, f3, f4⟩, f5⟩, _, q3, q4, q5⟩ := zeroSq_ok (loc := loc) (fm := fm) (lk := lk) hz
   rw [hi] at q1
   cases q1
   have f5 : c2 = [] := f5
   subst f5
   rw [List.append_nil] at f1
   have hm : xs.length = nn.toNat := by rw [f3]; exact q3
   refine ⟨iv k xs, ⟨rfl, f4⟩, by rw [iv_length]; simp [lenSq, wSq], fun _ => ?_⟩
   have := hsrc (.row ln lc k m xs) z q2 q5
   rw [f1, f2] at this
   rw [show lenSq (.ints ln lc k xs) = nn.toNat from hm]
   exact this
  ·rename_i ln cd m xs hz
   cases hv
   obtain ⟨i2, z, q1, q2, ⟨c1, c2, f1, ⟨f2, f3⟩, f5⟩, _, q3, q4, q5⟩ := zeroSq_ok (loc := loc) (fm := fm) (lk := lk) hz
   rw [hi] at q1
   cases q1
   have f5 : c2 = [] := f5
   subst f5
   rw [List.append_nil] at f1
   have hm : xs.length = nn.toNat := by rw [f3]; exact q3
   refine ⟨c1, f2, by rw [Els.length _ _ f2]; simp [lenSq, wSq], fun _ => ?_⟩
   have := hsrc (.lst ln cd m xs) z q2 q5
   rw [f1] at this
   rw [show lenSq (.els ln cd xs) = nn.toNat from hm]
   exact this
  ·cases hv
 split at he
 ·replace he := Tr.is_gd.1 he
  obtain ⟨hg, he⟩ := he
  simp only [Bool.and_eq_true] at hg
  exact key true (of_decide_eq_true hg.1) (of_decide_eq_true hg.2) he
 ·exact key false he.1.1 he.1.2 he.2
end
end
section
theorem keyM_inj {a b : Int} (h : keyM a = keyM b) : a = b := by
 unfold keyM at h
 cases h
 rfl
section
variable {fm : Fm} {c : Cd} {M : Int → Option c.T}
theorem MapOk.keys {es : List MapEntry} (h : MapOk fm c M es) : ∀ e ∈ es, MapKept.IsKey (.int .i64) e.key := fun e he => by
 obtain ⟨n, x, h1, _⟩ := h.has e he
 rw [h1]
 rfl
theorem MapOk.out {es : List MapEntry} (h : MapOk fm c M es) {n : Int} (hk : ∀ e ∈ es, e.key ≠ keyM n) : M n = none := by
 cases hm : M n with
 | none => rfl
 | some x =>
  obtain ⟨e, he, h1⟩ := h.all n x hm
  exact absurd h1 (hk e he)
theorem MapOk.found {es : List MapEntry} (h : MapOk fm c M es) {n : Int} {e : MapEntry} (he : e ∈ es) (hk : e.key = keyM n) : ∃ x, M n = some x ∧ VE fm c x e.val := by
 obtain ⟨m, x, h1, h2, h3⟩ := h.has e he
 have := keyM_inj (h1.symm.trans hk)
 subst this
 exact ⟨x, h2, h3⟩
theorem once_ne {es : List MapEntry} (h : es.Pairwise fun e f => e.key ≠ f.key) {i j : Nat} {e f : MapEntry} (hi : es[i]? = some e) (hj : es[j]? = some f) (hne : i ≠ j) : e.key ≠ f.key := by
 obtain ⟨hi1, hi2⟩ := List.getElem?_eq_some_iff.1 hi
 obtain ⟨hj1, hj2⟩ := List.getElem?_eq_some_iff.1 hj
 rw [List.pairwise_iff_getElem] at h
 rcases Nat.lt_or_gt_of_ne hne with hl | hl
 ·have := h i j hi1 hj1 hl
  rwa [hi2, hj2] at this
 ·have := h j i hj1 hi1 hl
  rw [hi2, hj2] at this
  exact Ne.symm this
theorem MapOk.push {es : Array MapEntry} (h : MapOk fm c M es.toList) {n : Int} {x : c.T} {v : Value} (clock : Nat) (hk : ∀ e ∈ es.toList, e.key ≠ keyM n) (hv : VE fm c x v) :
  MapOk fm c (fun q => if q = n then some x else M q) (es.push { key := keyM n, val := v, born := clock }).toList := by
 refine ⟨fun e he => ?_, fun m y hy => ?_, ?_⟩
 ·rw [Array.toList_push, List.mem_append, List.mem_singleton] at he
  rcases he with he | rfl
  ·obtain ⟨m, y, h1, h2, h3⟩ := h.has e he
   refine ⟨m, y, h1, ?_, h3⟩
   have : m ≠ n := fun q => hk e he (q ▸ h1)
   simp only [this, if_false]
   exact h2
  ·exact ⟨n, x, rfl, by simp, hv⟩
 ·rw [Array.toList_push]
  by_cases hm : m = n
  ·exact ⟨_, List.mem_append_right _ (List.mem_singleton.2 rfl), by rw [hm]⟩
  ·simp only [hm, if_false] at hy
   obtain ⟨e, he, h1⟩ := h.all m y hy
   exact ⟨e, List.mem_append_left _ he, h1⟩
 ·rw [Array.toList_push, List.pairwise_append]
  exact ⟨h.once, by simp, fun e he f hf => by
   rw [List.mem_singleton] at hf
   subst hf
   exact hk e he⟩
theorem MapOk.modify {es : Array MapEntry} (h : MapOk fm c M es.toList) {n : Int} {x : c.T} {v : Value} {j : Nat} {e0 : MapEntry} (hj : es.toList[j]? = some e0) (hk : e0.key = keyM n) (hv : VE fm c x v) :
  MapOk fm c (fun q => if q = n then some x else M q) (es.modify j fun e => { e with key := keyM n, val := v }).toList := by
 have hj' : es[j]? = some e0 := by simpa using hj
 have hkeys := MapKept.modify_keys (es := es) j (fun e => { e with key := keyM n, val := v }) (fun e he => by rw [hj'] at he; cases he; exact hk.symm)
 refine ⟨fun e he => ?_, fun m y hy => ?_, ?_⟩
 ·obtain ⟨q, hq⟩ := List.mem_iff_getElem?.1 he
  rw [Array.getElem?_toList, Array.getElem?_modify] at hq
  by_cases hjq : j = q
  ·rw [if_pos hjq, ← hjq, hj'] at hq
   simp only [Option.map_some, Option.some.injEq] at hq
   subst hq
   exact ⟨n, x, rfl, by simp, hv⟩
  ·rw [if_neg hjq] at hq
   have hq' : es.toList[q]? = some e := by simpa using hq
   obtain ⟨m, y, h1, h2, h3⟩ := h.has e (List.mem_iff_getElem?.2 ⟨q, hq'⟩)
   refine ⟨m, y, h1, ?_, h3⟩
   have : m ≠ n := fun e' => once_ne h.once hj hq' hjq (by rw [hk, h1, e'])
   simp only [this, if_false]
   exact h2
 ·have hkey : ∃ e ∈ es.toList, e.key = keyM m := by
   by_cases hm : m = n
   ·exact ⟨e0, List.mem_iff_getElem?.2 ⟨j, hj⟩, by rw [hm]; exact hk⟩
   ·simp only [hm, if_false] at hy
    exact h.all m y hy
  obtain ⟨e, he, h1⟩ := hkey
  have : e.key ∈ (es.modify j fun e => { e with key := keyM n, val := v }).toList.map (·.key) := by
   rw [hkeys]
   exact List.mem_map.2 ⟨e, he, rfl⟩
  obtain ⟨e', he', h2⟩ := List.mem_map.1 this
  exact ⟨e', he', h2.trans h1⟩
 ·rw [← List.pairwise_map (R := (· ≠ ·)) (f := fun e : MapEntry => e.key), hkeys, List.pairwise_map]
  exact h.once
theorem MapOk.erase {es : Array MapEntry} (h : MapOk fm c M es.toList) {n : Int} {j : Nat} {e0 : MapEntry} (hj : es.toList[j]? = some e0) (hk : e0.key = keyM n) :
  MapOk fm c (fun q => if q = n then none else M q) (es.eraseIdxIfInBounds j).toList := by
 have hlt := (List.getElem?_eq_some_iff.1 hj).1
 have he : (es.eraseIdxIfInBounds j).toList = es.toList.eraseIdx j := by
  unfold Array.eraseIdxIfInBounds
  rw [dif_pos (by simpa using hlt)]
  simp
 rw [he]
 have hin : ∀ e, e ∈ es.toList.eraseIdx j → ∃ q, q ≠ j ∧ es.toList[q]? = some e := fun e hm => by
  obtain ⟨q, hq⟩ := List.mem_iff_getElem?.1 hm
  rw [List.getElem?_eraseIdx] at hq
  split at hq
  ·exact ⟨q, by omega, hq⟩
  ·exact ⟨q + 1, by omega, hq⟩
 refine ⟨fun e hm => ?_, fun m y hy => ?_, h.once.sublist (List.eraseIdx_sublist _ _)⟩
 ·obtain ⟨q, hq, hq'⟩ := hin e hm
  obtain ⟨m, y, h1, h2, h3⟩ := h.has e (List.mem_iff_getElem?.2 ⟨q, hq'⟩)
  refine ⟨m, y, h1, ?_, h3⟩
  have : m ≠ n := fun e' => once_ne h.once hq' hj hq (by rw [hk, h1, e'])
  simp only [this, if_false]
  exact h2
 ·by_cases hm : m = n
  ·simp only [hm, if_true] at hy
   cases hy
  ·simp only [hm, if_false] at hy
   obtain ⟨e, he, h1⟩ := h.all m y hy
   obtain ⟨q, hq⟩ := List.mem_iff_getElem?.1 he
   have hqj : q ≠ j := fun e' => by
    rw [e', hj] at hq
    cases hq
    exact hm (keyM_inj (h1.symm.trans hk))
   refine ⟨e, List.mem_iff_getElem?.2 ?_, h1⟩
   rcases Nat.lt_or_gt_of_ne hqj with hl | hl
   ·exact ⟨q, by rw [List.getElem?_eraseIdx, if_pos hl]; exact hq⟩
   ·exact ⟨q - 1, by rw [List.getElem?_eraseIdx, if_neg (by omega), show q - 1 + 1 = q by omega]; exact hq⟩
theorem MapOk.lacks {es : List MapEntry} (h : MapOk fm c M es) {n : Int} (hk : ∀ e ∈ es, e.key ≠ keyM n) : MapOk fm c (fun q => if q = n then none else M q) es := by
 have : (fun q => if q = n then none else M q) = M := by
  funext q
  by_cases hq : q = n
  ·simp only [hq, if_true]
   exact (h.out hk).symm
  ·simp only [hq, if_false]
 rw [this]
 exact h
end
section
variable {loc : Loc} {fm : Fm} {lk : Lk}
theorem LMap.keys : ∀ {l : List (Int × A)} {es : List MapEntry}, LMap loc fm lk l es → ∀ e ∈ es, MapKept.IsKey (.int .i64) e.key
 | [], es, h, e, he => by rw [show es = [] from h] at he; cases he
 | p :: l, es, ⟨e0, es', h1, h2, _, h4⟩, e, he => by
  rw [h1] at he
  rcases List.mem_cons.1 he with rfl | he
  ·rw [h2]; rfl
  ·exact LMap.keys h4 e he
theorem LMap.out : ∀ {l : List (Int × A)} {es : List MapEntry} {n : Int}, LMap loc fm lk l es → (∀ e ∈ es, e.key ≠ keyM n) → findL n l = none ∧ cutL n l = l ∧ (∀ x, setL n x l = l ++ [(n, x)]) ∧ n ∉ l.map (·.1)
 | [], _, _, _, _ => ⟨rfl, rfl, fun _ => rfl, by simp⟩
 | (k, a) :: l, es, n, ⟨e0, es', h1, h2, _, h4⟩, hk => by
  have hne : ¬ k = n := fun q => hk e0 (by rw [h1]; exact List.mem_cons_self ..) (by rw [h2, q])
  obtain ⟨g1, g2, g3, g4⟩ := LMap.out h4 (fun e he => hk e (by rw [h1]; exact List.mem_cons_of_mem _ he))
  refine ⟨by simp [findL, hne, g1], by simp [cutL, hne, g2], fun x => by simp [setL, hne, g3 x], ?_⟩
  simp only [List.map_cons, List.mem_cons, not_or]
  exact ⟨fun q => hne q.symm, g4⟩
theorem LMap.at : ∀ {l : List (Int × A)} {es : List MapEntry} {n : Int} {j : Nat} {e : MapEntry}, LMap loc fm lk l es → (l.map (·.1)).Nodup → es[j]? = some e → e.key = keyM n →
  ∃ x, findL n l = some x ∧ VR loc fm lk x e.val ∧ LMap loc fm lk (cutL n l) (es.eraseIdx j) ∧ ((cutL n l).map (·.1)).Sublist (l.map (·.1)) ∧
   ∀ (y : A) (v : Value), VR loc fm lk y v → LMap loc fm lk (setL n y l) (es.set j { e with key := keyM n, val := v }) ∧ (setL n y l).map (·.1) = l.map (·.1)
 | [], es, n, j, e, h, _, hj, _ => by rw [show es = [] from h] at hj; simp at hj
 | (k, a) :: l, es, n, j, e, ⟨e0, es', h1, h2, h3, h4⟩, hd, hj, hk => by
  subst h1
  simp only [List.map_cons, List.nodup_cons] at hd
  cases j with
  | zero =>
   simp only [List.getElem?_cons_zero, Option.some.injEq] at hj
   subst hj
   have hkn : k = n := keyM_inj (h2.symm.trans hk)
   subst hkn
   refine ⟨a, by simp [findL], h3, by simpa [cutL] using h4, by simp [cutL], fun y v hv => ⟨?_, by simp [setL]⟩⟩
   simp only [setL, decide_true, List.set_cons_zero]
   exact ⟨_, es', rfl, rfl, hv, h4⟩
  | succ j =>
   simp only [List.getElem?_cons_succ] at hj
   obtain ⟨x, g1, g2, g3, g4, g5⟩ := LMap.at h4 hd.2 hj hk
   have hne : ¬ k = n := fun q => by
    subst q
    have : findL k l = some x → k ∈ l.map (·.1) := by
     clear g1 g2 g3 g4 g5 hd h4
     induction l with
     | nil => intro h; cases h
     | cons p l ih =>
      obtain ⟨k', a'⟩ := p
      intro h
      by_cases q : k' = k
      ·simp [q]
      ·simp only [findL, q, decide_false] at h
       simp only [List.map_cons, List.mem_cons]
       exact Or.inr (ih h)
    exact hd.1 (this g1)
   refine ⟨x, by simp [findL, hne, g1], g2, ?_, ?_, fun y v hv => ?_⟩
   ·simp only [cutL, hne, decide_false, List.eraseIdx_cons_succ]
    exact ⟨e0, _, rfl, h2, h3, g3⟩
   ·simp only [cutL, hne, decide_false, List.map_cons]
    exact g4.cons_cons k
   ·obtain ⟨q1, q2⟩ := g5 y v hv
    simp only [setL, hne, decide_false, List.set_cons_succ, List.map_cons, q2]
    exact ⟨⟨e0, _, rfl, h2, h3, q1⟩, trivial⟩
theorem LMap.push : ∀ {l : List (Int × A)} {es : List MapEntry} {n : Int} {x : A} {e : MapEntry}, LMap loc fm lk l es → e.key = keyM n → VR loc fm lk x e.val → LMap loc fm lk (l ++ [(n, x)]) (es ++ [e])
 | [], es, n, x, e, h, hk, hv => by rw [show es = [] from h]; exact ⟨e, [], rfl, hk, hv, rfl⟩
 | p :: l, es, n, x, e, ⟨e0, es', h1, h2, h3, h4⟩, hk, hv => ⟨e0, es' ++ [e], by rw [h1]; rfl, h2, h3, LMap.push h4 hk hv⟩
end
section
variable {C : Ctx} {n nid : Nat} {w : World} {B : Base} {loc : Loc} {fm : Fm} {tm : Nat → A} {lk : Lk} {a : Act} {o : Oper}
theorem modify_list (es : Array MapEntry) (j : Nat) (e : MapEntry) (f : MapEntry → MapEntry) (h : es.toList[j]? = some e) : (es.modify j f).toList = es.toList.set j (f e) := by
 apply List.ext_getElem?
 intro q
 rw [Array.getElem?_toList, Array.getElem?_modify, List.getElem?_set]
 have hj : es[j]? = some e := by simpa using h
 have hlt := (List.getElem?_eq_some_iff.1 h).1
 by_cases hq : j = q
 ·subst hq
  rw [if_pos rfl, if_pos rfl, if_pos hlt, hj]
  rfl
 ·rw [if_neg hq, if_neg hq]
  simp
theorem erase_list (es : Array MapEntry) (j : Nat) (e : MapEntry) (h : es.toList[j]? = some e) : (es.eraseIdxIfInBounds j).toList = es.toList.eraseIdx j := by
 have hlt := (List.getElem?_eq_some_iff.1 h).1
 unfold Array.eraseIdxIfInBounds
 rw [dif_pos (by simpa using hlt)]
 simp
theorem mapT_ok {t e : TypeId} (h : mapT C t = some e) : ∃ k, C.P.underlying t = some (.map k e) ∧ C.P.underlying k = some (.int .i64) := by
 unfold mapT at h
 split at h
 ·rename_i k e' hu
  split at h
  ·rename_i hk
   cases h
   unfold intT at hk
   split at hk
   ·rename_i k' hk'
    cases hk
    exact ⟨k, hu, hk'⟩
   ·cases hk
  ·cases h
 ·cases h
theorem keyA_ok {x : A} {m : Int} {v : Value} (hx : VR loc fm lk x v) (h : keyA x = some m) : v = keyM m := by
 unfold keyA at h
 split at h
 ·cases h
  exact (VR_int hx).1
 ·cases h
theorem zeroA_ok {e : TypeId} {x : A} (h : zeroA C e = some x) : ∃ i z, C.P.info? e = some i ∧ i.zero = some z ∧ VR loc fm lk x z := by
 unfold zeroA at h
 split at h
 ·rename_i i ps hi hz
  obtain ⟨i', z, hi', hz', hp⟩ := zeroT_ok (loc := loc) (fm := fm) (lk := lk) hz
  have : i' = i := Option.some.inj (hi'.symm.trans hi)
  subst this
  refine ⟨i', z, hi, hz', ?_⟩
  rw [hz'] at h
  split at h
  ·rename_i cs hcs
   cases hcs
   have := psA_ok hp h
   simpa [Value.cells] using this
  ·cases h
  ·rename_i h1 h2 heq
   cases heq
   obtain ⟨u, hu, hv⟩ := psA_ok hp h
   have : z.cells = #[z] := by
    cases z <;> first
     | rfl
     | exact absurd rfl (h1 _)
   rw [this] at hu
   simp only [List.cons.injEq, and_true] at hu
   rw [hu]
   exact hv
  ·cases h
 ·cases h
theorem elA_agg (c : Cd) (x : c.T) : aggA (elA c (encA c x)) = c.agg := by
 cases c <;> rfl
theorem VE_VR {c : Cd} {x : c.T} {v : Value} (h : VE fm c x v) : VR loc fm lk (elA c (encA c x)) v := by
 unfold VR
 unfold VE at h
 rw [elA_agg]
 revert h
 cases c.agg with
 | true => exact fun ⟨cs, e1, e2, _⟩ => ⟨cs, e1, elA_VC e2⟩
 | false => exact fun e => elA_VC e
theorem toEl_VE {c : Cd} {x : A} {y : c.T} {v : Value} (h : toEl c x = some y) (hg : aggA x = c.agg) (hv : VR loc fm lk x v) : VE fm c y v := by
 unfold VR at hv
 unfold VE
 rw [hg] at hv
 revert hv
 cases c.agg with
 | true => exact fun ⟨ds, e1, e2⟩ => ⟨ds, e1, toEl_ok h e2, enc_w (toEl_ok h e2)⟩
 | false => exact fun e => toEl_ok h e
theorem okT_ok {ok b : Bool} {x : A} {e : Eff} {v : Value} (h : (okT ok b x).is e) (hv : VR loc fm lk x v) : ∃ y, e = ⟨y, []⟩ ∧ VR loc fm lk y (if ok then .tuple #[v, .bool b] else v) := by
 unfold okT at h
 split at h
 ·replace h := is_ret.1 h
  exact ⟨_, h, ⟨[v, .bool b], rfl, v, [.bool b], rfl, by
   unfold VR at hv
   exact hv, .bool b, [], rfl, rfl, rfl⟩⟩
 ·replace h := is_ret.1 h
  exact ⟨_, h, hv⟩
theorem lookupT_ok (h : RelL C.gl B loc fm n tm lk a w) (hd : ∀ d, o.dst = some d → d < n) {t : TypeId} {x k : Operand} {ok : Bool} {e : Eff} (ho : o.op = .lookup t x k ok) (he : (lookupT C lk t (ev C tm x) (ev C tm k) ok).is e) :
  Does C.P o a w (Post C B n tm lk a o.dst e) := by
 have hx := h.ev x
 have hk := h.ev k
 generalize ev C tm x = X at *
 generalize ev C tm k = K at *
 unfold lookupT at he
 split at he
 case h_2 => exact he.elim
 rename_i el m hm hkm
 obtain ⟨kt, hu, huk⟩ := mapT_ok hm
 have ek := keyA_ok hk hkm
 split at he
 case h_2 => exact he.elim
 rename_i z hz
 obtain ⟨i, zv, hi, hzv, hvz⟩ := zeroA_ok (loc := loc) (fm := fm) (lk := lk) hz
 have hik : MapKept.IsKey (.int .i64) (keyM m) := rfl
 split at he
 ·have ex := VR_val hx
  obtain ⟨y, rfl, hy⟩ := okT_ok he hvz
  refine does_pure h hd ?_ hy
  simp [execOp, ho, ex, ek, Instr.lookup, run_underlying hu, MapKept.run_checkKey huk hik, MapKept.run_findKey (k := keyM m) (l := []) (a := none) huk rfl, run_zeroValue' hi hzv]
 ·rename_i id
  obtain ⟨ex, _⟩ := VR_map hx
  split at he
  case h_3 => exact he.elim
  ·rename_i l hlk
   replace he := Tr.is_lit.1 he
   obtain ⟨hr, hdis, es, clock, k1, k2⟩ := h.heap.ok id _ hlk
   rcases MapKept.findNow_spec hik es.toList 0 k2.keys with ⟨h1, h2⟩ | ⟨j, e', h1, h2, h3⟩
   ·rw [(k2.out h2).1] at he
    obtain ⟨y, rfl, hy⟩ := okT_ok he hvz
    refine does_pure h hd ?_ hy
    simp [execOp, ho, ex, ek, Instr.lookup, run_underlying hu, MapKept.run_getObj_map k1, MapKept.run_checkKey huk hik, MapKept.run_findKey huk h1, run_zeroValue' hi hzv]
   ·obtain ⟨x', g1, g2, _⟩ := k2.at hdis h2 h3
    rw [g1] at he
    obtain ⟨y, rfl, hy⟩ := okT_ok he g2
    refine does_pure h hd ?_ hy
    simp [execOp, ho, ex, ek, Instr.lookup, run_underlying hu, MapKept.run_getObj_map k1, MapKept.run_checkKey huk hik, MapKept.run_findKey huk h1]
  rename_i c M hlk
  replace he := Tr.is_gd.1 he
  obtain ⟨_, he⟩ := he
  obtain ⟨hr, es, clock, k1, k2⟩ := h.heap.ok id _ hlk
  replace he := Tr.is_opt.1 he
  rcases MapKept.findNow_spec hik es.toList 0 k2.keys with ⟨h1, h2⟩ | ⟨j, e', h1, h2, h3⟩
  ·rw [k2.out h2] at he
   obtain ⟨y, rfl, hy⟩ := okT_ok he hvz
   refine does_pure h hd ?_ hy
   simp [execOp, ho, ex, ek, Instr.lookup, run_underlying hu, MapKept.run_getObj_map k1, MapKept.run_checkKey huk hik, MapKept.run_findKey huk h1, run_zeroValue' hi hzv]
  ·obtain ⟨y, hy1, hy2⟩ := k2.found (List.mem_iff_getElem?.2 ⟨j, h2⟩) h3
   rw [hy1] at he
   obtain ⟨y', rfl, hy'⟩ := okT_ok he (VE_VR (loc := loc) (lk := lk) hy2)
   refine does_pure h hd ?_ hy'
   simp [execOp, ho, ex, ek, Instr.lookup, run_underlying hu, MapKept.run_getObj_map k1, MapKept.run_checkKey huk hik, MapKept.run_findKey huk h1]
 ·exact he.elim
theorem updateT_ok (hC : Ro C) (h : RelL C.gl B loc fm n tm lk a w) (hd : ∀ d, o.dst = some d → d < n) {t : TypeId} {m k x : Operand} {e : Eff} (ho : o.op = .mapUpdate t m k x) (he : (updateT C lk t (ev C tm m) (ev C tm k) (ev C tm x)).is e) :
  Does C.P o a w (Post C B n tm lk a o.dst e) := by
 have hm := h.ev m
 have hk := h.ev k
 have hx := h.ev x
 generalize ev C tm m = MM at *
 generalize ev C tm k = K at *
 generalize ev C tm x = X at *
 unfold updateT at he
 split at he
 case h_2 => exact he.elim
 rename_i el key id hmt hkm
 obtain ⟨kt, hu, huk⟩ := mapT_ok hmt
 have ek := keyA_ok hk hkm
 obtain ⟨em, _⟩ := VR_map hm
 have hik : MapKept.IsKey (.int .i64) (keyM key) := rfl
 split at he
 case h_3 => exact he.elim
 ·rename_i l hlk
  replace he := Tr.is_lit.1 he
  replace he := (Tr.is_leaf.1 he).symm
  subst he
  obtain ⟨hr, hdis, es, clock, k1, k2⟩ := h.heap.ok id _ hlk
  rcases MapKept.findNow_spec hik es.toList 0 k2.keys with ⟨h1, h2⟩ | ⟨j, e', h1, h2, h3⟩
  ·obtain ⟨_, _, g3, g4⟩ := k2.out h2
   have hR := h.setMapL hlk (own_ge hC h hlk rfl) (l' := setL key X l) (es.push { key := keyM key, val := a.eval x, born := clock }) (clock + 1) (by
    rw [g3, Array.toList_push]
    exact k2.push rfl hx) (by
    rw [g3, List.map_append, List.nodup_append]
    exact ⟨hdis, by simp, fun u hu v hv e => by
     simp only [List.map_cons, List.map_nil, List.mem_singleton] at hv
     subst hv e
     exact g4 hu⟩)
   refine Or.inr (Or.inl ⟨_, ?_, loc, fm, hR.val o.dst hd rfl⟩)
   simp [execOp, ho, em, ek, Instr.mapUpdate, run_underlying hu, MapKept.run_getObj_map k1, MapKept.run_checkKey huk hik, MapKept.run_findKey huk h1, MapKept.run_setObj_map _ k1]
  ·obtain ⟨x', g1, g2, _, _, g5⟩ := k2.at hdis h2 h3
   obtain ⟨q1, q2⟩ := g5 X _ hx
   have hj : es[j]? = some e' := by simpa using h2
   have hR := h.setMapL hlk (own_ge hC h hlk rfl) (l' := setL key X l) (es.modify j fun e => { e with key := keyM key, val := a.eval x }) clock (by
    rw [modify_list _ _ _ _ h2]
    exact q1) (by rw [q2]; exact hdis)
   refine Or.inr (Or.inl ⟨_, ?_, loc, fm, hR.val o.dst hd rfl⟩)
   simp [execOp, ho, em, ek, Instr.mapUpdate, run_underlying hu, MapKept.run_getObj_map k1, MapKept.run_checkKey huk hik, MapKept.run_findKey huk h1, hj, h3, MapKept.run_keyThatStays hik, MapKept.run_setObj_map _ k1]
 rename_i c M x' fz hlk hfz
 replace he := Tr.is_gd.1 he
 obtain ⟨hg, he⟩ := he
 simp only [Bool.and_eq_true] at hg
 have hag := of_decide_eq_true hg.2
 split at he
 case h_2 => exact he.elim
 rename_i y hy
 replace he := (Tr.is_leaf.1 he).symm
 subst he
 obtain ⟨fm2, f1, f2, f3, f4⟩ := frzV_ok hC h hfz hx
 have hve := toEl_VE hy hag f4
 have hlk2 : updL lk fz id = some (.imap c M) := by
  rcases f3 id with e1 | ⟨t', ps', e1, _⟩
  ·rw [e1, hlk]
  ·rw [hlk] at e1; cases e1
 obtain ⟨hr, es, clock, k1, k2⟩ := f2.heap.ok id _ hlk2
 rcases MapKept.findNow_spec hik es.toList 0 k2.keys with ⟨h1, h2⟩ | ⟨j, e', h1, h2, h3⟩
 ·have hR := f2.setMap hlk2 (own_ge hC f2 hlk2 rfl) _ (clock + 1) (k2.push clock h2 hve)
  refine Or.inr (Or.inl ⟨{ w with heap := w.heap.setIfInBounds (loc id).blk (.map (es.push { key := keyM key, val := a.eval x, born := clock }) (clock + 1)) }, ?_, loc, fm2, by rw [updL_append]; exact hR.val o.dst hd rfl⟩)
  simp [execOp, ho, em, ek, Instr.mapUpdate, run_underlying hu, MapKept.run_getObj_map k1, MapKept.run_checkKey huk hik, MapKept.run_findKey huk h1, MapKept.run_setObj_map _ k1]
 ·have hR := f2.setMap hlk2 (own_ge hC f2 hlk2 rfl) _ clock (k2.modify h2 h3 hve)
  have hj : es[j]? = some e' := by simpa using h2
  refine Or.inr (Or.inl ⟨{ w with heap := w.heap.setIfInBounds (loc id).blk (.map (es.modify j fun e => { e with key := keyM key, val := a.eval x }) clock) }, ?_, loc, fm2, by rw [updL_append]; exact hR.val o.dst hd rfl⟩)
  simp [execOp, ho, em, ek, Instr.mapUpdate, run_underlying hu, MapKept.run_getObj_map k1, MapKept.run_checkKey huk hik, MapKept.run_findKey huk h1, hj, h3, MapKept.run_keyThatStays hik, MapKept.run_setObj_map _ k1]
theorem deleteT_ok (hC : Ro C) (h : RelL C.gl B loc fm n tm lk a w) (hd : ∀ d, o.dst = some d → d < n) {c : Call} {t : TypeId} {ts : List TypeId} {X Y : A} {e : Eff} (ho : o.op = .call c) (hc : c.callee = .builtin .delete)
  (hts : c.argTypes.toList = t :: ts) (hargs : c.args.toList.map (ev C tm) = [X, Y]) (he : (deleteT C lk t X Y).is e) : Does C.P o a w (Post C B n tm lk a o.dst e) := by
 obtain ⟨consts, hrun⟩ := does_builtin (C := C) (w := w) (a := a) ho hc
 obtain ⟨x, y, ha, hX, hY⟩ := args2 hargs
 have hx := h.ev x
 have hy := h.ev y
 rw [hX] at hx
 rw [hY] at hy
 have hat : c.argTypes = (t :: ts).toArray := by apply Array.ext'; simpa using hts
 rw [ha, hat] at hrun
 unfold deleteT at he
 split at he
 case h_2 => exact he.elim
 rename_i el key id hmt hkm
 obtain ⟨kt, hu, huk⟩ := mapT_ok hmt
 have ek := keyA_ok hy hkm
 obtain ⟨em, _⟩ := VR_map hx
 have hik : MapKept.IsKey (.int .i64) (keyM key) := rfl
 have htup : ∀ loc fm lk, VR loc fm lk (.tup []) (.tuple #[]) := fun loc fm lk => ⟨[], rfl, rfl⟩
 split at he
 case h_3 => exact he.elim
 rotate_left
 ·rename_i l hlk
  replace he := Tr.is_lit.1 he
  replace he := (Tr.is_leaf.1 he).symm
  subst he
  obtain ⟨hr, hdis, es, clock, k1, k2⟩ := h.heap.ok id _ hlk
  rcases MapKept.findNow_spec hik es.toList 0 k2.keys with ⟨h1, h2⟩ | ⟨j, e', h1, h2, h3⟩
  ·obtain ⟨_, g2, _, _⟩ := k2.out h2
   have hR := h.setMapL hlk (own_ge hC h hlk rfl) (l' := cutL key l) es clock (by rw [g2]; exact k2) (by rw [g2]; exact hdis)
   refine Or.inl ⟨.tuple #[], _, ?_, loc, fm, hR.val o.dst hd (htup _ _ _)⟩
   rw [hrun]
   simp [builtin, Builtin.delete_, em, ek, run_underlying hu, MapKept.run_getObj_map k1, MapKept.run_checkKey huk hik, MapKept.run_findKey huk h1, MapKept.run_setObj_map _ k1]
  ·obtain ⟨x', _, _, g3, g4, _⟩ := k2.at hdis h2 h3
   have hR := h.setMapL hlk (own_ge hC h hlk rfl) (l' := cutL key l) (es.eraseIdxIfInBounds j) clock (by rw [erase_list _ _ _ h2]; exact g3) (g4.nodup hdis)
   refine Or.inl ⟨.tuple #[], _, ?_, loc, fm, hR.val o.dst hd (htup _ _ _)⟩
   rw [hrun]
   simp [builtin, Builtin.delete_, em, ek, run_underlying hu, MapKept.run_getObj_map k1, MapKept.run_checkKey huk hik, MapKept.run_findKey huk h1, MapKept.run_setObj_map _ k1]
 rename_i cd M hlk
 replace he := (Tr.is_leaf.1 he).symm
 subst he
 obtain ⟨hr, es, clock, k1, k2⟩ := h.heap.ok id _ hlk
 rcases MapKept.findNow_spec hik es.toList 0 k2.keys with ⟨h1, h2⟩ | ⟨j, e', h1, h2, h3⟩
 ·have hR := h.setMap hlk (own_ge hC h hlk rfl) es clock (k2.lacks h2)
  refine Or.inl ⟨.tuple #[], _, ?_, loc, fm, hR.val o.dst hd (htup _ _ _)⟩
  rw [hrun]
  simp [builtin, Builtin.delete_, em, ek, run_underlying hu, MapKept.run_getObj_map k1, MapKept.run_checkKey huk hik, MapKept.run_findKey huk h1, MapKept.run_setObj_map _ k1]
 ·have hR := h.setMap hlk (own_ge hC h hlk rfl) (es.eraseIdxIfInBounds j) clock (k2.erase h2 h3)
  refine Or.inl ⟨.tuple #[], _, ?_, loc, fm, hR.val o.dst hd (htup _ _ _)⟩
  rw [hrun]
  simp [builtin, Builtin.delete_, em, ek, run_underlying hu, MapKept.run_getObj_map k1, MapKept.run_checkKey huk hik, MapKept.run_findKey huk h1, MapKept.run_setObj_map _ k1]
theorem makeMapT_ok (h : RelL C.gl B loc fm n tm lk a w) (hd : ∀ d, o.dst = some d → d < n) {t : TypeId} (hn : lk nid = none) (ho : o.op = .makeMap t none) :
  Does C.P o a w (Post C B n tm lk a o.dst ⟨.map nid, [(nid, .lmap [])]⟩) := by
 obtain ⟨loc', k1, k2, k3⟩ := h.newB hn (.lmap []) (.map #[] 0) ⟨w.heap.size, fun _ => 0, fun _ => 0, fun _ => 0, 0, true⟩ rfl (fun loc' lk' hle e _ => ⟨by rw [e], List.nodup_nil, #[], 0, by rw [e]; exact alloc_new _ _, rfl⟩)
 refine Or.inl ⟨.map (some w.heap.size), _, ?_, loc', fm, k3.val o.dst hd ⟨by rw [k1], by simp⟩⟩
 simp [execOp, ho, Instr.makeMap]
end
end
section
section
variable {C : Ctx} {n nid : Nat} {w : World} {B : Base} {loc : Loc} {fm : Fm} {tm : Nat → A} {lk : Lk} {a : Act} {o : Oper}
theorem evs_ok (h : RelL C.gl B loc fm n tm lk a w) : ∀ l : List Operand, VTs loc fm lk (l.map (ev C tm)) (l.map a.eval)
 | [] => rfl
 | x :: l => ⟨_, _, rfl, by
  have := h.ev x
  unfold VR at this
  exact this, evs_ok h l⟩
theorem VTs.get {l : List A} : ∀ {vs : List Value} {i : Nat} {x : A}, VTs loc fm lk l vs → l[i]? = some x → ∃ v, vs[i]? = some v ∧ VR loc fm lk x v := by
 induction l with
 | nil => intro vs i x _ h; simp at h
 | cons y l ih =>
  intro vs i x hv h
  obtain ⟨v, r, rfl, h1, h2⟩ := hv
  cases i with
  | zero =>
   simp only [List.getElem?_cons_zero, Option.some.injEq] at h
   subst h
   exact ⟨v, rfl, h1⟩
  | succ i =>
   simp only [List.getElem?_cons_succ] at h ⊢
   exact ih h2 h
theorem slice_bnd {X : A} {ad : Option Addr} {m m' c : Nat} {l : Bool} (hv : VR loc fm lk X (.slice ad m c)) (hl : lenA lk X = some (l, m')) : m < lim63 := by
 unfold lenA at hl
 split at hl
 ·have := VR_val hv
  cases this
  decide
 ·obtain ⟨_, ad', c', e, e1, e2, _⟩ := VR_fzi hv
  cases e
  omega
 ·obtain ⟨_, _, ad', c', e, e1, e2, _⟩ := VR_fz hv
  cases e
  omega
 ·obtain ⟨ad', c', e, e1, e2, _⟩ := VR_vec hv
  cases e
  omega
 ·obtain ⟨ad', c', e, e1, e2, _⟩ := VR_slc hv
  cases e
  omega
 ·cases hl
theorem goInt_ok {m : Nat} (h : m < lim63) (l : Bool) : VR loc fm lk (.int l .i64 (m : Int)) (goInt m) := by
 unfold lim63 at h
 exact ⟨rfl, wf_i64.2 ⟨by omega, by omega⟩⟩
theorem wf_min {k : IntKind} {x y : Int} (hx : wf k x) (hy : wf k y) : wf k (if y < x then y else x) := by
 split
 ·exact hy
 ·exact hx
theorem wf_max {k : IntKind} {x y : Int} (hx : wf k x) (hy : wf k y) : wf k (if y > x then y else x) := by
 split
 ·exact hy
 ·exact hx
theorem minT_ok {x y : A} {e : Eff} (h : (minT x y).is e) : ∃ l k a l' b l2, x = .int l k a ∧ y = .int l' k b ∧ e = ⟨.int l2 k (if b < a then b else a), []⟩ := by
 unfold minT at h
 split at h
 ·rename_i l k a l' k' b
  replace h := Tr.is_gd.1 h
  obtain ⟨hk, h⟩ := h
  have hk := of_decide_eq_true hk
  subst hk
  split at h
  ·exact ⟨l, k, a, l', b, true, rfl, rfl, is_ret.1 h⟩
  ·replace h := Tr.is_br.1 h
   split at h
   ·rename_i hb
    exact ⟨l, k, a, l', b, _, rfl, rfl, by rw [if_pos (of_decide_eq_true hb)]; exact is_ret.1 h⟩
   ·rename_i hb
    exact ⟨l, k, a, l', b, _, rfl, rfl, by rw [if_neg (of_decide_eq_false hb)]; exact is_ret.1 h⟩
 ·exact h.elim
theorem maxT_ok {x y : A} {e : Eff} (h : (maxT x y).is e) : ∃ l k a l' b l2, x = .int l k a ∧ y = .int l' k b ∧ e = ⟨.int l2 k (if b > a then b else a), []⟩ := by
 unfold maxT at h
 split at h
 ·rename_i l k a l' k' b
  replace h := Tr.is_gd.1 h
  obtain ⟨hk, h⟩ := h
  have hk := of_decide_eq_true hk
  subst hk
  split at h
  ·exact ⟨l, k, a, l', b, true, rfl, rfl, is_ret.1 h⟩
  ·replace h := Tr.is_br.1 h
   split at h
   ·rename_i hb
    exact ⟨l, k, a, l', b, _, rfl, rfl, by rw [if_pos (of_decide_eq_true hb)]; exact is_ret.1 h⟩
   ·rename_i hb
    exact ⟨l, k, a, l', b, _, rfl, rfl, by rw [if_neg (of_decide_eq_false hb)]; exact is_ret.1 h⟩
 ·exact h.elim
theorem builtT_ok (hC : Ro C) (h : RelL C.gl B loc fm n tm lk a w) (hd : ∀ d, o.dst = some d → d < n) {c : Call} {b : Builtin} {e : Eff} (hn : ∀ b, (nid, b) ∈ e.puts → lk nid = none) (ho : o.op = .call c) (hc : c.callee = .builtin b)
  (he : (builtT C lk nid b c.argTypes.toList (c.args.toList.map (ev C tm))).is e) : Does C.P o a w (Post C B n tm lk a o.dst e) := by
 obtain ⟨consts, hrun⟩ := does_builtin (C := C) (w := w) (a := a) ho hc
 unfold builtT at he
 split at he
 ·rename_i l s t hargs hts
  split at he
  case h_2 => exact he.elim
  rename_i hu
  obtain ⟨hlt, he⟩ := Tr.is_lt.1 he
  replace he := is_ret.1 he
  subst he
  obtain ⟨x, ha, hX⟩ := args1 hargs
  have hx := h.ev x
  rw [hX] at hx
  obtain ⟨ex, hb⟩ := VR_str hx
  have hat : c.argTypes = #[t] := by apply Array.ext'; simpa using hts
  rw [ha, hat] at hrun
  refine does_pure h hd (x := goInt s.length) ?_ (goInt_ok hlt l)
  rw [hrun]
  simp [builtin, Builtin.len_, run_underlying hu, ex, baOf_size]
 ·rename_i x0 t _ hargs hts
  split at he
  case h_2 => exact he.elim
  rename_i el l m hu hl
  replace he := is_ret.1 he
  subst he
  obtain ⟨x, ha, hX⟩ := args1 hargs
  have hx := h.ev x
  rw [hX] at hx
  obtain ⟨ad, cc, ex⟩ := lenA_ok h.heap hx hl
  have hat : c.argTypes = #[t] := by apply Array.ext'; simpa using hts
  rw [ha, hat] at hrun
  have hb := slice_bnd (ex ▸ hx) hl
  refine does_pure h hd (x := goInt m) ?_ (goInt_ok hb l)
  rw [hrun]
  simp [builtin, Builtin.len_, run_underlying hu, ex]
 ·rename_i l id s off len cp t hargs hts
  split at he
  case h_2 => exact he.elim
  rename_i hu
  replace he := is_ret.1 he
  subst he
  obtain ⟨x, ha, hX⟩ := args1 hargs
  have hx := h.ev x
  rw [hX] at hx
  obtain ⟨ad, cc, ex, x1, x2, x3, _⟩ := VR_slc hx
  have hat : c.argTypes = #[t] := by apply Array.ext'; simpa using hts
  rw [ha, hat] at hrun
  have hcc : cc = _ := x3
  subst hcc
  refine does_pure h hd (x := goInt cc) ?_ (goInt_ok x2 l)
  rw [hrun]
  simp [builtin, Builtin.cap_, run_underlying hu, ex]
 ·rename_i t hargs hts
  split at he
  case h_2 => exact he.elim
  rename_i hu
  replace he := is_ret.1 he
  subst he
  obtain ⟨x, ha, hX⟩ := args1 hargs
  have hx := h.ev x
  rw [hX] at hx
  have ex := VR_val hx
  have hat : c.argTypes = #[t] := by apply Array.ext'; simpa using hts
  rw [ha, hat] at hrun
  refine does_pure h hd (x := goInt 0) ?_ (goInt_ok (by decide) true)
  rw [hrun]
  simp [builtin, Builtin.cap_, run_underlying hu, ex]
 ·rename_i x0 y0 _ hargs
  obtain ⟨l0, k0, i0, l1, i1, l2, e1, e2, e3⟩ := minT_ok he
  subst e1 e2 e3
  obtain ⟨x, y, ha, hX, hY⟩ := args2 hargs
  have hx := h.ev x
  have hy := h.ev y
  rw [hX] at hx
  rw [hY] at hy
  rw [ha] at hrun
  obtain ⟨ex, wx⟩ := VR_int hx
  obtain ⟨ey, wy⟩ := VR_int hy
  refine does_pure h hd ?_ ⟨rfl, wf_min wx wy⟩
  rw [hrun]
  simp [builtin, Builtin.min_, Builtin.min2, ex, ey]
 ·rename_i x0 y0 _ hargs
  obtain ⟨l0, k0, i0, l1, i1, l2, e1, e2, e3⟩ := maxT_ok he
  subst e1 e2 e3
  obtain ⟨x, y, ha, hX, hY⟩ := args2 hargs
  have hx := h.ev x
  have hy := h.ev y
  rw [hX] at hx
  rw [hY] at hy
  rw [ha] at hrun
  obtain ⟨ex, wx⟩ := VR_int hx
  obtain ⟨ey, wy⟩ := VR_int hy
  refine does_pure h hd ?_ ⟨rfl, wf_max wx wy⟩
  rw [hrun]
  simp [builtin, Builtin.max_, Builtin.max2, ex, ey]
 ·rename_i hargs hts
  exact copyT_ok hC h hd ho hc hts hargs he
 ·rename_i hargs hts
  split at he
  ·rename_i htt
   have htt := Nat.eq_of_beq_eq_true htt
   subst htt
   exact append_ok hC h hd hn ho hc hts hargs he
  ·exact appendZ_ok hC h hd hn ho hc hts hargs he
 ·rename_i hargs hts
  exact clearT_ok hC h hd ho hc hts hargs he
 ·rename_i hargs hts
  exact deleteT_ok hC h hd ho hc hts hargs he
 ·exact he.elim
theorem lenA_some (h : HRel loc fm lk w) {x : A} {v : Value} (hv : VR loc fm lk x v) {l : Bool} {m : Nat} (hq : lenA lk x = some (l, m)) (h0 : 0 < m) : ∃ b n c, v = .slice (some b) n c := by
 obtain ⟨ad, c, e⟩ := lenA_ok h hv hq
 cases ad with
 | some b => exact ⟨b, m, c, e⟩
 | none =>
  exfalso
  unfold lenA at hq
  split at hq
  ·simp only [Option.some.injEq, Prod.mk.injEq] at hq; omega
  ·simp only [Option.some.injEq, Prod.mk.injEq] at hq
   obtain ⟨_, ad', c', e1, _, _, e2⟩ := VR_fzi hv
   rw [e] at e1
   simp only [Value.slice.injEq] at e1
   obtain ⟨b, o, l, f, _⟩ := e2 (by omega)
   rw [f] at e1
   cases e1.1
  ·simp only [Option.some.injEq, Prod.mk.injEq] at hq
   obtain ⟨_, _, ad', c', e1, _, _, e2⟩ := VR_fz hv
   rw [e] at e1
   simp only [Value.slice.injEq] at e1
   obtain ⟨b, o, l, f, _⟩ := e2 (by omega)
   rw [f] at e1
   cases e1.1
  ·obtain ⟨ad', c', e1, e2, _, e3, _⟩ := VR_vec hv
   rw [e] at e1
   simp only [Value.slice.injEq] at e1
   rcases e3 with e3 | ⟨e3, _⟩
   ·omega
   ·rw [e3] at e1; cases e1.1
  ·simp only [Option.some.injEq, Prod.mk.injEq] at hq
   obtain ⟨ad', c', e1, e2, _, _, e3, _⟩ := VR_slc hv
   rw [e] at e1
   simp only [Value.slice.injEq] at e1
   have := e3 (by omega)
   rw [this] at e1
   cases e1.1
  ·cases hq
theorem sliceNil_ok (h : RelL C.gl B loc fm n tm lk a w) (hd : ∀ d, o.dst = some d → d < n) {op : BinOp} {t t' : TypeId} {x y : Operand} {e : Eff} (ho : o.op = .binOp op t x y t') (hn : isNilS (ev C tm y) = true) (hs : isSliceT C.P t = true)
  (he : (sliceNilT lk op (ev C tm x)).is e) : Does C.P o a w (Post C B n tm lk a o.dst e) := by
 have hx := h.ev x
 have hy := h.ev y
 have hu : ∃ el, C.P.underlying t = some (.slice el) := by
  unfold isSliceT at hs
  split at hs
  ·exact ⟨_, by assumption⟩
  ·cases hs
 obtain ⟨el, hu⟩ := hu
 have ey : a.eval y = .slice none 0 0 := by
  unfold isNilS at hn
  split at hn
  ·rename_i e1
   rw [e1] at hy
   exact VR_val hy
  ·cases hn
 have key : ∀ (v : Value) (q : Bool), (v = .slice none 0 0 ∧ q = true) ∨ (∃ b n c, v = .slice (some b) n c) ∧ q = false → a.eval x = v → (eqT op true q).is e → Does C.P o a w (Post C B n tm lk a o.dst e) := fun v q hq ex he => by
  have heq : (Op.equal t v (.slice none 0 0)).run C.P w = .ok q w := by
   rcases hq with ⟨rfl, rfl⟩ | ⟨⟨b, m, c, rfl⟩, rfl⟩ <;> (unfold Op.equal Op.maxDepth Op.equalIn; simp [run_underlying hu])
  refine does_eq h hd ho he ?_ ?_ (fun op => ?_)
  ·rw [ex, ey]
   rcases hq with ⟨rfl, rfl⟩ | ⟨⟨b, m, c, rfl⟩, rfl⟩ <;> simp [binOp, heq]
  ·rw [ex, ey]
   rcases hq with ⟨rfl, rfl⟩ | ⟨⟨b, m, c, rfl⟩, rfl⟩ <;> simp [binOp, heq]
  ·rw [ex, ey]
   rcases hq with ⟨rfl, rfl⟩ | ⟨⟨b, m, c, rfl⟩, rfl⟩ <;> cases op <;> simp [eqGuard]
 generalize ev C tm x = X at *
 unfold sliceNilT at he
 split at he
 ·exact key _ true (Or.inl ⟨rfl, rfl⟩) (VR_val hx) he
 ·rename_i l id s off len k
  obtain ⟨h0, he⟩ := Tr.is_lt.1 he
  obtain ⟨ad, c, ex, x1, x2, x3, x4, x5, x6⟩ := VR_slc hx
  have hc : c = k := x3
  have := x4 (by omega)
  subst this
  exact key _ false (Or.inr ⟨⟨_, _, _, rfl⟩, rfl⟩) ex he
 ·split at he
  ·rename_i l m hl
   obtain ⟨h0, he⟩ := Tr.is_lt.1 he
   obtain ⟨b, m', c, ex⟩ := lenA_some h.heap hx hl h0
   exact key _ false (Or.inr ⟨⟨_, _, _, rfl⟩, rfl⟩) ex he
  ·exact he.elim
theorem extract_ok (h : RelL C.gl B loc fm n tm lk a w) (hd : ∀ d, o.dst = some d → d < n) {x : Operand} {i : Nat} {l : List A} {v : A} (ho : o.op = .extract x i) (hX : ev C tm x = .tup l) (hv : l[i]? = some v) : Does C.P o a w (Post C B n tm lk a o.dst ⟨v, []⟩) := by
 have hx := h.ev x
 rw [hX] at hx
 obtain ⟨vs, ex, hvs⟩ := VR_tup hx
 obtain ⟨u, hu, hr⟩ := hvs.get hv
 refine does_pure h hd (x := u) ?_ hr
 simp [execOp, ho, ex, Instr.extract, hu]
def nilV : Value → Bool
 | .pointer none => true
 | .nilIface => true
 | .nilFunc => true
 | .func (.method _) _ _ => true
 | _ => false
theorem noNil_ok {x : A} {v : Value} (hx : VR loc fm lk x v) (h : noNil x = true) : nilV v = false := by
 unfold noNil at h
 split at h
 ·rw [(VR_ptr hx).1]; rfl
 ·obtain ⟨b, o, l, m, e, _⟩ := VR_fpt hx
  rw [e]; rfl
 ·rw [(VR_map hx).1]; rfl
 ·obtain ⟨us, vs, e, _⟩ := VR_fn hx
  rw [e]; rfl
 ·obtain ⟨u, e, _⟩ := VR_ifc hx
  rw [e]; rfl
 ·cases h
theorem run_nilCheck {x : Operand} (ho : o.op = .nilCheck x) (h : nilV (a.eval x) = false) : (execOp a.eval o).run C.P w = .ok (.value (a.eval x)) w := by
 unfold execOp
 rw [ho]
 simp only
 generalize a.eval x = v at *
 cases v with
 | pointer p => cases p <;> first
  | rfl
  | cases h
 | func f u v => cases f <;> first
  | rfl
  | cases h
 | _ => first
  | rfl
  | cases h
def isCallV (o : Oper) : Bool :=
 match o.op with
 | .call c => match c.callee with
  | .builtin _ => false
  | _ => true
 | _ => false
theorem op1_plain (hC : Ro C) (h : RelL C.gl B loc fm n tm lk a w) (hd : ∀ d, o.dst = some d → d < n) {e : Eff} (hn : ∀ b, (nid, b) ∈ e.puts → lk nid = none) {fn : FuncId → Spec} (hc : isCallV o = false) (he : (op1 C fn lk nid (ev C tm) o).is e) : Does C.P o a w (Post C B n tm lk a o.dst e) := by
 unfold op1 at he
 split at he
 ·rename_i x ho
  replace he := is_ret.1 he
  subst he
  exact does_pure h hd (by simp [execOp, ho]) (h.ev x)
 ·rename_i x ho
  replace he := is_ret.1 he
  subst he
  exact does_pure h hd (by simp [execOp, ho]) (h.ev x)
 ·rename_i c x y ho
  have hcv := h.ev c
  generalize ev C tm c = K at *
  split at he
  ·replace he := is_ret.1 he
   subst he
   have ec := VR_bool hcv
   exact does_pure h hd (by simp [execOp, ho, ec, asBool]) (h.ev x)
  ·replace he := is_ret.1 he
   subst he
   have ec := VR_bool hcv
   exact does_pure h hd (by simp [execOp, ho, ec, asBool]) (h.ev y)
  ·rename_i b
   have ec := VR_bool hcv
   cases b with
   | true =>
    replace he := is_ret.1 ((Tr.is_br.1 he))
    subst he
    exact does_pure h hd (by simp [execOp, ho, ec, asBool]) (h.ev x)
   | false =>
    replace he := is_ret.1 ((Tr.is_br.1 he))
    subst he
    exact does_pure h hd (by simp [execOp, ho, ec, asBool]) (h.ev y)
  ·exact he.elim
 ·rename_i t ho
  split at he
  case h_2 => exact he.elim
  rename_i ps hz
  replace he := (Tr.is_leaf.1 he).symm
  subst he
  exact alloc_ok h hd (hn _ (List.mem_cons_self ..)) ho hz
 ·rename_i t x ho
  replace he := Tr.is_gd.1 he
  obtain ⟨hg, he⟩ := he
  replace he := (Tr.is_leaf.1 he).symm
  subst he
  exact box_ok h hd (hn _ (List.mem_cons_self ..)) ho hg
 ·rename_i t parts ho
  exact buildT_ok h hd ho he
 ·rename_i t len parts ho
  exact buildSliceT_ok hC h hd hn ho he
 ·rename_i t x ho
  exact loadT_ok h hd ho he
 ·rename_i t x y ho
  exact storeT_ok hC h hd ho he
 ·rename_i x ho
  replace he := Tr.is_gd.1 he
  obtain ⟨hg, he⟩ := he
  replace he := is_ret.1 he
  subst he
  refine does_pure h hd (x := a.eval x) ?_ (h.ev x)
  exact run_nilCheck ho (noNil_ok (h.ev x) hg)
 ·rename_i op t x y ty ho
  split at he
  ·rename_i hc
   simp only [Bool.and_eq_true] at hc
   exact sliceNil_ok h hd ho hc.1 hc.2 he
  ·exact binT_ok h hd ho he
 ·rename_i op ty x ho
  exact unT_ok h hd ho he
 ·rename_i s t x ho
  exact convT_ok h hd hn ho he
 ·rename_i t x f ho
  obtain ⟨v, hv, rfl⟩ := is_retO.1 he
  exact fieldT_ok h hd ho hv
 ·rename_i t x i ho
  exact indexT_ok h hd ho he
 ·rename_i t x i ho
  exact indexV_ok h hd ho he
 ·rename_i x i ho
  split at he
  ·rename_i l hl
   obtain ⟨v, hv, rfl⟩ := is_retO.1 he
   exact extract_ok h hd ho hl hv
  ·exact he.elim
 ·rename_i t x lo hi mx ho
  exact sliceT_ok h hd ho he
 ·rename_i t l c ho
  exact makeT_ok h hd hn ho he
 ·rename_i t x ho
  exact arrayAtT_ok h hd ho he
 ·rename_i f first cap ho
  replace he := is_ret.1 he
  subst he
  refine does_pure h hd (x := .func (.func f) (first.map a.eval) (cap.map a.eval)) (by simp [execOp, ho, Instr.makeFunc]) ⟨first.toList.map a.eval, cap.toList.map a.eval, by rw [← Array.toList_map, ← Array.toList_map], evs_ok h _, evs_ok h _⟩
 ·rename_i t x ho
  split at he
  ·exact he.elim
  ·rename_i d hnd hu
   replace he := is_ret.1 he
   subst he
   have hx := h.ev x
   unfold VR at hx
   refine does_pure h hd (x := .iface t (a.eval x)) ?_ ⟨_, rfl, hx⟩
   cases d <;> first
    | (exact absurd rfl (hnd _))
    | simp [execOp, ho, Instr.makeInterface, run_underlying hu]
  ·exact he.elim
 ·rename_i t r ho
  split at he
  ·replace he := (Tr.is_leaf.1 he).symm
   subst he
   exact makeMapT_ok h hd (hn _ (List.mem_cons_self ..)) ho
  ·exact he.elim
 ·rename_i t x k ok ho
  exact lookupT_ok h hd ho he
 ·rename_i t m k x ho
  exact updateT_ok hC h hd ho he
 ·rename_i c ho
  split at he
  ·rename_i b hb
   exact builtT_ok hC h hd hn ho hb he
  ·rename_i x hx
   simp [isCallV, ho, hx] at hc
  ·exact he.elim
 ·exact he.elim
end
end
end Go.Proofs.YtiojkpgcmhlhnaaGreatDoor.Ty
