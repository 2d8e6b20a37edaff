/-
  The records taken in any order; TopTurned, when shown holds and the ends are open.
-/
import Derived.Test.YtiojkpgcmhlhnaaGreatDoorTkL
import Derived.Test.YtiojkpgcmhlhnaaGreatDoorTkM
namespace Go.Proofs.YtiojkpgcmhlhnaaGreatDoor.Ty
open Go
set_option maxRecDepth 100000
set_option linter.unusedSimpArgs false
set_option linter.unusedVariables false
section
theorem placeZ_range (n : Int) {m : Nat} (h : 0 < m) : 0 ≤ placeZ n (m : Int) ∧ placeZ n (m : Int) < m := by
 unfold placeZ
 split
 ·rw [Int.tmod_eq_emod_of_nonneg (by omega)]
  exact ⟨Int.emod_nonneg _ (by omega), Int.emod_lt_of_pos _ (by omega)⟩
 ·rw [Int.tmod_eq_emod_of_nonneg (by omega)]
  exact ⟨Int.emod_nonneg _ (by omega), Int.emod_lt_of_pos _ (by omega)⟩
def wysO (U xs : List Int) (rem : List Nat) : List Way := waysO (rem.map (recOf U xs))
theorem wysO_len (U xs : List Int) (rem : List Nat) : (wysO U xs rem).length = rem.length := by simp [wysO, waysO]
theorem mapErase {α β : Type} (f : α → β) : ∀ (l : List α) (i : Nat), (l.map f).eraseIdx i = (l.eraseIdx i).map f
 | [], _ => rfl
 | _ :: _, 0 => rfl
 | x :: l, i + 1 => by
  show f x :: (l.map f).eraseIdx i = f x :: (l.eraseIdx i).map f
  rw [mapErase f l i]
theorem permE : ∀ (l : List Nat) (i : Nat) (h : i < l.length), (l[i] :: l.eraseIdx i).Perm l
 | x :: l, 0, _ => List.Perm.refl _
 | x :: l, i + 1, h => (List.Perm.swap x (l[i]'(by simpa using h)) (l.eraseIdx i)).trans ((permE l i (by simpa using h)).cons x)
theorem wysO_erase (U xs : List Int) (i : Nat) (rem : List Nat) : (wysO U xs rem).eraseIdx i = wysO U xs (rem.eraseIdx i) := by
 unfold wysO waysO
 rw [mapErase, mapErase]
structure Inv (k : Nat) (xs : List Int) (m : Nat) (rem : List Nat) (bs : List Int) : Prop where
 nd : rem.Nodup
 lt : ∀ j ∈ rem, j < k ∧ m.testBit j = false
 sum : m + (rem.map (2 ^ ·)).sum = 2 ^ k - 1
 ok : BsOk xs bs m
 m0 : m ≠ 0
theorem pow_le16 {k : Nat} (hk : k ≤ 4) : 2 ^ k ≤ 16 := by
 obtain rfl | rfl | rfl | rfl | rfl : k = 0 ∨ k = 1 ∨ k = 2 ∨ k = 3 ∨ k = 4 := by omega
 all_goals decide
theorem takeOut {k m i : Nat} {rem : List Nat} (hk : k ≤ 4) (nd : rem.Nodup) (lt : ∀ j ∈ rem, j < k ∧ m.testBit j = false) (sum : m + (rem.map (2 ^ ·)).sum = 2 ^ k - 1) (hi : i < rem.length) :
  (rem.eraseIdx i).Nodup ∧ (∀ j ∈ rem.eraseIdx i, j < k ∧ (m + 2 ^ rem[i]).testBit j = false) ∧ (m + 2 ^ rem[i]) + ((rem.eraseIdx i).map (2 ^ ·)).sum = 2 ^ k - 1 ∧ rem[i] < k ∧ m.testBit rem[i] = false ∧ m < 16 := by
 have perm := permE rem _ hi
 have nd2 : (rem[i] :: rem.eraseIdx i).Nodup := perm.nodup_iff.2 nd
 obtain ⟨hnot, nd3⟩ := List.nodup_cons.1 nd2
 have hmem : rem[i] ∈ rem := List.getElem_mem hi
 obtain ⟨l1, l2⟩ := lt _ hmem
 have hm : m < 16 := by
  have := pow_le16 hk
  omega
 obtain ⟨_, n2, _, _⟩ := nx_step hm (show rem[i] < 4 by omega) l2
 have hs : ((rem[i] :: rem.eraseIdx i).map (2 ^ ·)).sum = (rem.map (2 ^ ·)).sum := (perm.map _).sum_nat
 rw [List.map_cons, List.sum_cons] at hs
 refine ⟨nd3, fun j hj => ?_, by omega, l1, l2, hm⟩
 have hj' : j ∈ rem := perm.subset (List.mem_cons_of_mem _ hj)
 obtain ⟨q1, q2⟩ := lt j hj'
 refine ⟨q1, ?_⟩
 rw [n2 j (by omega) (fun e => hnot (e ▸ hj))]
 exact q2
theorem chain1 {p n : Int} {S U xs : List Int} {k : Nat} (hk : k ≤ 4) (k0 : 0 < k) (hU : U.length = 32) (hx : Byts xs) (h1 : 128 * (k - 1) < xs.length) (h2 : xs.length ≤ 128 * k) :
  ∃ m rem bs, rem.length = k - 1 ∧ Inv k xs m rem bs ∧ Con Tryz.prog gl 11 (sD1 p S U xs k n (nxM m) (wsM m) bs (rsM (eM xs.length) m) (wys U xs k) (wysO U xs rem ++ [⟨0, []⟩])).a (sD1 p S U xs k n (nxM m) (wsM m) bs (rsM (eM xs.length) m) (wys U xs k) (wysO U xs rem ++ [⟨0, []⟩])).m
   (sD1 p S U xs k n (nxM m) (wsM m) bs (rsM (eM xs.length) m) (wys U xs k) (wysO U xs rem ++ [⟨0, []⟩])).r := by
 have hp := placeZ_range n k0
 have hi : (placeZ n k).toNat < (List.range k).length := by rw [List.length_range]; omega
 obtain ⟨q1, q2, q3, q4, q5, q6⟩ := takeOut (m := 0) hk List.nodup_range (fun j hj => ⟨List.mem_range.1 hj, Nat.zero_testBit j⟩) (by
  obtain rfl | rfl | rfl | rfl : k = 1 ∨ k = 2 ∨ k = 3 ∨ k = 4 := by omega
  all_goals decide) hi
 rw [Nat.zero_add] at q2 q3
 generalize hj : (List.range k)[(placeZ n k).toNat] = j at *
 have hjx : 128 * j < xs.length := by omega
 have hb := bs_step (m := 0) (by decide) (show j < 4 by omega) (Nat.zero_testBit j) (by omega) hjx (Or.inl ⟨rfl, rfl⟩)
 rw [Nat.zero_add] at hb
 have del := del_first (p := p) (S := S) (show j < 4 by omega) hU hx (by omega) hjx
 refine ⟨2 ^ j, (List.range k).eraseIdx (placeZ n k).toNat, _, by rw [List.length_eraseIdx, if_pos hi, List.length_range], ⟨q1, q2, q3, hb, Nat.pos_iff_ne_zero.1 (Nat.pow_pos (by decide))⟩, ?_⟩
 have con := do_conN (n := n) (k := (k : Int)) (xs := xs) (rc := rcs xs k) ((List.range k).map (recOf U xs)) (placeZ n k).toNat (by simpa using hk) (by
  rw [List.getElem?_map, List.getElem?_eq_getElem hi, hj]
  rfl) (by rw [List.length_map, List.length_range]; omega) del
 have e1 : waysO ((List.range k).map (recOf U xs)) = wys U xs k := by simp [waysO, wys]
 have l1 : (wys U xs k).length = k := by simp [wys]
 have e2 : (wys U xs k).eraseIdx (placeZ n k).toNat = wysO U xs ((List.range k).eraseIdx (placeZ n k).toNat) := by
  rw [← e1]
  exact wysO_erase U xs _ _
 have e3 : wayB (wys U xs k) = wayN k (wys U xs k) := by unfold wayB wayN; rw [l1]
 have e4 : wayB (wysO U xs ((List.range k).eraseIdx (placeZ n k).toNat) ++ [⟨0, []⟩]) = wayN k (wysO U xs ((List.range k).eraseIdx (placeZ n k).toNat) ++ [⟨0, []⟩]) := by
  unfold wayB wayN
  rw [List.length_append, wysO_len, List.length_eraseIdx, if_pos hi, List.length_range, List.length_singleton, show k - 1 + 1 = k by omega]
 rw [e1, List.length_map, List.length_range] at con
 unfold wldN outN at con
 rw [e2, e3, e4] at con
 exact con
theorem chainN {p n : Int} {S U xs : List Int} {k m : Nat} {rem : List Nat} {bs : List Int} (hk : k ≤ 4) (hU : U.length = 32) (hx : Byts xs) (h1 : 128 * (k - 1) < xs.length) (h2 : xs.length ≤ 128 * k) (r : Nat) (hr : rem.length = r + 1) (r3 : r + 1 ≤ 3) (I : Inv k xs m rem bs) :
  ∃ m' rem' bs', rem'.length = r ∧ Inv k xs m' rem' bs' ∧ Con Tryz.prog gl 11
   (sDn p S U xs k (r + 1) n (nxM m) (nxM m') (wsM m) (wsM m') bs bs' (rsM (eM xs.length) m) (rsM (eM xs.length) m') (wysO U xs rem ++ [⟨0, []⟩]) (wysO U xs rem' ++ [⟨0, []⟩])).a
   (sDn p S U xs k (r + 1) n (nxM m) (nxM m') (wsM m) (wsM m') bs bs' (rsM (eM xs.length) m) (rsM (eM xs.length) m') (wysO U xs rem ++ [⟨0, []⟩]) (wysO U xs rem' ++ [⟨0, []⟩])).m
   (sDn p S U xs k (r + 1) n (nxM m) (nxM m') (wsM m) (wsM m') bs bs' (rsM (eM xs.length) m) (rsM (eM xs.length) m') (wysO U xs rem ++ [⟨0, []⟩]) (wysO U xs rem' ++ [⟨0, []⟩])).r := by
 have hp := placeZ_range n (show 0 < rem.length by omega)
 have hi : (placeZ n rem.length).toNat < rem.length := by omega
 obtain ⟨q1, q2, q3, q4, q5, q6⟩ := takeOut hk I.nd I.lt I.sum hi
 generalize hj : rem[(placeZ n rem.length).toNat] = j at *
 have hjx : 128 * j < xs.length := by omega
 have hb := bs_step q6 (show j < 4 by omega) q5 (by omega) hjx (Or.inr ⟨I.m0, I.ok⟩)
 have del := del_step (p := p) (S := S) q6 I.m0 (show j < 4 by omega) q5 hU hx (by omega) hjx I.ok
 have hl : (rem.eraseIdx (placeZ n rem.length).toNat).length = r := by rw [List.length_eraseIdx, if_pos hi]; omega
 refine ⟨m + 2 ^ j, rem.eraseIdx (placeZ n rem.length).toNat, _, hl, ⟨q1, q2, q3, hb, fun e => I.m0 (Nat.add_eq_zero_iff.1 e).1⟩, ?_⟩
 have con := do_conW (n := n) (k := (k : Int)) (xs := xs) (rc := rcs xs k) (rem.map (recOf U xs)) (placeZ n rem.length).toNat (by rw [List.length_map]; omega) (by
  rw [List.getElem?_map, List.getElem?_eq_getElem hi, hj]
  rfl) (by rw [List.length_map]; omega) del
 have e3 : wayB (wysO U xs rem ++ [⟨0, []⟩]) = wayN (r + 1 + 1) (wysO U xs rem ++ [⟨0, []⟩]) := by
  unfold wayB wayN
  rw [List.length_append, wysO_len, hr, List.length_singleton]
 have e4 : wayB (wysO U xs (rem.eraseIdx (placeZ n rem.length).toNat) ++ [⟨0, []⟩]) = wayN (r + 1) (wysO U xs (rem.eraseIdx (placeZ n rem.length).toNat) ++ [⟨0, []⟩]) := by
  unfold wayB wayN
  rw [List.length_append, wysO_len, hl, List.length_singleton]
 rw [List.length_map] at con
 have e5 : waysO (rem.map (recOf U xs)) = wysO U xs rem := rfl
 unfold wldW outW at con
 rw [e5, wysO_erase, e3, e4, hr] at con
 rw [hr]
 exact con
end
section
noncomputable abbrev SOk (s : Stp) : Prop := Con Tryz.prog gl 11 s.a s.m s.r
theorem kB_ok {p : Int} {S U : List Int} {st : List Stp} (h7 : Con Tryz.prog gl 7 [] [] ⟨.bool true true, []⟩) (h23 : Con Tryz.prog gl 23 [.int false .i64 p] [] ⟨.ptr 13 0 0 true 0, wld0 p S U (outB (.val (.slice none 0 0)))⟩) (h : ∀ s ∈ st, SOk s) : ConsOk (kB p S U st) :=
 cons_ok (pin_ok h7) (Or.inl (by decide)) (cons_ok (pin_ok h23) (Or.inl (by decide)) (cons_ok (pinsT_ok h) (Or.inl (by decide)) cNil))
theorem sWr_ok {p : Int} {S U xs : List Int} (h : xs.length ≤ 2048) : SOk (sWr p S U xs) := wr_con h
theorem sRd_ok {p : Int} {S U xs : List Int} {k : Nat} {ws : List Int} {nx : Int} (h0 : 1 ≤ xs.length) (h : xs.length ≤ 2048) : SOk (sRd p S U xs k ws nx) := rd_con h0 h
theorem sR0_ok (p : Int) (S U xs : List Int) : SOk (sR0 p S U xs) := con_goes cE Tryz.func11 1000 (rd0 p S U xs) trivial
theorem sPo0_ok {p : Int} {S U xs : List Int} (h : xs.length = 0) : SOk (sPo p S U xs 0 []) :=
 con_goes (kPoll_ok (by omega)) Tryz.func11 1000 (po0 p S U xs) ⟨⟨by omega, by omega, by omega⟩, decide_eq_true (by omega), trivial⟩
theorem sPo1_ok {p : Int} {S U xs : List Int} (h1 : 128 * (1 - 1) < xs.length) (h2 : xs.length ≤ 128 * 1) : SOk (sPo p S U xs 1 (wys U xs 1)) :=
 con_goes (kPoll_ok (by omega)) Tryz.func11 1000 (po1 p S U xs) (obPo_ok (by decide) h1 h2)
theorem sPo2_ok {p : Int} {S U xs : List Int} (h1 : 128 * (2 - 1) < xs.length) (h2 : xs.length ≤ 128 * 2) : SOk (sPo p S U xs 2 (wys U xs 2)) :=
 con_goes (kPoll_ok (by omega)) Tryz.func11 1000 (po2 p S U xs) (obPo_ok (by decide) h1 h2)
theorem sPo3_ok {p : Int} {S U xs : List Int} (h1 : 128 * (3 - 1) < xs.length) (h2 : xs.length ≤ 128 * 3) : SOk (sPo p S U xs 3 (wys U xs 3)) :=
 con_goes (kPoll_ok (by omega)) Tryz.func11 1000 (po3 p S U xs) (obPo_ok (by decide) h1 h2)
theorem sPo4_ok {p : Int} {S U xs : List Int} (h1 : 128 * (4 - 1) < xs.length) (h2 : xs.length ≤ 128 * 4) : SOk (sPo p S U xs 4 (wys U xs 4)) :=
 con_goes (kPoll_ok (by omega)) Tryz.func11 1000 (po4 p S U xs) (obPo_ok (by decide) h1 h2)
theorem Inv.fin {k : Nat} {xs bs : List Int} {m : Nat} (hk : k ≤ 4) (k0 : 0 < k) (h1 : 128 * (k - 1) < xs.length) (h2 : xs.length ≤ 128 * k) (I : Inv k xs m [] bs) : bs = xs ∧ rsM (eM xs.length) m = [⟨0, xs.length⟩] := by
 have hm : m = 2 ^ k - 1 := by
  have := I.sum
  simpa using this
 have hb := I.ok
 rw [hm] at hb
 refine ⟨bs_all hk k0 h2 h1 hb, ?_⟩
 rw [hm]
 obtain rfl | rfl | rfl | rfl : k = 1 ∨ k = 2 ∨ k = 3 ∨ k = 4 := by omega
 ·show [Rng.mk 0 (min (128 * ((0 : Nat) + 1 : Int)) xs.length)] = _
  rw [show min (128 * (((0 : Nat) : Int) + 1)) (xs.length : Int) = xs.length by omega]
 ·show [Rng.mk 0 (min (128 * ((1 : Nat) + 1 : Int)) xs.length)] = _
  rw [show min (128 * (((1 : Nat) : Int) + 1)) (xs.length : Int) = xs.length by omega]
 ·show [Rng.mk 0 (min (128 * ((2 : Nat) + 1 : Int)) xs.length)] = _
  rw [show min (128 * (((2 : Nat) : Int) + 1)) (xs.length : Int) = xs.length by omega]
 ·show [Rng.mk 0 (min (128 * ((3 : Nat) + 1 : Int)) xs.length)] = _
  rw [show min (128 * (((3 : Nat) : Int) + 1)) (xs.length : Int) = xs.length by omega]
theorem nil_of {l : List Nat} (h : l.length = 0) : l = [] := List.length_eq_zero_iff.1 h
section
variable {p : Int} {S U : List Int} (h7 : Con Tryz.prog gl 7 [] [] ⟨.bool true true, []⟩) (h23 : Con Tryz.prog gl 23 [.int false .i64 p] [] ⟨.ptr 13 0 0 true 0, wld0 p S U (outB (.val (.slice none 0 0)))⟩) (hU : U.length = 32)
include h7 h23 hU
theorem st1 {xs : List Int} (hx : Byts xs) (h1 : 128 * (1 - 1) < xs.length) (h2 : xs.length ≤ 128 * 1) (n0 : Int) : ∃ (nx1 : Int) (ws1 : List Int) (l0 : List Way),
  ConsOk (kB p S U [sWr p S U xs, sPo p S U xs 1 l0, sRd p S U xs 1 ws1 nx1, sWr p S U xs, sD1 p S U xs 1 n0 nx1 ws1 (xs) [⟨0, (xs).length⟩] l0 [⟨0, []⟩]]) ∧ l0.length = 1 := by
 obtain ⟨m1, rem1, b1, e1, I1, c1⟩ := chain1 (p := p) (n := n0) (S := S) (show 1 ≤ 4 by decide) (show 0 < 1 by decide) hU hx h1 h2
 obtain rfl := nil_of (show rem1.length = 0 by omega)
 obtain ⟨rfl, er⟩ := I1.fin (by decide) (by decide) h1 h2
 rw [er] at c1
 refine ⟨(nxM m1 : Int), wsM m1, wys U b1 1, kB_ok h7 h23 (fun s hs => ?_), by simp [wys]⟩
 simp only [List.mem_cons, List.not_mem_nil, or_false] at hs
 rcases hs with rfl | rfl | rfl | rfl | rfl
 ·exact sWr_ok (by omega)
 ·exact sPo1_ok h1 h2
 ·exact sRd_ok (by omega) (by omega)
 ·exact sWr_ok (by omega)
 ·exact c1
theorem st2 {xs : List Int} (hx : Byts xs) (h1 : 128 * (2 - 1) < xs.length) (h2 : xs.length ≤ 128 * 2) (n0 n1 : Int) : ∃ (nx1 nx2 : Int) (ws1 ws2 bs1 : List Int) (rs1 : List Rng) (l0 l1 : List Way),
  ConsOk (kB p S U [sWr p S U xs, sPo p S U xs 2 l0, sRd p S U xs 2 ws2 nx2, sD1 p S U xs 2 n0 nx1 ws1 bs1 rs1 l0 l1, sDn p S U xs 2 1 n1 nx1 nx2 ws1 ws2 bs1 (xs) rs1 [⟨0, (xs).length⟩] l1 [⟨0, []⟩]]) ∧ l0.length = 2 ∧ l1.length = 2 := by
 obtain ⟨m1, rem1, b1, e1, I1, c1⟩ := chain1 (p := p) (n := n0) (S := S) (show 2 ≤ 4 by decide) (show 0 < 2 by decide) hU hx h1 h2
 obtain ⟨m2, rem2, b2, e2, I2, c2⟩ := chainN (p := p) (n := n1) (S := S) (show 2 ≤ 4 by decide) hU hx h1 h2 0 (show rem1.length = 0 + 1 by omega) (by decide) I1
 obtain rfl := nil_of (show rem2.length = 0 by omega)
 obtain ⟨rfl, er⟩ := I2.fin (by decide) (by decide) h1 h2
 rw [er] at c2
 refine ⟨(nxM m1 : Int), (nxM m2 : Int), wsM m1, wsM m2, b1, rsM (eM b2.length) m1, wys U b2 2, wysO U b2 rem1 ++ [⟨0, []⟩], kB_ok h7 h23 (fun s hs => ?_), by simp [wys], by rw [List.length_append, wysO_len, List.length_singleton]; omega⟩
 simp only [List.mem_cons, List.not_mem_nil, or_false] at hs
 rcases hs with rfl | rfl | rfl | rfl | rfl
 ·exact sWr_ok (by omega)
 ·exact sPo2_ok h1 h2
 ·exact sRd_ok (by omega) (by omega)
 ·exact c1
 ·exact c2
theorem st3 {xs : List Int} (hx : Byts xs) (h1 : 128 * (3 - 1) < xs.length) (h2 : xs.length ≤ 128 * 3) (n0 n1 n2 : Int) : ∃ (nx1 nx2 nx3 : Int) (ws1 ws2 ws3 bs1 bs2 : List Int) (rs1 rs2 : List Rng) (l0 l1 l2 : List Way),
  ConsOk (kB p S U [sWr p S U xs, sPo p S U xs 3 l0, sRd p S U xs 3 ws3 nx3, sD1 p S U xs 3 n0 nx1 ws1 bs1 rs1 l0 l1, sDn p S U xs 3 1 n2 nx2 nx3 ws2 ws3 bs2 (xs) rs2 [⟨0, (xs).length⟩] l2 [⟨0, []⟩], sDn p S U xs 3 2 n1 nx1 nx2 ws1 ws2 bs1 bs2 rs1 rs2 l1 l2]) ∧ l0.length = 3 ∧ l1.length = 3 ∧ l2.length = 2 := by
 obtain ⟨m1, rem1, b1, e1, I1, c1⟩ := chain1 (p := p) (n := n0) (S := S) (show 3 ≤ 4 by decide) (show 0 < 3 by decide) hU hx h1 h2
 obtain ⟨m2, rem2, b2, e2, I2, c2⟩ := chainN (p := p) (n := n1) (S := S) (show 3 ≤ 4 by decide) hU hx h1 h2 1 (show rem1.length = 1 + 1 by omega) (by decide) I1
 obtain ⟨m3, rem3, b3, e3, I3, c3⟩ := chainN (p := p) (n := n2) (S := S) (show 3 ≤ 4 by decide) hU hx h1 h2 0 (show rem2.length = 0 + 1 by omega) (by decide) I2
 obtain rfl := nil_of (show rem3.length = 0 by omega)
 obtain ⟨rfl, er⟩ := I3.fin (by decide) (by decide) h1 h2
 rw [er] at c3
 refine ⟨(nxM m1 : Int), (nxM m2 : Int), (nxM m3 : Int), wsM m1, wsM m2, wsM m3, b1, b2, rsM (eM b3.length) m1, rsM (eM b3.length) m2, wys U b3 3, wysO U b3 rem1 ++ [⟨0, []⟩], wysO U b3 rem2 ++ [⟨0, []⟩], kB_ok h7 h23 (fun s hs => ?_), by simp [wys], by rw [List.length_append, wysO_len, List.length_singleton]; omega, by rw [List.length_append, wysO_len, List.length_singleton]; omega⟩
 simp only [List.mem_cons, List.not_mem_nil, or_false] at hs
 rcases hs with rfl | rfl | rfl | rfl | rfl | rfl
 ·exact sWr_ok (by omega)
 ·exact sPo3_ok h1 h2
 ·exact sRd_ok (by omega) (by omega)
 ·exact c1
 ·exact c3
 ·exact c2
theorem st4 {xs : List Int} (hx : Byts xs) (h1 : 128 * (4 - 1) < xs.length) (h2 : xs.length ≤ 128 * 4) (n0 n1 n2 n3 : Int) : ∃ (nx1 nx2 nx3 nx4 : Int) (ws1 ws2 ws3 ws4 bs1 bs2 bs3 : List Int) (rs1 rs2 rs3 : List Rng) (l0 l1 l2 l3 : List Way),
  ConsOk (kB p S U [sWr p S U xs, sPo p S U xs 4 l0, sRd p S U xs 4 ws4 nx4, sD1 p S U xs 4 n0 nx1 ws1 bs1 rs1 l0 l1, sDn p S U xs 4 1 n3 nx3 nx4 ws3 ws4 bs3 (xs) rs3 [⟨0, (xs).length⟩] l3 [⟨0, []⟩], sDn p S U xs 4 2 n2 nx2 nx3 ws2 ws3 bs2 bs3 rs2 rs3 l2 l3, sDn p S U xs 4 3 n1 nx1 nx2 ws1 ws2 bs1 bs2 rs1 rs2 l1 l2]) ∧ l0.length = 4 ∧ l1.length = 4 ∧ l2.length = 3 ∧ l3.length = 2 := by
 obtain ⟨m1, rem1, b1, e1, I1, c1⟩ := chain1 (p := p) (n := n0) (S := S) (show 4 ≤ 4 by decide) (show 0 < 4 by decide) hU hx h1 h2
 obtain ⟨m2, rem2, b2, e2, I2, c2⟩ := chainN (p := p) (n := n1) (S := S) (show 4 ≤ 4 by decide) hU hx h1 h2 2 (show rem1.length = 2 + 1 by omega) (by decide) I1
 obtain ⟨m3, rem3, b3, e3, I3, c3⟩ := chainN (p := p) (n := n2) (S := S) (show 4 ≤ 4 by decide) hU hx h1 h2 1 (show rem2.length = 1 + 1 by omega) (by decide) I2
 obtain ⟨m4, rem4, b4, e4, I4, c4⟩ := chainN (p := p) (n := n3) (S := S) (show 4 ≤ 4 by decide) hU hx h1 h2 0 (show rem3.length = 0 + 1 by omega) (by decide) I3
 obtain rfl := nil_of (show rem4.length = 0 by omega)
 obtain ⟨rfl, er⟩ := I4.fin (by decide) (by decide) h1 h2
 rw [er] at c4
 refine ⟨(nxM m1 : Int), (nxM m2 : Int), (nxM m3 : Int), (nxM m4 : Int), wsM m1, wsM m2, wsM m3, wsM m4, b1, b2, b3, rsM (eM b4.length) m1, rsM (eM b4.length) m2, rsM (eM b4.length) m3, wys U b4 4, wysO U b4 rem1 ++ [⟨0, []⟩], wysO U b4 rem2 ++ [⟨0, []⟩], wysO U b4 rem3 ++ [⟨0, []⟩], kB_ok h7 h23 (fun s hs => ?_), by simp [wys], by rw [List.length_append, wysO_len, List.length_singleton]; omega, by rw [List.length_append, wysO_len, List.length_singleton]; omega, by rw [List.length_append, wysO_len, List.length_singleton]; omega⟩
 simp only [List.mem_cons, List.not_mem_nil, or_false] at hs
 rcases hs with rfl | rfl | rfl | rfl | rfl | rfl | rfl
 ·exact sWr_ok (by omega)
 ·exact sPo4_ok h1 h2
 ·exact sRd_ok (by omega) (by omega)
 ·exact c1
 ·exact c4
 ·exact c3
 ·exact c2
omit hU in
theorem top0 {xs os : List Int} (h : xs.length = 0) : Con Tryz.prog gl 6 [.int false .i64 p, .fzi false .u8 xs, .fzi false .i64 os] [] ⟨.bool true true, []⟩ := by
 refine con_goes (kB_ok h7 h23 (fun s hs => ?_)) Tryz.func6 1000 (tt00 p S U xs os) ⟨decide_eq_false (by omega), decide_eq_true (List.length_eq_zero_iff.1 h).symm, trivial⟩
 simp only [List.mem_cons, List.not_mem_nil, or_false] at hs
 rcases hs with rfl | rfl | rfl
 ·exact sWr_ok (by omega)
 ·exact sPo0_ok h
 ·exact sR0_ok p S U xs
omit h7 h23 hU in
theorem some_at {l : List Way} {e : Nat} (h : e < l.length) : (l[e]?).isSome = true := by rw [List.getElem?_eq_getElem h]; rfl
theorem top1 {xs os : List Int} (hx : Byts xs) (h1 : 128 * (1 - 1) < xs.length) (h2 : xs.length ≤ 128 * 1) : Con Tryz.prog gl 6 [.int false .i64 p, .fzi false .u8 xs, .fzi false .i64 os] [] ⟨.bool true true, []⟩ := by
 have hm : os.length = 0 ∨ 1 ≤ os.length := by omega
 rcases hm with hm | hm
 ·obtain ⟨nx1, ws1, l0, hk, e0⟩ := st1 h7 h23 hU hx h1 h2 0
  exact con_goes hk Tryz.func6 1000 (tt10 p S U xs os nx1 ws1 l0) ⟨decide_eq_false (by omega), some_at (by omega), decide_eq_false (by omega), decide_eq_true rfl, trivial⟩
 ·obtain ⟨nx1, ws1, l0, hk, e0⟩ := st1 h7 h23 hU hx h1 h2 (os[0]?.getD 0)
  exact con_goes hk Tryz.func6 1000 (tt11 p S U xs os nx1 ws1 l0) ⟨decide_eq_false (by omega), some_at (by omega), decide_eq_true (by omega), ⟨by omega, by omega⟩, decide_eq_true rfl, trivial⟩
theorem top2 {xs os : List Int} (hx : Byts xs) (h1 : 128 * (2 - 1) < xs.length) (h2 : xs.length ≤ 128 * 2) : Con Tryz.prog gl 6 [.int false .i64 p, .fzi false .u8 xs, .fzi false .i64 os] [] ⟨.bool true true, []⟩ := by
 have hm : os.length = 0 ∨ os.length = 1 ∨ 2 ≤ os.length := by omega
 rcases hm with hm | hm | hm
 ·obtain ⟨nx1, nx2, ws1, ws2, bs1, rs1, l0, l1, hk, e0, e1⟩ := st2 h7 h23 hU hx h1 h2 0 0
  exact con_goes hk Tryz.func6 1000 (tt20 p S U xs os nx1 nx2 ws1 ws2 bs1 rs1 l0 l1) ⟨decide_eq_false (by omega), some_at (by omega), some_at (by omega), decide_eq_false (by omega), some_at (by omega), decide_eq_false (by omega), decide_eq_true rfl, trivial⟩
 ·obtain ⟨nx1, nx2, ws1, ws2, bs1, rs1, l0, l1, hk, e0, e1⟩ := st2 h7 h23 hU hx h1 h2 (os[0]?.getD 0) 0
  exact con_goes hk Tryz.func6 1000 (tt21 p S U xs os nx1 nx2 ws1 ws2 bs1 rs1 l0 l1) ⟨decide_eq_false (by omega), some_at (by omega), some_at (by omega), decide_eq_true (by omega), ⟨by omega, by omega⟩, some_at (by omega), decide_eq_false (by omega), decide_eq_true rfl, trivial⟩
 ·obtain ⟨nx1, nx2, ws1, ws2, bs1, rs1, l0, l1, hk, e0, e1⟩ := st2 h7 h23 hU hx h1 h2 (os[0]?.getD 0) (os[1]?.getD 0)
  exact con_goes hk Tryz.func6 1000 (tt22 p S U xs os nx1 nx2 ws1 ws2 bs1 rs1 l0 l1) ⟨decide_eq_false (by omega), some_at (by omega), some_at (by omega), decide_eq_true (by omega), ⟨by omega, by omega⟩, some_at (by omega), decide_eq_true (by omega), ⟨by omega, by omega⟩, decide_eq_true rfl, trivial⟩
theorem top3 {xs os : List Int} (hx : Byts xs) (h1 : 128 * (3 - 1) < xs.length) (h2 : xs.length ≤ 128 * 3) : Con Tryz.prog gl 6 [.int false .i64 p, .fzi false .u8 xs, .fzi false .i64 os] [] ⟨.bool true true, []⟩ := by
 have hm : os.length = 0 ∨ os.length = 1 ∨ os.length = 2 ∨ 3 ≤ os.length := by omega
 rcases hm with hm | hm | hm | hm
 ·obtain ⟨nx1, nx2, nx3, ws1, ws2, ws3, bs1, bs2, rs1, rs2, l0, l1, l2, hk, e0, e1, e2⟩ := st3 h7 h23 hU hx h1 h2 0 0 0
  exact con_goes hk Tryz.func6 1000 (tt30 p S U xs os nx1 nx2 nx3 ws1 ws2 ws3 bs1 bs2 rs1 rs2 l0 l1 l2) ⟨decide_eq_false (by omega), some_at (by omega), some_at (by omega), some_at (by omega), decide_eq_false (by omega), some_at (by omega), some_at (by omega), decide_eq_false (by omega), some_at (by omega), decide_eq_false (by omega), decide_eq_true rfl, trivial⟩
 ·obtain ⟨nx1, nx2, nx3, ws1, ws2, ws3, bs1, bs2, rs1, rs2, l0, l1, l2, hk, e0, e1, e2⟩ := st3 h7 h23 hU hx h1 h2 (os[0]?.getD 0) 0 0
  exact con_goes hk Tryz.func6 1000 (tt31 p S U xs os nx1 nx2 nx3 ws1 ws2 ws3 bs1 bs2 rs1 rs2 l0 l1 l2) ⟨decide_eq_false (by omega), some_at (by omega), some_at (by omega), some_at (by omega), decide_eq_true (by omega), ⟨by omega, by omega⟩, some_at (by omega), some_at (by omega), decide_eq_false (by omega), some_at (by omega), decide_eq_false (by omega), decide_eq_true rfl, trivial⟩
 ·obtain ⟨nx1, nx2, nx3, ws1, ws2, ws3, bs1, bs2, rs1, rs2, l0, l1, l2, hk, e0, e1, e2⟩ := st3 h7 h23 hU hx h1 h2 (os[0]?.getD 0) (os[1]?.getD 0) 0
  exact con_goes hk Tryz.func6 1000 (tt32 p S U xs os nx1 nx2 nx3 ws1 ws2 ws3 bs1 bs2 rs1 rs2 l0 l1 l2) ⟨decide_eq_false (by omega), some_at (by omega), some_at (by omega), some_at (by omega), decide_eq_true (by omega), ⟨by omega, by omega⟩, some_at (by omega), some_at (by omega), decide_eq_true (by omega), ⟨by omega, by omega⟩, some_at (by omega), decide_eq_false (by omega), decide_eq_true rfl, trivial⟩
 ·obtain ⟨nx1, nx2, nx3, ws1, ws2, ws3, bs1, bs2, rs1, rs2, l0, l1, l2, hk, e0, e1, e2⟩ := st3 h7 h23 hU hx h1 h2 (os[0]?.getD 0) (os[1]?.getD 0) (os[2]?.getD 0)
  exact con_goes hk Tryz.func6 1000 (tt33 p S U xs os nx1 nx2 nx3 ws1 ws2 ws3 bs1 bs2 rs1 rs2 l0 l1 l2) ⟨decide_eq_false (by omega), some_at (by omega), some_at (by omega), some_at (by omega), decide_eq_true (by omega), ⟨by omega, by omega⟩, some_at (by omega), some_at (by omega), decide_eq_true (by omega), ⟨by omega, by omega⟩, some_at (by omega), decide_eq_true (by omega), ⟨by omega, by omega⟩, decide_eq_true rfl, trivial⟩
theorem top4 {xs os : List Int} (hx : Byts xs) (h1 : 128 * (4 - 1) < xs.length) (h2 : xs.length ≤ 128 * 4) : Con Tryz.prog gl 6 [.int false .i64 p, .fzi false .u8 xs, .fzi false .i64 os] [] ⟨.bool true true, []⟩ := by
 have hm : os.length = 0 ∨ os.length = 1 ∨ os.length = 2 ∨ os.length = 3 ∨ 4 ≤ os.length := by omega
 rcases hm with hm | hm | hm | hm | hm
 ·obtain ⟨nx1, nx2, nx3, nx4, ws1, ws2, ws3, ws4, bs1, bs2, bs3, rs1, rs2, rs3, l0, l1, l2, l3, hk, e0, e1, e2, e3⟩ := st4 h7 h23 hU hx h1 h2 0 0 0 0
  exact con_goes hk Tryz.func6 1000 (tt40 p S U xs os nx1 nx2 nx3 nx4 ws1 ws2 ws3 ws4 bs1 bs2 bs3 rs1 rs2 rs3 l0 l1 l2 l3) ⟨decide_eq_false (by omega), some_at (by omega), some_at (by omega), some_at (by omega), some_at (by omega), decide_eq_false (by omega), some_at (by omega), some_at (by omega), some_at (by omega), decide_eq_false (by omega), some_at (by omega), some_at (by omega), decide_eq_false (by omega), some_at (by omega), decide_eq_false (by omega), decide_eq_true rfl, trivial⟩
 ·obtain ⟨nx1, nx2, nx3, nx4, ws1, ws2, ws3, ws4, bs1, bs2, bs3, rs1, rs2, rs3, l0, l1, l2, l3, hk, e0, e1, e2, e3⟩ := st4 h7 h23 hU hx h1 h2 (os[0]?.getD 0) 0 0 0
  exact con_goes hk Tryz.func6 1000 (tt41 p S U xs os nx1 nx2 nx3 nx4 ws1 ws2 ws3 ws4 bs1 bs2 bs3 rs1 rs2 rs3 l0 l1 l2 l3) ⟨decide_eq_false (by omega), some_at (by omega), some_at (by omega), some_at (by omega), some_at (by omega), decide_eq_true (by omega), ⟨by omega, by omega⟩, some_at (by omega), some_at (by omega), some_at (by omega), decide_eq_false (by omega), some_at (by omega), some_at (by omega), decide_eq_false (by omega), some_at (by omega), decide_eq_false (by omega), decide_eq_true rfl, trivial⟩
 ·obtain ⟨nx1, nx2, nx3, nx4, ws1, ws2, ws3, ws4, bs1, bs2, bs3, rs1, rs2, rs3, l0, l1, l2, l3, hk, e0, e1, e2, e3⟩ := st4 h7 h23 hU hx h1 h2 (os[0]?.getD 0) (os[1]?.getD 0) 0 0
  exact con_goes hk Tryz.func6 1000 (tt42 p S U xs os nx1 nx2 nx3 nx4 ws1 ws2 ws3 ws4 bs1 bs2 bs3 rs1 rs2 rs3 l0 l1 l2 l3) ⟨decide_eq_false (by omega), some_at (by omega), some_at (by omega), some_at (by omega), some_at (by omega), decide_eq_true (by omega), ⟨by omega, by omega⟩, some_at (by omega), some_at (by omega), some_at (by omega), decide_eq_true (by omega), ⟨by omega, by omega⟩, some_at (by omega), some_at (by omega), decide_eq_false (by omega), some_at (by omega), decide_eq_false (by omega), decide_eq_true rfl, trivial⟩
 ·obtain ⟨nx1, nx2, nx3, nx4, ws1, ws2, ws3, ws4, bs1, bs2, bs3, rs1, rs2, rs3, l0, l1, l2, l3, hk, e0, e1, e2, e3⟩ := st4 h7 h23 hU hx h1 h2 (os[0]?.getD 0) (os[1]?.getD 0) (os[2]?.getD 0) 0
  exact con_goes hk Tryz.func6 1000 (tt43 p S U xs os nx1 nx2 nx3 nx4 ws1 ws2 ws3 ws4 bs1 bs2 bs3 rs1 rs2 rs3 l0 l1 l2 l3) ⟨decide_eq_false (by omega), some_at (by omega), some_at (by omega), some_at (by omega), some_at (by omega), decide_eq_true (by omega), ⟨by omega, by omega⟩, some_at (by omega), some_at (by omega), some_at (by omega), decide_eq_true (by omega), ⟨by omega, by omega⟩, some_at (by omega), some_at (by omega), decide_eq_true (by omega), ⟨by omega, by omega⟩, some_at (by omega), decide_eq_false (by omega), decide_eq_true rfl, trivial⟩
 ·obtain ⟨nx1, nx2, nx3, nx4, ws1, ws2, ws3, ws4, bs1, bs2, bs3, rs1, rs2, rs3, l0, l1, l2, l3, hk, e0, e1, e2, e3⟩ := st4 h7 h23 hU hx h1 h2 (os[0]?.getD 0) (os[1]?.getD 0) (os[2]?.getD 0) (os[3]?.getD 0)
  exact con_goes hk Tryz.func6 1000 (tt44 p S U xs os nx1 nx2 nx3 nx4 ws1 ws2 ws3 ws4 bs1 bs2 bs3 rs1 rs2 rs3 l0 l1 l2 l3) ⟨decide_eq_false (by omega), some_at (by omega), some_at (by omega), some_at (by omega), some_at (by omega), decide_eq_true (by omega), ⟨by omega, by omega⟩, some_at (by omega), some_at (by omega), some_at (by omega), decide_eq_true (by omega), ⟨by omega, by omega⟩, some_at (by omega), some_at (by omega), decide_eq_true (by omega), ⟨by omega, by omega⟩, some_at (by omega), decide_eq_true (by omega), ⟨by omega, by omega⟩, decide_eq_true rfl, trivial⟩
theorem topB {xs os : List Int} (hx : Byts xs) (h1 : 512 < xs.length) : Con Tryz.prog gl 6 [.int false .i64 p, .fzi false .u8 xs, .fzi false .i64 os] [] ⟨.bool true true, []⟩ := by
 have hm : os.length = 0 ∨ os.length = 1 ∨ os.length = 2 ∨ os.length = 3 ∨ 4 ≤ os.length := by omega
 have hl : (xs.take 512).length = 512 := by rw [List.length_take]; omega
 have hx' : Byts (xs.take 512) := fun x h => hx x (List.mem_of_mem_take h)
 rcases hm with hm | hm | hm | hm | hm
 ·obtain ⟨nx1, nx2, nx3, nx4, ws1, ws2, ws3, ws4, bs1, bs2, bs3, rs1, rs2, rs3, l0, l1, l2, l3, hk, e0, e1, e2, e3⟩ := st4 h7 h23 hU hx' (by omega) (by omega) 0 0 0 0
  exact con_goes hk Tryz.func6 1000 (tb40 p S U xs os nx1 nx2 nx3 nx4 ws1 ws2 ws3 ws4 bs1 bs2 bs3 rs1 rs2 rs3 l0 l1 l2 l3) ⟨decide_eq_true (by omega), ⟨by decide, by decide, by decide, by omega⟩, some_at (by omega), some_at (by omega), some_at (by omega), some_at (by omega), decide_eq_false (by omega), some_at (by omega), some_at (by omega), some_at (by omega), decide_eq_false (by omega), some_at (by omega), some_at (by omega), decide_eq_false (by omega), some_at (by omega), decide_eq_false (by omega), decide_eq_true (by rfl), trivial⟩
 ·obtain ⟨nx1, nx2, nx3, nx4, ws1, ws2, ws3, ws4, bs1, bs2, bs3, rs1, rs2, rs3, l0, l1, l2, l3, hk, e0, e1, e2, e3⟩ := st4 h7 h23 hU hx' (by omega) (by omega) (os[0]?.getD 0) 0 0 0
  exact con_goes hk Tryz.func6 1000 (tb41 p S U xs os nx1 nx2 nx3 nx4 ws1 ws2 ws3 ws4 bs1 bs2 bs3 rs1 rs2 rs3 l0 l1 l2 l3) ⟨decide_eq_true (by omega), ⟨by decide, by decide, by decide, by omega⟩, some_at (by omega), some_at (by omega), some_at (by omega), some_at (by omega), decide_eq_true (by omega), ⟨by omega, by omega⟩, some_at (by omega), some_at (by omega), some_at (by omega), decide_eq_false (by omega), some_at (by omega), some_at (by omega), decide_eq_false (by omega), some_at (by omega), decide_eq_false (by omega), decide_eq_true (by rfl), trivial⟩
 ·obtain ⟨nx1, nx2, nx3, nx4, ws1, ws2, ws3, ws4, bs1, bs2, bs3, rs1, rs2, rs3, l0, l1, l2, l3, hk, e0, e1, e2, e3⟩ := st4 h7 h23 hU hx' (by omega) (by omega) (os[0]?.getD 0) (os[1]?.getD 0) 0 0
  exact con_goes hk Tryz.func6 1000 (tb42 p S U xs os nx1 nx2 nx3 nx4 ws1 ws2 ws3 ws4 bs1 bs2 bs3 rs1 rs2 rs3 l0 l1 l2 l3) ⟨decide_eq_true (by omega), ⟨by decide, by decide, by decide, by omega⟩, some_at (by omega), some_at (by omega), some_at (by omega), some_at (by omega), decide_eq_true (by omega), ⟨by omega, by omega⟩, some_at (by omega), some_at (by omega), some_at (by omega), decide_eq_true (by omega), ⟨by omega, by omega⟩, some_at (by omega), some_at (by omega), decide_eq_false (by omega), some_at (by omega), decide_eq_false (by omega), decide_eq_true (by rfl), trivial⟩
 ·obtain ⟨nx1, nx2, nx3, nx4, ws1, ws2, ws3, ws4, bs1, bs2, bs3, rs1, rs2, rs3, l0, l1, l2, l3, hk, e0, e1, e2, e3⟩ := st4 h7 h23 hU hx' (by omega) (by omega) (os[0]?.getD 0) (os[1]?.getD 0) (os[2]?.getD 0) 0
  exact con_goes hk Tryz.func6 1000 (tb43 p S U xs os nx1 nx2 nx3 nx4 ws1 ws2 ws3 ws4 bs1 bs2 bs3 rs1 rs2 rs3 l0 l1 l2 l3) ⟨decide_eq_true (by omega), ⟨by decide, by decide, by decide, by omega⟩, some_at (by omega), some_at (by omega), some_at (by omega), some_at (by omega), decide_eq_true (by omega), ⟨by omega, by omega⟩, some_at (by omega), some_at (by omega), some_at (by omega), decide_eq_true (by omega), ⟨by omega, by omega⟩, some_at (by omega), some_at (by omega), decide_eq_true (by omega), ⟨by omega, by omega⟩, some_at (by omega), decide_eq_false (by omega), decide_eq_true (by rfl), trivial⟩
 ·obtain ⟨nx1, nx2, nx3, nx4, ws1, ws2, ws3, ws4, bs1, bs2, bs3, rs1, rs2, rs3, l0, l1, l2, l3, hk, e0, e1, e2, e3⟩ := st4 h7 h23 hU hx' (by omega) (by omega) (os[0]?.getD 0) (os[1]?.getD 0) (os[2]?.getD 0) (os[3]?.getD 0)
  exact con_goes hk Tryz.func6 1000 (tb44 p S U xs os nx1 nx2 nx3 nx4 ws1 ws2 ws3 ws4 bs1 bs2 bs3 rs1 rs2 rs3 l0 l1 l2 l3) ⟨decide_eq_true (by omega), ⟨by decide, by decide, by decide, by omega⟩, some_at (by omega), some_at (by omega), some_at (by omega), some_at (by omega), decide_eq_true (by omega), ⟨by omega, by omega⟩, some_at (by omega), some_at (by omega), some_at (by omega), decide_eq_true (by omega), ⟨by omega, by omega⟩, some_at (by omega), some_at (by omega), decide_eq_true (by omega), ⟨by omega, by omega⟩, some_at (by omega), decide_eq_true (by omega), ⟨by omega, by omega⟩, decide_eq_true (by rfl), trivial⟩
theorem top_all {xs os : List Int} (hx : Byts xs) : Con Tryz.prog gl 6 [.int false .i64 p, .fzi false .u8 xs, .fzi false .i64 os] [] ⟨.bool true true, []⟩ := by
 rcases Nat.lt_or_ge 512 xs.length with h | h
 ·exact topB h7 h23 hU hx h
 ·rcases Nat.lt_or_ge 384 xs.length with h4 | h4
  ·exact top4 h7 h23 hU hx (by omega) (by omega)
  ·rcases Nat.lt_or_ge 256 xs.length with h3 | h3
   ·exact top3 h7 h23 hU hx (by omega) (by omega)
   ·rcases Nat.lt_or_ge 128 xs.length with h2 | h2
    ·exact top2 h7 h23 hU hx (by omega) (by omega)
    ·rcases Nat.eq_zero_or_pos xs.length with h0 | h0
     ·exact top0 h7 h23 h0
     ·exact top1 h7 h23 hU hx (by omega) (by omega)
end
end
end Go.Proofs.YtiojkpgcmhlhnaaGreatDoor.Ty
