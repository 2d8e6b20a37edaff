/-
  The contracts of ranges and inbox.
-/
import Derived.Test.YtiojkpgcmhlhnaaGreatDoorTkF
import Derived.Lib.Overlaps
namespace Go.Proofs.YtiojkpgcmhlhnaaGreatDoor.Ty
open Go
set_option maxRecDepth 100000
set_option linter.unusedSimpArgs false
set_option linter.unusedVariables false
section
theorem CallsTo.mono {P : Program} {f : FuncId} {vs : Array Value} {W : World} {p q : Ending → World → Prop} (h : CallsTo P f vs W p) (hpq : ∀ e w, p e w → q e w) : CallsTo P f vs W q := by
 rcases h with ⟨h1, h2⟩ | ⟨v, w', h1, h2⟩
 ·exact Or.inl ⟨h1, Calls.mono h2 hpq⟩
 ·exact Or.inr ⟨v, w', h1, hpq _ _ h2⟩
def f13 : Nat → Option Nat := fun i => if i = 13 then none else some i
theorem f13_ren {loc loc' : Loc} {lk lk' : Lk} (h : ∀ i, i ≠ 13 → (lk i).isSome = true → loc' i = loc i ∧ (lk' i).isSome = true) : Ren f13 loc loc' lk lk' :=
 ⟨fun i j e hs => by
  unfold f13 at e
  split at e
  ·cases e
  ·rename_i hi
   cases e
   exact h i hi hs⟩
theorem gl13 : gl.length = 13 := rfl
theorem gl_f13 : renBs f13 gl = some gl := by kernel_rfl
theorem lkOf_13 (b : Blk) (mem : List Blk) : lkOf gl (b :: mem) 13 = some b := rfl
theorem lkOf_ne (b b' : Blk) (mem : List Blk) {i : Nat} (h : i ≠ 13) : lkOf gl (b :: mem) i = lkOf gl (b' :: mem) i := by
 unfold lkOf
 rw [gl13]
 split
 ·rfl
 ·obtain ⟨k, hk⟩ : ∃ k, i - 13 = k + 1 := ⟨i - 14, by omega⟩
  rw [hk]
  rfl
theorem gl_blk {i : Nat} {b : Blk} (h : gl[i]? = some b) : renB f13 b = some b := by
 obtain ⟨b', h1, h2⟩ := (renBs_get gl gl gl_f13).2 i b h
 rw [h] at h1
 cases h1
 exact h2
theorem mem_blk {mem : List Blk} (hm : renBs f13 mem = some mem) {i : Nat} {b b0 : Blk} (hi : i ≠ 13) (h : lkOf gl (b0 :: mem) i = some b) : renB f13 b = some b := by
 unfold lkOf at h
 rw [gl13] at h
 split at h
 ·exact gl_blk h
 ·obtain ⟨k, hk⟩ : ∃ k, i - 13 = k + 1 := ⟨i - 14, by omega⟩
  rw [hk] at h
  have h : mem[k]? = some b := h
  obtain ⟨b', h1, h2⟩ := (renBs_get mem mem hm).2 k b h
  rw [h] at h1
  cases h1
  exact h2
theorem hrel13 {loc loc' : Loc} {fm : Fm} {w : World} {b b' : Blk} {mem : List Blk} (h : HRel loc fm (lkOf gl (b :: mem)) w) (hl : ∀ i, i ≠ 13 → loc' i = loc i) (hm : renBs f13 mem = some mem) (hb : BlkOk loc' fm (lkOf gl (b' :: mem)) w 13 b')
  (hblk : (loc' 13).blk = (loc 13).blk) (hreal : (loc' 13).real = (loc 13).real) (hlive : b'.live = true → b.live = true) (hmine : b'.mine = true → b.mine = true) : HRel loc' fm (lkOf gl (b' :: mem)) w where
 ok i bi hi := by
  by_cases e : i = 13
  ·subst e
   cases hi
   exact hb
  ·have hi' : lkOf gl (b :: mem) i = some bi := by rw [lkOf_ne b b' mem e]; exact hi
   exact (BlkOk.ren (f13_ren fun j hj hs => ⟨hl j hj, by rw [← lkOf_ne b b' mem hj]; exact hs⟩) (mem_blk hm e hi) (hl i e) (h.ok i bi hi')).1
 alone i bi hi := by
  intro hmi hre
  by_cases e : i = 13
  ·subst e
   cases hi
   rw [hreal] at hre
   obtain ⟨h1, h2⟩ := h.alone 13 b rfl (hmine hmi) hre
   rw [hblk]
   refine ⟨h1, fun i' b2 hne hi2 hl2 hr2 => ?_⟩
   rw [hl i' hne] at hr2 ⊢
   exact h2 i' b2 hne (by rw [lkOf_ne b b' mem hne]; exact hi2) hl2 hr2
  ·have hi' : lkOf gl (b :: mem) i = some bi := by rw [lkOf_ne b b' mem e]; exact hi
   rw [hl i e] at hre ⊢
   obtain ⟨h1, h2⟩ := h.alone i bi hi' hmi hre
   refine ⟨h1, fun i' b2 hne hi2 hl2 hr2 => ?_⟩
   by_cases e' : i' = 13
   ·subst e'
    cases hi2
    rw [hblk]
    rw [hreal] at hr2
    exact h2 13 b hne rfl (hlive hl2) hr2
   ·rw [hl i' e'] at hr2 ⊢
    exact h2 i' b2 hne (by rw [lkOf_ne b b' mem e']; exact hi2) hl2 hr2
 fm := h.fm
def spotP (ps : List Pc) (q : Spot) : Spot := { q with base := baseL ps, st := stL ps, cnt := cntL ps }
def at13 (loc : Loc) (q : Spot) : Loc := fun i => if i = 13 then q else loc i
theorem at13_ne {loc : Loc} {q : Spot} {i : Nat} (h : i ≠ 13) : at13 loc q i = loc i := if_neg h
theorem at13_13 {loc : Loc} {q : Spot} : at13 loc q 13 = q := rfl
theorem con_open {P : Program} {f : FuncId} {args : List A} {t : TypeId} {cd : Cd} {n : Nat} {l : Bool} {xs : List cd.T} {mem mem' : List Blk} {v : A}
  (hargs : renL f13 args = some args) (hm : renBs f13 mem = some mem) (hm' : renBs f13 mem' = some mem') (hv : renA f13 v = some v)
  (h : ∀ (ys : List cd.T) (c : Nat), n ≤ c → c ≤ n + ys.length → Con P gl f (.slc false 13 0 0 n (some c) :: args) (.cells true t [.lst l cd (n + ys.length) (xs ++ ys)] :: mem) ⟨v, .dead :: mem'⟩) :
  Con P gl f (.vec 13 :: args) (.cells true t [.lst l cd n xs] :: mem) ⟨v, .dead :: mem'⟩ := by
 intro loc fm W vs hV hH hg
 obtain ⟨v0, vr, rfl, h0, hr⟩ := hV
 obtain ⟨a, c, e1, h2, h3, h4, h5⟩ := h0
 have hw : 0 < cd.w := nz_w cd
 have hb := hH.ok 13 _ (lkOf_13 _ _)
 obtain ⟨cs, k1, k2, k3⟩ := hb
 obtain ⟨c1, c2, rfl, ⟨hE, hx⟩, hc2⟩ := k1
 have hc2 : c2 = [] := hc2
 subst hc2
 rw [List.append_nil] at k3
 have hcnt : (loc 13).cnt 0 = n := by rw [k2.cnt]; rfl
 have hst : (loc 13).st 0 = cd.w := by rw [k2.st]; rfl
 have hbase : (loc 13).base 0 = 0 := by rw [k2.base]; rfl
 rw [hcnt] at e1 h2
 rw [hst] at h4
 have hlen := Els.length xs c1 hE
 have key : ∃ ys : List cd.T, c ≤ n + ys.length ∧ BlkOk (at13 loc (spotP [.lst l cd (n + ys.length) (xs ++ ys)] (loc 13))) fm (lkOf gl (.cells true t [.lst l cd (n + ys.length) (xs ++ ys)] :: mem)) W 13 (.cells true t [.lst l cd (n + ys.length) (xs ++ ys)]) := by
  cases hreal : (loc 13).real with
  | true =>
   rw [hreal] at k3
   obtain ⟨rest, fz, g1, g2, _⟩ := k3
   obtain ⟨⟨ys, g3⟩, g4, g5⟩ := g2 rfl
   have hl2 := Els.length ys rest g3
   refine ⟨ys, ?_, c1 ++ rest, ⟨c1 ++ rest, [], by simp, ⟨Els.join xs ys c1 rest hE g3, by simp [hx]⟩, rfl⟩, ⟨rfl, rfl, rfl⟩, ?_⟩
   ·rcases h4 with h4 | ⟨_, h4, _⟩
    ·omega
    ·rw [g4, List.length_append, hlen, hl2, hx, ← Nat.add_mul] at h4
     exact Nat.le_of_mul_le_mul_right h4 hw
   ·rw [at13_13, show (spotP [Pc.lst l cd (n + ys.length) (xs ++ ys)] (loc 13)).real = true from hreal]
    exact ⟨[], fz, by rw [List.append_nil]; exact g1, fun _ => ⟨⟨[], rfl⟩, by rw [List.append_nil]; exact g4, by rw [List.append_nil]; exact g5⟩, fun e => by cases e⟩
  | false =>
   rw [hreal] at k3
   have k3 : c1 = [] := k3
   have hn : n = 0 := by
    rw [k3, hx] at hlen
    rcases Nat.mul_eq_zero.1 hlen.symm with h | h
    ·exact h
    ·omega
   have hc : c = 0 := by
    rcases h4 with h4 | ⟨_, _, h4⟩
    ·exact h4
    ·rw [hreal] at h4; cases h4
   refine ⟨[], by omega, c1, ⟨c1, [], by simp, ⟨by rw [List.append_nil]; exact hE, by simp [hx]⟩, rfl⟩, ⟨rfl, rfl, rfl⟩, ?_⟩
   rw [at13_13, show (spotP [Pc.lst l cd (n + ([] : List cd.T).length) (xs ++ [])] (loc 13)).real = false from hreal]
   exact k3
 obtain ⟨ys, hc, hB⟩ := key
 generalize hloc : at13 loc (spotP [.lst l cd (n + ys.length) (xs ++ ys)] (loc 13)) = loc' at hB
 have hne : ∀ i, i ≠ 13 → loc' i = loc i := fun i hi => by rw [← hloc]; exact at13_ne hi
 have hat : loc' 13 = spotP [.lst l cd (n + ys.length) (xs ++ ys)] (loc 13) := by rw [← hloc]; rfl
 have hblk : (loc' 13).blk = (loc 13).blk := by rw [hat]; rfl
 have hreal : (loc' 13).real = (loc 13).real := by rw [hat]; rfl
 have hH' : HRel loc' fm (lkOf gl (.cells true t [.lst l cd (n + ys.length) (xs ++ ys)] :: mem)) W := hrel13 hH hne hm hB hblk hreal (fun _ => rfl) (fun _ => rfl)
 have hr' : Ren f13 loc loc' (lkOf gl (.cells true t [.lst l cd n xs] :: mem)) (lkOf gl (.cells true t [.lst l cd (n + ys.length) (xs ++ ys)] :: mem)) := f13_ren fun j hj hs => ⟨hne j hj, by rw [← lkOf_ne (.cells true t [.lst l cd n xs]) _ mem hj]; exact hs⟩
 have hV' : VTs loc' fm (lkOf gl (.cells true t [.lst l cd (n + ys.length) (xs ++ ys)] :: mem)) (.slc false 13 0 0 n (some c) :: args) (v0 :: vr) := by
  refine ⟨v0, vr, rfl, ⟨a, c, e1, h2, h3, rfl, fun h0 => ?_, ?_, rfl⟩, VTs.ren hr' args args vr hargs hr⟩
  ·rcases h4 with h4 | ⟨h4, _, _⟩
   ·omega
   ·rw [h4, hat]
    simp [spotP, baseL, wPs]
  ·rw [hat]
   show 0 + n ≤ cntL [.lst l cd (n + ys.length) (xs ++ ys)] 0
   show 0 + n ≤ n + ys.length
   omega
 have hown : ∀ k, (baseOf gl (.cells true t [.lst l cd (n + ys.length) (xs ++ ys)] :: mem) loc' fm W).own k ↔ (baseOf gl (.cells true t [.lst l cd n xs] :: mem) loc fm W).own k := fun k => by
  constructor
  ·rintro ⟨m, b, q1, q2, q3, q4⟩
   cases m with
   | zero => exact ⟨0, _, rfl, rfl, hreal.symm.trans q3, hblk.symm.trans q4⟩
   | succ m =>
    have e := hne (gl.length + (m + 1)) (by rw [gl13]; omega)
    exact ⟨m + 1, b, q1, q2, by rw [← e]; exact q3, by rw [← e]; exact q4⟩
  ·rintro ⟨m, b, q1, q2, q3, q4⟩
   cases m with
   | zero => exact ⟨0, _, rfl, rfl, hreal.trans q3, hblk.trans q4⟩
   | succ m =>
    have e := hne (gl.length + (m + 1)) (by rw [gl13]; omega)
    exact ⟨m + 1, b, q1, q2, by rw [e]; exact q3, by rw [e]; exact q4⟩
 refine (h ys c h2 hc loc' fm W (v0 :: vr) hV' hH' (fun g b hgb => ?_)).mono (fun e w hE => ?_)
 ·have hlt : g < gl.length := (List.getElem?_eq_some_iff.1 hgb).1
  rw [hne g (by rw [gl13] at hlt; omega)]
  exact hg g b hgb
 ·obtain ⟨u, loc2, fm2, e1, hu, hL⟩ := hE
  have h13 : loc2 13 = loc' 13 := (hL.fix 13 (by show 13 < gl.length + (_ :: mem).length; rw [gl13, List.length_cons]; omega)).1
  have hne2 : ∀ i, i ≠ 13 → at13 loc2 (loc 13) i = loc2 i := fun i hi => at13_ne hi
  refine ⟨u, at13 loc2 (loc 13), fm2, e1, VR.ren (f13_ren fun j hj hs => ⟨hne2 j hj, hs⟩) hv hu, ?_⟩
  refine ⟨fun i hi => ?_, hrel13 hL.heap hne2 hm' trivial (by rw [at13_13, h13, hblk]) (by rw [at13_13, h13, hreal]) (fun h => h) (fun h => h), fun i b hi hmi hre => ?_, fun b l hb => ?_, hL.fmo, ?_⟩
  ·by_cases e : i = 13
   ·subst e
    exact ⟨rfl, rfl⟩
   ·obtain ⟨q1, q2⟩ := hL.fix i hi
    exact ⟨by rw [hne2 i e, q1]; exact hne i e, q2⟩
  ·by_cases e : i = 13
   ·subst e
    cases hi
    cases hmi
   ·rw [hne2 i e] at hre ⊢
    rcases hL.new i b hi hmi hre with q | q
    ·exact Or.inl ((hown _).1 q)
    ·exact Or.inr q
  ·rcases hL.frz b l hb with q | q | q
   ·exact Or.inl q
   ·exact Or.inr (Or.inl ((hown _).1 q))
   ·exact Or.inr (Or.inr q)
  ·exact ⟨hL.fr.os, hL.fr.tape, hL.fr.output, hL.fr.size, fun k hk ho => hL.fr.block k hk fun q => ho ((hown k).1 q)⟩
theorem con_close {P : Program} {f : FuncId} {args : List A} {t : TypeId} {cd : Cd} {k c N : Nat} {b l : Bool} {zs : List cd.T} {mem mem1 : List Blk} (hk : k ≤ N) (hc : c ≤ N) (hm1 : renBs f13 mem1 = some mem1) (hlen : mem.length ≤ mem1.length + 1)
  (h : Con P gl f args mem ⟨.slc b 13 0 0 k (some c), .cells true t [.lst l cd N zs] :: mem1⟩) :
  Con P gl f args mem ⟨.vec (14 + mem1.length), .dead :: (mem1 ++ [.cells true t [.lst l cd k (zs.take k)]])⟩ := by
 intro loc fm W vs hV hH hg
 refine (h loc fm W vs hV hH hg).mono (fun e w hE => ?_)
 obtain ⟨u, loc1, fm1, e1, hu, hL⟩ := hE
 have hw : 0 < cd.w := nz_w cd
 obtain ⟨cs, k1, k2, k3⟩ := hL.heap.ok 13 _ (lkOf_13 _ _)
 obtain ⟨c1, c2, rfl, ⟨hEl, hx⟩, hc2⟩ := k1
 have hc2 : c2 = [] := hc2
 subst hc2
 rw [List.append_nil] at k3
 have hl1 := Els.length zs c1 hEl
 obtain ⟨a, c', q1, q2, q3, q4, q5, q6, q7⟩ := hu
 have q4 : c' = c := q4
 subst q4
 have hbase : (loc1 13).base 0 = 0 := by rw [k2.base]; rfl
 let B2 : Blk := .cells true t [.lst l cd k (zs.take k)]
 let q2s : Spot := spotP [.lst l cd k (zs.take k)] (loc1 13)
 let M := 14 + mem1.length
 let loc2 : Loc := fun i => if i = M then q2s else loc1 i
 have hat : loc2 M = q2s := if_pos rfl
 have hne : ∀ i, i ≠ M → loc2 i = loc1 i := fun i hi => if_neg hi
 have lkM : lkOf gl (.dead :: (mem1 ++ [B2])) M = some B2 := by
  show (if M < gl.length then gl[M]? else (Blk.dead :: (mem1 ++ [B2]))[M - gl.length]?) = _
  rw [gl13, if_neg (by omega), show M - 13 = mem1.length + 1 by omega]
  simp
 have lkI : ∀ i, i ≠ M → i ≠ 13 → lkOf gl (.dead :: (mem1 ++ [B2])) i = lkOf gl (.cells true t [.lst l cd N zs] :: mem1) i := fun i h1 h2 => by
  unfold lkOf
  rw [gl13]
  split
  ·rfl
  ·obtain ⟨j, hj⟩ : ∃ j, i - 13 = j + 1 := ⟨i - 14, by omega⟩
   rw [hj, List.getElem?_cons_succ, List.getElem?_cons_succ]
   by_cases hlt : j < mem1.length
   ·rw [List.getElem?_append_left hlt]
   ·rw [List.getElem?_eq_none (by simp; omega), List.getElem?_eq_none (by omega)]
 have lkS : ∀ i, i ≠ 13 → (lkOf gl (.cells true t [.lst l cd N zs] :: mem1) i).isSome = true → i ≠ M := fun i h1 h2 h3 => by
  subst h3
  have : lkOf gl (.cells true t [.lst l cd N zs] :: mem1) M = none := by
   unfold lkOf
   rw [gl13, if_neg (by omega), show M - 13 = mem1.length + 1 by omega, List.getElem?_cons_succ]
   exact List.getElem?_eq_none (Nat.le_refl _)
  rw [this] at h2
  cases h2
 have hren : Ren f13 loc1 loc2 (lkOf gl (.cells true t [.lst l cd N zs] :: mem1)) (lkOf gl (.dead :: (mem1 ++ [B2]))) := f13_ren fun j hj hs => ⟨hne j (lkS j hj hs), by rw [lkI j (lkS j hj hs) hj]; exact hs⟩
 have hcase : ((loc1 13).real = true ∧ ∃ rest fz, w.heap[(loc1 13).blk]? = some (.cells (c1 ++ rest).toArray t fz) ∧ (∃ ys, Els fm1 cd ys rest) ∧ (loc1 13).room = (c1 ++ rest).length ∧ Free true (c1 ++ rest).length fz) ∨ ((loc1 13).real = false ∧ c1 = []) := by
  cases hreal : (loc1 13).real with
  | true =>
   rw [hreal] at k3
   obtain ⟨rest, fz, g1, g2, _⟩ := k3
   obtain ⟨g3, g4, g5⟩ := g2 rfl
   exact Or.inl ⟨rfl, rest, fz, g1, g3, g4, g5⟩
  | false =>
   rw [hreal] at k3
   exact Or.inr ⟨rfl, k3⟩
 have hsub := Els.sub zs 0 k c1 hEl
 rw [List.drop_zero, Nat.zero_mul, List.drop_zero] at hsub
 have hB2 : BlkOk loc2 fm1 (lkOf gl (.dead :: (mem1 ++ [B2]))) w M B2 := by
  refine ⟨c1.take (k * cd.w), ⟨_, [], (List.append_nil _).symm, ⟨hsub, by rw [List.length_take]; omega⟩, rfl⟩, by rw [hat]; exact ⟨rfl, rfl, rfl⟩, ?_⟩
  rw [hat]
  rcases hcase with ⟨hr, rest, fz, g1, ⟨ys, g3⟩, g4, g5⟩ | ⟨hr, hn⟩
  ·rw [show q2s.real = true from hr]
   have hsub2 := Els.sub zs k (zs.length - k) c1 hEl
   have hj : c1.take (k * cd.w) ++ (c1.drop (k * cd.w) ++ rest) = c1 ++ rest := by rw [← List.append_assoc, List.take_append_drop]
   refine ⟨c1.drop (k * cd.w) ++ rest, fz, by rw [hj]; exact g1, fun _ => ⟨⟨(zs.drop k).take (zs.length - k) ++ ys, Els.join _ _ _ _ ?_ g3⟩, by rw [hj]; exact g4, by rw [hj]; exact g5⟩, fun e => by cases e⟩
   rw [List.take_of_length_le (l := c1.drop (k * cd.w)) (by rw [List.length_drop, hl1, Nat.sub_mul]; omega)] at hsub2
   exact hsub2
  ·rw [show q2s.real = false from hr, hn]
   simp
 refine ⟨u, loc2, fm1, e1, ?_, ?_⟩
 ·refine ⟨a, c', ?_, ?_, q3, ?_, by rw [lkM]; rfl⟩
  ·rw [hat]; exact q1
  ·rw [hat]; exact q2
  ·rw [hat]
   rcases Nat.eq_zero_or_pos c' with h0 | h0
   ·exact Or.inl h0
   ·refine Or.inr ⟨?_, ?_, ?_⟩
    ·rw [q5 h0, hbase]
     simp [q2s, spotP]
    ·rcases hcase with ⟨hr, rest, fz, g1, g3, g4, g5⟩ | ⟨hr, hn⟩
     ·show c' * cd.w ≤ (loc1 13).room
      rw [g4, List.length_append, hl1, hx]
      exact Nat.le_trans (Nat.mul_le_mul_right _ hc) (Nat.le_add_right _ _)
     ·rw [hn, hx] at hl1
      rcases Nat.mul_eq_zero.1 hl1.symm with h | h <;> omega
    ·rcases hcase with ⟨hr, _⟩ | ⟨hr, hn⟩
     ·exact hr
     ·rw [hn, hx] at hl1
      rcases Nat.mul_eq_zero.1 hl1.symm with h | h <;> omega
 ·have hlim : ∀ i, i < (baseOf gl mem loc fm W).lim → i ≠ M := fun i hi => by
   have : i < gl.length + mem.length := hi
   rw [gl13] at this
   omega
  refine ⟨fun i hi => ?_, ⟨fun i b hi => ?_, fun i b hi hmi hre => ?_, hL.heap.fm⟩, fun i b hi hmi hre => ?_, hL.frz, hL.fmo, hL.fr⟩
  ·obtain ⟨p1, p2⟩ := hL.fix i hi
   refine ⟨by rw [hne i (hlim i hi)]; exact p1, ?_⟩
   by_cases e : i = 13
   ·subst e; rfl
   ·rw [lkI i (hlim i hi) e]; exact p2
  ·by_cases e : i = 13
   ·subst e
    cases hi
    trivial
   ·by_cases e' : i = M
    ·subst e'
     rw [lkM] at hi
     cases hi
     exact hB2
    ·rw [lkI i e' e] at hi
     exact (BlkOk.ren hren (mem_blk hm1 e hi) (hne i e') (hL.heap.ok i b hi)).1
  ·by_cases e : i = 13
   ·subst e
    cases hi
    cases hmi
   ·by_cases e' : i = M
    ·subst e'
     rw [hat] at hre ⊢
     obtain ⟨p1, p2⟩ := hL.heap.alone 13 _ (lkOf_13 _ _) rfl hre
     refine ⟨p1, fun i' b2 hne' hi2 hl2 hr2 => ?_⟩
     by_cases f : i' = 13
     ·subst f
      cases hi2
      cases hl2
     ·rw [hne i' hne'] at hr2 ⊢
      exact p2 i' b2 f (by rw [← lkI i' hne' f]; exact hi2) hl2 hr2
    ·rw [lkI i e' e] at hi
     rw [hne i e'] at hre ⊢
     obtain ⟨p1, p2⟩ := hL.heap.alone i b hi hmi hre
     refine ⟨p1, fun i' b2 hne' hi2 hl2 hr2 => ?_⟩
     by_cases f : i' = 13
     ·subst f
      cases hi2
      cases hl2
     ·by_cases f' : i' = M
      ·subst f'
       rw [hat] at hr2 ⊢
       exact p2 13 _ (Ne.symm e) (lkOf_13 _ _) rfl hr2
      ·rw [hne i' f'] at hr2 ⊢
       exact p2 i' b2 hne' (by rw [← lkI i' f' f]; exact hi2) hl2 hr2
  ·by_cases e : i = 13
   ·subst e
    cases hi
    cases hmi
   ·by_cases e' : i = M
    ·subst e'
     rw [hat] at hre ⊢
     exact hL.new 13 _ (lkOf_13 _ _) rfl hre
    ·rw [lkI i e' e] at hi
     rw [hne i e'] at hre ⊢
     exact hL.new i b hi hmi hre
end
section
theorem Free.off {n : Nat} {fz : Nat × Nat} (h : Free true n fz) (j : Nat) : (decide (fz.1 ≤ j) && decide (j < fz.2)) = false := by
 rcases h with h | ⟨_, h⟩
 ·rw [Bool.and_eq_false_iff, decide_eq_false_iff_not, decide_eq_false_iff_not]
  omega
 ·cases h
theorem over_con {l1 l2 f1 f2 b : Bool} {s1 s2 o1 o2 n1 n2 m1 m2 : Nat} {c1 c2 : Option Nat} {t1 t2 : TypeId} {d1 d2 : Cd} {xs1 : List d1.T} {xs2 : List d2.T} (h1 : 0 < n1) (h2 : 0 < n2) :
  Con Tryz.prog gl 260 [.slc l1 13 s1 o1 n1 c1, .slc l2 14 s2 o2 n2 c2] [.cells true t1 [.lst f1 d1 m1 xs1], .cells true t2 [.lst f2 d2 m2 xs2]] ⟨.bool b false, [.cells true t1 [.lst f1 d1 m1 xs1], .cells true t2 [.lst f2 d2 m2 xs2]]⟩ := by
 intro loc fm W vs hV hH hg
 obtain ⟨v1, r1, rfl, ⟨a1, k1, p1, p2, p3, p4, p5, p6, p7⟩, v2, r2, rfl, ⟨a2, k2, q1, q2, q3, q4, q5, q6, q7⟩, hr⟩ := hV
 have hr : r2 = [] := hr
 subst hr
 simp only [List.cons.injEq, and_true] at p1 q1
 subst p1 q1
 rw [p5 (by omega), q5 (by omega)]
 have blk : ∀ (i : Nat) (t : TypeId) (f : Bool) (d : Cd) (m : Nat) (xs : List d.T) (s o n : Nat), 0 < n → o + n ≤ (loc i).cnt s → lkOf gl [.cells true t1 [.lst f1 d1 m1 xs1], .cells true t2 [.lst f2 d2 m2 xs2]] i = some (.cells true t [.lst f d m xs]) →
   (loc i).real = true ∧ ∃ l fz, W.heap[(loc i).blk]? = some (.cells l t fz) ∧ l.size ≠ 0 ∧ Free true l.size fz := fun i t f d m xs s o n hn hs hi => by
  obtain ⟨cs, g1, g2, g3⟩ := hH.ok i _ hi
  obtain ⟨x1, x2, rfl, ⟨hE, hx⟩, hx2⟩ := g1
  have hx2 : x2 = [] := hx2
  subst hx2
  rw [List.append_nil] at g3
  have hl := Els.length xs x1 hE
  have hw := nz_w d
  rw [g2.cnt] at hs
  have hm : 0 < m := by
   cases s with
   | zero =>
    have hs : o + n ≤ m := hs
    omega
   | succ s =>
    have hs : o + n ≤ 0 := by simpa [cntL] using hs
    omega
  have hpos : 0 < x1.length := by rw [hl, hx]; exact Nat.mul_pos hm hw
  cases hr : (loc i).real with
  | false =>
   rw [hr] at g3
   have g3 : x1 = [] := g3
   rw [g3] at hpos
   cases hpos
  | true =>
   rw [hr] at g3
   obtain ⟨rest, fz, e1, e2, _⟩ := g3
   obtain ⟨_, _, e3⟩ := e2 rfl
   exact ⟨rfl, _, fz, e1, by rw [List.size_toArray, List.length_append]; omega, by rw [List.size_toArray]; exact e3⟩
 obtain ⟨w1, l1, z1, w2, w3, w4⟩ := blk 13 t1 f1 d1 m1 xs1 s1 o1 n1 h1 p6 rfl
 obtain ⟨y1, l2, z2, y2, y3, y4⟩ := blk 14 t2 f2 d2 m2 xs2 s2 o2 n2 h2 q6 rfl
 have hne := (hH.alone 13 _ rfl rfl w1).2 14 _ (by decide) rfl rfl y1
 have run := Lib.run_overlaps_apart (P := Tryz.prog) W 110 4 181 (by kernel_rfl) 2 (fun w => run_sizeOf' (by kernel_rfl) w) ⟨(loc 13).blk, (loc 13).base s1 + o1 * (loc 13).st s1, none⟩ ⟨(loc 14).blk, (loc 14).base s2 + o2 * (loc 14).st s2, none⟩ n1 k1 n2 k2 (fun e => hne e.symm) t1 t2 l1.size l2.size (by simp [World.shape?, w2]) (by simp [World.shape?, y2]) y3
  (by simp only [World.frozen?, w2]; exact w4.off _) (by simp only [World.frozen?, w2]; exact w4.off _)
 refine Or.inr ⟨.bool false, W, ?_, .bool false, loc, fm, rfl, rfl, fun i hi => ⟨rfl, ?_⟩, hH, fun i b hi hm hr => ?_, fun b l h => Or.inl h, fun b l h => h, ⟨rfl, rfl, rfl, Nat.le_refl _, fun _ _ _ => rfl⟩⟩
 ·rw [run_callFunc_extern (P := Tryz.prog) Tryz.func260 (by kernel_rfl) (by kernel_rfl) (by kernel_rfl) (e := Extern.SlicesOverlaps.overlaps #[110, 110] #[4]) (by kernel_rfl), run]
  rfl
 ·have hi : i < gl.length + 2 := hi
  show (if i < gl.length then gl[i]? else _).isSome = true
  split
  ·rename_i hlt
   rw [List.getElem?_eq_getElem hlt]
   rfl
  ·match hk : i - gl.length, (show i - gl.length < 2 by omega) with
   | 0, _ => rfl
   | 1, _ => rfl
 ·have hi : (if i < gl.length then gl[i]? else _) = some b := hi
  split at hi
  ·have := (env_ok [] cNil.ok cNil.still).ro i b hi
   rw [this] at hm
   cases hm
  ·rename_i hge
   exact Or.inl ⟨i - gl.length, b, hi, hm, by rw [show gl.length + (i - gl.length) = i by omega]; exact hr, by rw [show gl.length + (i - gl.length) = i by omega]⟩
noncomputable def F260 : Spec := fun args mem => match args, mem with
 | [.slc _ i _ _ n _, .slc _ j _ _ m _], [.cells true t [.lst f d k xs], .cells true t' [.lst f' d' k' xs']] => gd (Nat.beq i 13 && Nat.beq j 14) (.ob (0 < n ∧ 0 < m) (.leaf ⟨.bool true false, [.cells true t [.lst f d k xs], .cells true t' [.lst f' d' k' xs']]⟩))
 | [.vec i, .slc _ j _ _ m _], [.cells true t [.lst f d k xs], .cells true t' [.lst f' d' k' xs']] => gd (Nat.beq i 13 && Nat.beq j 14) (.ob (0 < k ∧ 0 < m) (.leaf ⟨.bool true false, [.cells true t [.lst f d k xs], .cells true t' [.lst f' d' k' xs']]⟩))
 | _, _ => .fail
theorem f260_ok : FnOk Tryz.prog gl 260 F260 := by
 intro args mem r h
 unfold F260 at h
 split at h
 case h_3 => exact h.elim
 all_goals
  obtain ⟨h1, h⟩ := Tr.is_gd.1 h
  obtain ⟨h2, h⟩ := Tr.is_ob.1 h
  have h := Tr.is_leaf.1 h
  subst h
  rw [Bool.and_eq_true] at h1
  rw [Nat.eq_of_beq_eq_true h1.1, Nat.eq_of_beq_eq_true h1.2]
 ·exact over_con h2.1 h2.2
 ·exact con_part (.turn false rfl (.keep _ .nil)) (over_con h2.1 h2.2)
end
section
theorem con_kill {P : Program} {f : FuncId} {args : List A} {mem mem' : List Blk} {v : A} {b : Blk} (hm' : renBs f13 mem' = some mem') (hv : renA f13 v = some v) (h : Con P gl f args mem ⟨v, b :: mem'⟩) : Con P gl f args mem ⟨v, .dead :: mem'⟩ := by
 intro loc fm W vs hV hH hg
 refine (h loc fm W vs hV hH hg).mono (fun e w hE => ?_)
 obtain ⟨u, loc2, fm2, e1, hu, hL⟩ := hE
 have hlk : ∀ j, j ≠ 13 → lkOf gl (Blk.dead :: mem') j = lkOf gl (b :: mem') j := fun j hj => lkOf_ne _ _ _ hj
 refine ⟨u, loc2, fm2, e1, VR.ren (f13_ren fun j hj hs => ⟨rfl, by rw [hlk j hj]; exact hs⟩) hv hu, fun i hi => ?_, hrel13 hL.heap (fun _ _ => rfl) hm' trivial rfl rfl (fun h => by cases h) (fun h => by cases h), fun i c hi hm hr => ?_, hL.frz, hL.fmo, hL.fr⟩
 ·obtain ⟨q1, q2⟩ := hL.fix i hi
  refine ⟨q1, ?_⟩
  by_cases e : i = 13
  ·subst e; rfl
  ·rw [hlk i e]; exact q2
 ·by_cases e : i = 13
  ·subst e
   cases hi
   cases hm
  ·exact hL.new i c (by rw [← hlk i e]; exact hi) hm hr
noncomputable def rB (xs : List Rng) : Blk := .cells true 181 [.lst true .rng xs.length xs]
def bdI (lo hi mx cap : Int) : Prop := 0 ≤ lo ∧ lo ≤ hi ∧ hi ≤ mx ∧ mx ≤ cap
def obIG (c L : Nat) : List Prop := [bdI 0 1 1 c, (2 : Int) = 2, decide ((2 : Int) > (c : Int)) = true, bdI 0 0 0 c, 0 ≤ 1 + L, (2 : Int) = 2, (2 : Int) = 2, (0 : Int) ≤ 2 ∧ (32 : Int) ≤ 281474976710656, Nat.ble 2 c = false]
noncomputable abbrev cI : Cons := [(260, F260)]
theorem cI_ok : ConsOk cI := cons_ok f260_ok (Or.inl (by decide)) cNil
theorem insG (x z : Rng) (ys : List Rng) (c : Nat) : Goes (callRun tc ((env cI).fn 20) Tryz.f259 1000 [.slc false 13 0 0 1 (some c), .int true .i64 0, .vec 14] [.cells true 181 [.lst false .rng (1 + ys.length) ([x] ++ ys)], rB [z]]) [.a, .t, .f]
  (obIG c ys.length ++ [((subL false 0 0 (1 + ys.length) ([x] ++ ys)).length + 2) * 16 ≤ 140737488355328 ∧ (subL false 0 0 (1 + ys.length) ([x] ++ ys)).length + 2 < 9223372036854775808,
   bdI 0 (((subL false 0 0 (1 + ys.length) ([x] ++ ys)).length + 2 : Nat) : Int) (((subL false 0 0 (1 + ys.length) ([x] ++ ys)).length + 2 : Nat) : Int) (((subL false 0 0 (1 + ys.length) ([x] ++ ys)).length + 2 : Nat) : Int),
   bdI 1 (((subL false 0 0 (1 + ys.length) ([x] ++ ys)).length + 2 : Nat) : Int) (((subL false 0 0 (1 + ys.length) ([x] ++ ys)).length + 2 : Nat) : Int) (((subL false 0 0 (1 + ys.length) ([x] ++ ys)).length + 2 : Nat) : Int), bdI 0 1 1 c])
  ⟨.vec 15, [.cells true 181 [.lst false .rng (1 + ys.length) ([x] ++ ys)], rB [z], .cells true 181 [.lst false .rng 2 [z, x]]]⟩ := by
 unfold Goes
 kernel_rfl
theorem insP (x z y : Rng) (ys : List Rng) (c : Nat) : Goes (callRun tc ((env cI).fn 20) Tryz.f259 1000 [.slc false 13 0 0 1 (some c), .int true .i64 0, .vec 14] [.cells true 181 [.lst false .rng (1 + (y :: ys).length) ([x] ++ (y :: ys))], rB [z]]) [.a, .f]
  [bdI 0 1 1 c, (2 : Int) = 2, decide ((2 : Int) > (c : Int)) = false, (2 : Int) = 2, bdI 0 2 2 c, 2 ≤ 1 + (y :: ys).length, bdI 1 2 2 c, 0 < 1 ∧ 0 < 1, bdI 1 2 2 c, bdI 0 2 2 c, bdI 0 2 2 c]
  ⟨.slc false 13 0 0 2 (some c), [.cells true 181 [.lst false .rng (1 + (y :: ys).length) (z :: x :: ys)], rB [z]]⟩ := by
 unfold Goes
 kernel_rfl
theorem repP (x y z : Rng) (ys : List Rng) (c : Nat) : Goes (callRun tc ((env cI).fn 20) Tryz.f225 1000 [.slc false 13 0 0 2 (some c), .int true .i64 0, .int true .i64 1, .vec 14] [.cells true 181 [.lst false .rng (2 + ys.length) ([x, y] ++ ys)], rB [z]]) [.a, .f]
  [bdI 0 1 1 c, 1 ≤ 2 + ys.length, bdI 0 0 0 c, 0 ≤ 2 + ys.length, (1 : Int) = 1, bdI 1 2 2 c, (2 : Int) = 2, decide ((2 : Int) > (c : Int)) = false, bdI 0 2 2 c, 2 ≤ 2 + ys.length, bdI 0 2 2 c, bdI 1 2 2 c, bdI 1 2 2 c, bdI 2 2 2 c]
  ⟨.slc false 13 0 0 2 (some c), [.cells true 181 [.lst false .rng (2 + ys.length) (z :: y :: ys)], rB [z]]⟩ := by
 unfold Goes
 kernel_rfl
theorem ins_con (x z : Rng) : Con Tryz.prog gl 259 [.vec 13, .int true .i64 0, .vec 14] [rB [x], rB [z]] ⟨.vec 15, [.dead, rB [z], rB [z, x]]⟩ := by
 refine con_to (con_open (cd := .rng) (n := 1) (l := false) (xs := [x]) (mem := [rB [z]]) (mem' := [rB [z], rB [z, x]]) rfl rfl rfl rfl (fun (ys : List Rng) c h1 h2 => ?_))
 rcases Nat.lt_or_ge c 2 with hc | hc
 ·refine con_kill rfl rfl (con_goes cI_ok Tryz.func259 1000 (insG x z ys c) ?_)
  have hs : (subL false 0 0 (1 + ys.length) ([x] ++ ys)).length = 0 := by
   rw [subL_eq (by simp; omega)]
   rfl
  rw [hs]
  unfold obIG bdI
  refine Conj.app ⟨by omega, rfl, decide_eq_true (by omega), by omega, by omega, rfl, rfl, by decide, ?_, trivial⟩ ⟨by omega, by omega, by omega, by omega, trivial⟩
  cases hb : Nat.ble 2 c with
  | false => rfl
  | true => have := Nat.le_of_ble_eq_true hb; omega
 ·match ys, h2 with
  | [], h2 => exact absurd (show c ≤ 1 from h2) (by omega)
  | y :: ys, h2 =>
   have hk : 2 ≤ 1 + (y :: ys : List Rng).length := by rw [List.length_cons]; omega
   have ob : Conj [bdI 0 1 1 c, (2 : Int) = 2, decide ((2 : Int) > (c : Int)) = false, (2 : Int) = 2, bdI 0 2 2 c, 2 ≤ 1 + (y :: ys).length, bdI 1 2 2 c, 0 < 1 ∧ 0 < 1, bdI 1 2 2 c, bdI 0 2 2 c, bdI 0 2 2 c] := by
    unfold bdI
    refine ⟨by omega, rfl, decide_eq_false (by omega), rfl, by omega, by rw [List.length_cons]; omega, by omega, by decide, by omega, by omega, by omega, trivial⟩
   have con := con_goes cI_ok Tryz.func259 1000 (insP x z y ys c) ob
   exact con_to (con_close (cd := .rng) (k := 2) (zs := (z :: x :: ys : List Rng)) (mem := [.cells true 181 [.lst false .rng (1 + (y :: ys : List Rng).length) ([x] ++ (y :: ys) : List Rng)], rB [z]]) (mem1 := [rB [z]]) hk h2 rfl (Nat.le_refl 2) con)
theorem rep_con (x y z : Rng) : Con Tryz.prog gl 225 [.vec 13, .int true .i64 0, .int true .i64 1, .vec 14] [rB [x, y], rB [z]] ⟨.vec 15, [.dead, rB [z], rB [z, y]]⟩ := by
 refine con_to (con_open (cd := .rng) (n := 2) (l := false) (xs := [x, y]) (mem := [rB [z]]) (mem' := [rB [z], rB [z, y]]) rfl rfl rfl rfl (fun (ys : List Rng) c h1 h2 => ?_))
 have ob : Conj [bdI 0 1 1 c, 1 ≤ 2 + ys.length, bdI 0 0 0 c, 0 ≤ 2 + ys.length, (1 : Int) = 1, bdI 1 2 2 c, (2 : Int) = 2, decide ((2 : Int) > (c : Int)) = false, bdI 0 2 2 c, 2 ≤ 2 + ys.length, bdI 0 2 2 c, bdI 1 2 2 c, bdI 1 2 2 c, bdI 2 2 2 c] := by
  unfold bdI
  exact ⟨by omega, by omega, by omega, by omega, rfl, by omega, rfl, decide_eq_false (by omega), by omega, by omega, by omega, by omega, by omega, by omega, trivial⟩
 have con := con_goes cI_ok Tryz.func225 1000 (repP x y z ys c) ob
 exact con_to (con_close (cd := .rng) (k := 2) (zs := (z :: y :: ys : List Rng)) (mem := [.cells true 181 [.lst false .rng (2 + ys.length) ([x, y] ++ ys : List Rng)], rB [z]]) (mem1 := [rB [z]]) (by omega) h2 rfl (Nat.le_refl 2) con)
noncomputable def F259 : Spec := fun args mem => match args, mem with
 | [.vec i, .int true .i64 0, .vec j], [.cells true 181 [.lst _ .rng 1 [x]], .cells true 181 [.lst _ .rng 1 [z]]] => gd (Nat.beq i 13 && Nat.beq j 14) (.leaf ⟨.vec 15, [.dead, rB [z], rB [z, x]]⟩)
 | args, mem => callRun tc ((env cI).fn 20) Tryz.f259 1000 args mem
theorem f259_ok : FnOk Tryz.prog gl 259 F259 := by
 intro args mem r h
 unfold F259 at h
 split at h
 ·obtain ⟨h1, h⟩ := Tr.is_gd.1 h
  have h := Tr.is_leaf.1 h
  subst h
  rw [Bool.and_eq_true] at h1
  rw [Nat.eq_of_beq_eq_true h1.1, Nat.eq_of_beq_eq_true h1.2]
  exact con_to (ins_con _ _)
 ·exact con_of_run (Env.ctx_ok (env_ok _ cI_ok.ok cI_ok.still) 20) Tryz.func259 h
noncomputable def F225 : Spec := fun args mem => match args, mem with
 | [.vec i, .int true .i64 0, .int true .i64 1, .vec j], [.cells true 181 [.lst _ .rng 2 [_, y]], .cells true 181 [.lst _ .rng 1 [z]]] => gd (Nat.beq i 13 && Nat.beq j 14) (.leaf ⟨.vec 15, [.dead, rB [z], rB [z, y]]⟩)
 | args, mem => callRun tc ((env [(259, F259)]).fn 20) Tryz.f225 1000 args mem
theorem f225_ok : FnOk Tryz.prog gl 225 F225 := by
 intro args mem r h
 unfold F225 at h
 split at h
 ·obtain ⟨h1, h⟩ := Tr.is_gd.1 h
  have h := Tr.is_leaf.1 h
  subst h
  rw [Bool.and_eq_true] at h1
  rw [Nat.eq_of_beq_eq_true h1.1, Nat.eq_of_beq_eq_true h1.2]
  exact con_to (rep_con _ _ _)
 ·have hc : ConsOk [(259, F259)] := cons_ok f259_ok (Or.inl (by decide)) cNil
  exact con_of_run (Env.ctx_ok (env_ok _ hc.ok hc.still) 20) Tryz.func225 h
inductive VcP (lk : Lk) : List Pc → List Pc → Prop
 | nil : VcP lk [] []
 | keep {ps qs : List Pc} (p : Pc) : VcP lk ps qs → VcP lk (p :: ps) (p :: qs)
 | turn {ps qs : List Pc} {fl o : Bool} {id n : Nat} {t : TypeId} {p : Pc} : lk id = some (.cells o t [p]) → cntOf p = n → VcP lk ps qs → VcP lk (.one (.slc fl id 0 0 n none) :: ps) (.one (.vec id) :: qs)
inductive VcBs (lk : Lk) : List Blk → List Blk → Prop
 | nil : VcBs lk [] []
 | keep {l m : List Blk} (b : Blk) : VcBs lk l m → VcBs lk (b :: l) (b :: m)
 | cells {l m : List Blk} {ps qs : List Pc} (o : Bool) (t : TypeId) : VcP lk ps qs → VcBs lk l m → VcBs lk (.cells o t ps :: l) (.cells o t qs :: m)
section
variable {loc : Loc} {fm : Fm} {lk : Lk} {w : World}
theorem VC_whole (h : HRel loc fm lk w) {fl o : Bool} {id n : Nat} {t : TypeId} {p : Pc} (hk : lk id = some (.cells o t [p])) (hn : cntOf p = n) {cs : List Value} (hv : VC loc fm lk (.slc fl id 0 0 n none) cs) : VC loc fm lk (.vec id) cs := by
 obtain ⟨a, c, h1, h2, h3, ⟨h4, h5⟩, h6, h7, h8⟩ := hv
 obtain ⟨ds, _, k2, _⟩ := h.ok id _ hk
 have hc : (loc id).cnt 0 = n := by rw [k2.cnt, ← hn]; rfl
 have hb : (loc id).base 0 = 0 := by rw [k2.base]; rfl
 refine ⟨a, c, by rw [hc]; exact h1, by rw [hc]; exact h2, h3, ?_, h8⟩
 rcases Nat.eq_zero_or_pos c with h0 | h0
 ·exact Or.inl h0
 ·obtain ⟨g1, g2⟩ := h5 h0
  refine Or.inr ⟨?_, ?_, g1⟩
  ·rw [h6 h0, hb, Nat.zero_mul]
  ·rw [hb, Nat.zero_add, Nat.zero_add] at g2
   exact g2
theorem VcP.ok (h : HRel loc fm lk w) : ∀ {ps qs : List Pc}, VcP lk ps qs → ∀ cs, PcsOk loc fm lk ps cs → PcsOk loc fm lk qs cs
 | _, _, .nil, _, hv => hv
 | _, _, .keep p hu, _, ⟨c1, c2, h1, h2, h3⟩ => ⟨c1, c2, h1, h2, VcP.ok h hu _ h3⟩
 | _, _, .turn hk hn hu, _, ⟨c1, c2, h1, h2, h3⟩ => ⟨c1, c2, h1, ⟨VC_whole h hk hn h2.1, rfl⟩, VcP.ok h hu _ h3⟩
theorem VcP.like : ∀ {ps qs : List Pc}, VcP lk ps qs → Likes ps qs
 | _, _, .nil => trivial
 | _, _, .keep p hu => ⟨Like.refl p, hu.like⟩
 | _, _, .turn _ _ hu => ⟨trivial, hu.like⟩
theorem VcBs.get (h : HRel loc fm lk w) : ∀ {l m : List Blk}, VcBs lk l m → l.length = m.length ∧ ∀ (i : Nat) c, m[i]? = some c → ∃ b, l[i]? = some b ∧ c.mine = b.mine ∧ c.live = b.live ∧ ∀ j, BlkOk loc fm lk w j b → BlkOk loc fm lk w j c
 | _, _, .nil => ⟨rfl, fun i c hc => by simp at hc⟩
 | _, _, .keep b hl => by
  obtain ⟨h1, h2⟩ := VcBs.get h hl
  refine ⟨by simp [h1], fun i c hc => ?_⟩
  cases i with
  | zero => cases hc; exact ⟨b, rfl, rfl, rfl, fun _ h => h⟩
  | succ i => simpa using h2 i c (by simpa using hc)
 | _, _, .cells (ps := ps) o t hp hl => by
  obtain ⟨h1, h2⟩ := VcBs.get h hl
  refine ⟨by simp [h1], fun i c hc => ?_⟩
  cases i with
  | zero =>
   cases hc
   refine ⟨.cells o t ps, rfl, by cases o <;> rfl, rfl, fun j hb => ?_⟩
   obtain ⟨cs, g1, g2, g3⟩ := hb
   refine ⟨cs, hp.ok h _ g1, hp.like.lies g2, ?_⟩
   revert g3
   cases (loc j).real with
   | false => exact id
   | true => exact fun ⟨rest, fz, e1, e2, e3⟩ => ⟨rest, fz, e1, fun ho => ⟨hp.like.rest _ (e2 ho).1, (e2 ho).2.1, by rw [hp.like.lst]; exact (e2 ho).2.2⟩, e3⟩
  | succ i => simpa using h2 i c (by simpa using hc)
end
end
section
def atL (m : Nat) : List (Option Nat) → Option Nat
 | [] => none
 | some k :: r => match Nat.beq k m with
  | true => some 0
  | false => (atL m r).map (· + 1)
 | none :: r => (atL m r).map (· + 1)
theorem atL_get {m : Nat} : ∀ (l : List (Option Nat)) (i : Nat), atL m l = some i → l[i]? = some (some m)
 | [], _, h => by cases h
 | some k :: r, i, h => by
  unfold atL at h
  split at h
  ·rename_i hb
   cases h
   rw [Nat.eq_of_beq_eq_true hb]
   rfl
  ·obtain ⟨j, hj, rfl⟩ := Option.map_eq_some_iff.1 h
   simpa using atL_get r j hj
 | none :: r, i, h => by
  unfold atL at h
  obtain ⟨j, hj, rfl⟩ := Option.map_eq_some_iff.1 h
  simpa using atL_get r j hj
def okL (n : Nat) (all : List (Option Nat)) : Nat → List (Option Nat) → Bool
 | _, [] => true
 | i, none :: r => okL n all (i + 1) r
 | i, some m :: r => Nat.ble (m + 1) n && decide (atL m all = some i) && okL n all (i + 1) r
theorem okL_get {n : Nat} {all : List (Option Nat)} : ∀ (l : List (Option Nat)) (i : Nat), okL n all i l = true → ∀ k m, l[k]? = some (some m) → m < n ∧ atL m all = some (i + k)
 | [], _, _, k, m, h => by simp at h
 | none :: r, i, hb, k, m, h => by
  cases k with
  | zero => simp at h
  | succ k =>
   have := okL_get r (i + 1) hb k m (by simpa using h)
   exact ⟨this.1, by rw [this.2]; congr 1; omega⟩
 | some q :: r, i, hb, k, m, h => by
  simp only [okL, Bool.and_eq_true] at hb
  cases k with
  | zero =>
   simp at h
   subst h
   exact ⟨Nat.le_of_ble_eq_true hb.1.1, of_decide_eq_true hb.1.2⟩
  | succ k =>
   have := okL_get r (i + 1) hb.2 k m (by simpa using h)
   exact ⟨this.1, by rw [this.2]; congr 1; omega⟩
def stayL (l : List (Option Nat)) : Nat → Bool
 | 0 => true
 | n + 1 => (match atL n l with | none => true | some i => Nat.beq i n) && stayL l n
theorem stayL_get {l : List (Option Nat)} : ∀ n, stayL l n = true → ∀ j, j < n → atL j l = none ∨ atL j l = some j
 | 0, _, j, h => by omega
 | n + 1, hb, j, h => by
  simp only [stayL, Bool.and_eq_true] at hb
  by_cases e : j = n
  ·subst e
   cases ha : atL j l with
   | none => exact Or.inl rfl
   | some i =>
    rw [ha] at hb
    exact Or.inr (by rw [Nat.eq_of_beq_eq_true hb.1])
  ·exact stayL_get n hb.2 j (by omega)
def toF (l : List (Option Nat)) (i : Nat) : Option Nat :=
 match Nat.ble 13 i with
 | false => some i
 | true => match l[i - 13]? with
  | some (some m) => some (13 + m)
  | _ => none
def putBs (l : List (Option Nat)) (mem1 : List Blk) : Nat → List Blk → Prop
 | _, [] => True
 | m, b :: r => (match atL m l with
   | some i => match mem1[i]? with
    | some b1 => renB (toF l) b1 = some b
    | none => False
   | none => b = .dead) ∧ putBs l mem1 (m + 1) r
theorem putBs_get {l : List (Option Nat)} {mem1 : List Blk} : ∀ (mem2 : List Blk) (m : Nat), putBs l mem1 m mem2 → ∀ k b, mem2[k]? = some b → (∃ i b1, atL (m + k) l = some i ∧ mem1[i]? = some b1 ∧ renB (toF l) b1 = some b) ∨ b = .dead
 | [], _, _, k, b, h => by simp at h
 | c :: r, m, ⟨h1, h2⟩, k, b, h => by
  cases k with
  | zero =>
   cases h
   rw [Nat.add_zero]
   split at h1
   ·rename_i i hi
    split at h1
    ·rename_i b1 hb1
     exact Or.inl ⟨i, b1, hi, hb1, h1⟩
    ·exact h1.elim
   ·exact Or.inr h1
  | succ k =>
   have := putBs_get r (m + 1) h2 k b (by simpa using h)
   rwa [show m + 1 + k = m + (k + 1) by omega] at this
theorem lkOf_ge {mem : List Blk} {i : Nat} (h : 13 ≤ i) : lkOf gl mem i = mem[i - 13]? := by
 unfold lkOf
 rw [gl13, if_neg (by omega)]
theorem lkOf_lt {mem : List Blk} {i : Nat} (h : i < 13) : lkOf gl mem i = gl[i]? := by
 unfold lkOf
 rw [gl13, if_pos (by omega)]
theorem con_ren {P : Program} {f : FuncId} {args : List A} {mem mem1 mem2 : List Blk} {v v2 : A} (l : List (Option Nat)) (hl : okL mem2.length l 0 l = true) (hs : stayL l mem.length = true) (hle : mem.length ≤ mem2.length) (hgl : renBs (toF l) gl = some gl)
  (hm : putBs l mem1 0 mem2) (hv : renA (toF l) v = some v2) (h : Con P gl f args mem ⟨v, mem1⟩) : Con P gl f args mem ⟨v2, mem2⟩ := by
 intro loc fm W vs hV hH hg
 refine (h loc fm W vs hV hH hg).mono (fun e w hE => ?_)
 obtain ⟨u, loc1, fm1, e1, hu, hL⟩ := hE
 let loc2 : Loc := fun j => match Nat.ble 13 j with
  | false => loc1 j
  | true => match atL (j - 13) l with
   | some i => loc1 (13 + i)
   | none => loc1 j
 have lo : ∀ j, j < 13 → loc2 j = loc1 j := fun j hj => by
  show (match Nat.ble 13 j with | false => loc1 j | true => _) = _
  rw [show Nat.ble 13 j = false from by cases hb : Nat.ble 13 j with | false => rfl | true => have := Nat.le_of_ble_eq_true hb; omega]
 have hi : ∀ j i, 13 ≤ j → atL (j - 13) l = some i → loc2 j = loc1 (13 + i) := fun j i hj ha => by
  show (match Nat.ble 13 j with | false => loc1 j | true => match atL (j - 13) l with | some i => loc1 (13 + i) | none => loc1 j) = _
  rw [Nat.ble_eq_true_of_le hj, ha]
 have hiN : ∀ j, 13 ≤ j → atL (j - 13) l = none → loc2 j = loc1 j := fun j hj ha => by
  show (match Nat.ble 13 j with | false => loc1 j | true => match atL (j - 13) l with | some i => loc1 (13 + i) | none => loc1 j) = _
  rw [Nat.ble_eq_true_of_le hj, ha]
 have hren : Ren (toF l) loc1 loc2 (lkOf gl mem1) (lkOf gl mem2) := ⟨fun i j hF hsm => by
  unfold toF at hF
  split at hF
  ·rename_i hb
   have hlt : i < 13 := by
    rcases Nat.lt_or_ge i 13 with h | h
    ·exact h
    ·rw [Nat.ble_eq_true_of_le h] at hb; cases hb
   cases hF
   exact ⟨lo i hlt, by rw [lkOf_lt hlt] at hsm ⊢; exact hsm⟩
  ·rename_i hb
   have hge := Nat.le_of_ble_eq_true hb
   split at hF
   ·rename_i m hm
    cases hF
    obtain ⟨k1, k2⟩ := okL_get l 0 hl (i - 13) m hm
    rw [Nat.zero_add] at k2
    refine ⟨?_, ?_⟩
    ·rw [hi (13 + m) (i - 13) (by omega) (by rw [Nat.add_sub_cancel_left]; exact k2), show 13 + (i - 13) = i by omega]
    ·rw [lkOf_ge (by omega), Nat.add_sub_cancel_left, List.getElem?_eq_getElem k1]
     rfl
   ·cases hF⟩
 let src : Nat → Nat → Prop := fun j i => (j < 13 ∧ i = j) ∨ (13 ≤ j ∧ ∃ m, atL (j - 13) l = some m ∧ i = 13 + m)
 have inj : ∀ j j' i, src j i → src j' i → j = j' := fun j j' i h1 h2 => by
  rcases h1 with ⟨a1, a2⟩ | ⟨a1, m, a2, a3⟩ <;> rcases h2 with ⟨b1, b2⟩ | ⟨b1, m', b2, b3⟩
  ·omega
  ·omega
  ·omega
  ·have : m = m' := by omega
   subst this
   have k1 := atL_get l m a2
   have k2 := atL_get l m b2
   rw [k1] at k2
   simp only [Option.some.injEq] at k2
   omega
 have back : ∀ j c, lkOf gl mem2 j = some c → c = .dead ∨ ∃ i b, lkOf gl mem1 i = some b ∧ renB (toF l) b = some c ∧ loc2 j = loc1 i ∧ src j i := fun j c hc => by
  rcases Nat.lt_or_ge j 13 with hj | hj
  ·rw [lkOf_lt hj] at hc
   obtain ⟨b', h1, h2⟩ := (renBs_get gl gl hgl).2 j c hc
   rw [hc] at h1
   cases h1
   exact Or.inr ⟨j, c, by rw [lkOf_lt hj]; exact hc, h2, lo j hj, Or.inl ⟨hj, rfl⟩⟩
  ·rw [lkOf_ge hj] at hc
   rcases putBs_get mem2 0 hm (j - 13) c hc with ⟨i, b1, k1, k2, k3⟩ | hd
   ·rw [Nat.zero_add] at k1
    exact Or.inr ⟨13 + i, b1, by rw [lkOf_ge (by omega), Nat.add_sub_cancel_left]; exact k2, k3, hi j i hj k1, Or.inr ⟨hj, i, k1, rfl⟩⟩
   ·exact Or.inl hd
 refine ⟨u, loc2, fm1, e1, VR.ren hren hv hu, fun j hj => ?_, ⟨fun j c hc => ?_, fun j c hc hmi hre => ?_, hL.heap.fm⟩, fun j c hc hmi hre => ?_, hL.frz, hL.fmo, hL.fr⟩
 ·obtain ⟨q1, q2⟩ := hL.fix j hj
  have hj : j < gl.length + mem.length := hj
  rw [gl13] at hj
  rcases Nat.lt_or_ge j 13 with h | h
  ·exact ⟨by rw [lo j h]; exact q1, by rw [lkOf_lt h] at q2 ⊢; exact q2⟩
  ·refine ⟨?_, by rw [lkOf_ge h, List.getElem?_eq_getElem (show j - 13 < mem2.length by omega)]; rfl⟩
   rcases stayL_get mem.length hs (j - 13) (by omega) with ha | ha
   ·rw [hiN j h ha]; exact q1
   ·rw [hi j _ h ha, show 13 + (j - 13) = j by omega]; exact q1
 ·rcases back j c hc with rfl | ⟨i, b, k1, k2, k3, _⟩
  ·trivial
  ·exact (BlkOk.ren hren k2 k3 (hL.heap.ok i b k1)).1
 ·rcases back j c hc with rfl | ⟨i, b, k1, k2, k3, k4⟩
  ·cases hmi
  ·obtain ⟨_, m1, m2⟩ := BlkOk.ren hren k2 k3 (hL.heap.ok i b k1)
   rw [k3] at hre ⊢
   obtain ⟨p1, p2⟩ := hL.heap.alone i b k1 (by rw [← m1]; exact hmi) hre
   refine ⟨p1, fun j' c' hne hc' hl' hr' => ?_⟩
   rcases back j' c' hc' with rfl | ⟨i', b', g1, g2, g3, g4⟩
   ·cases hl'
   ·obtain ⟨_, n1, n2⟩ := BlkOk.ren hren g2 g3 (hL.heap.ok i' b' g1)
    rw [g3] at hr' ⊢
    exact p2 i' b' (fun e => hne (inj j' j i (e ▸ g4) k4)) g1 (by rw [← n2]; exact hl') hr'
 ·rcases back j c hc with rfl | ⟨i, b, k1, k2, k3, _⟩
  ·cases hmi
  ·obtain ⟨_, m1, _⟩ := BlkOk.ren hren k2 k3 (hL.heap.ok i b k1)
   rw [k3] at hre ⊢
   exact hL.new i b k1 (by rw [← m1]; exact hmi) hre
end
section
theorem con_shut {P : Program} {f : FuncId} {args : List A} {t : TypeId} {cd : Cd} {k N : Nat} {b l : Bool} {zs : List cd.T} {mem mem1 : List Blk} (hk : k ≤ N) (hm1 : renBs f13 mem1 = some mem1) (hlen : mem.length ≤ mem1.length + 1)
  (h : Con P gl f args mem ⟨.slc b 13 0 0 k none, .cells true t [.lst l cd N zs] :: mem1⟩) :
  Con P gl f args mem ⟨.vec (14 + mem1.length), .dead :: (mem1 ++ [.cells true t [.lst l cd k (zs.take k)]])⟩ := by
 intro loc fm W vs hV hH hg
 refine (h loc fm W vs hV hH hg).mono (fun e w hE => ?_)
 obtain ⟨u, loc1, fm1, e1, hu, hL⟩ := hE
 have hw : 0 < cd.w := nz_w cd
 obtain ⟨cs, k1, k2, k3⟩ := hL.heap.ok 13 _ (lkOf_13 _ _)
 obtain ⟨c1, c2, rfl, ⟨hEl, hx⟩, hc2⟩ := k1
 have hc2 : c2 = [] := hc2
 subst hc2
 rw [List.append_nil] at k3
 have hl1 := Els.length zs c1 hEl
 obtain ⟨a, c', q1, q2, q3, q4, q5, q6, q7⟩ := hu
 obtain ⟨_, q4⟩ := q4
 have hbase : (loc1 13).base 0 = 0 := by rw [k2.base]; rfl
 let B2 : Blk := .cells true t [.lst l cd k (zs.take k)]
 let q2s : Spot := spotP [.lst l cd k (zs.take k)] (loc1 13)
 let M := 14 + mem1.length
 let loc2 : Loc := fun i => if i = M then q2s else loc1 i
 have hat : loc2 M = q2s := if_pos rfl
 have hne : ∀ i, i ≠ M → loc2 i = loc1 i := fun i hi => if_neg hi
 have lkM : lkOf gl (.dead :: (mem1 ++ [B2])) M = some B2 := by
  show (if M < gl.length then gl[M]? else (Blk.dead :: (mem1 ++ [B2]))[M - gl.length]?) = _
  rw [gl13, if_neg (by omega), show M - 13 = mem1.length + 1 by omega]
  simp
 have lkI : ∀ i, i ≠ M → i ≠ 13 → lkOf gl (.dead :: (mem1 ++ [B2])) i = lkOf gl (.cells true t [.lst l cd N zs] :: mem1) i := fun i h1 h2 => by
  unfold lkOf
  rw [gl13]
  split
  ·rfl
  ·obtain ⟨j, hj⟩ : ∃ j, i - 13 = j + 1 := ⟨i - 14, by omega⟩
   rw [hj, List.getElem?_cons_succ, List.getElem?_cons_succ]
   by_cases hlt : j < mem1.length
   ·rw [List.getElem?_append_left hlt]
   ·rw [List.getElem?_eq_none (by simp; omega), List.getElem?_eq_none (by omega)]
 have lkS : ∀ i, i ≠ 13 → (lkOf gl (.cells true t [.lst l cd N zs] :: mem1) i).isSome = true → i ≠ M := fun i h1 h2 h3 => by
  subst h3
  have : lkOf gl (.cells true t [.lst l cd N zs] :: mem1) M = none := by
   unfold lkOf
   rw [gl13, if_neg (by omega), show M - 13 = mem1.length + 1 by omega, List.getElem?_cons_succ]
   exact List.getElem?_eq_none (Nat.le_refl _)
  rw [this] at h2
  cases h2
 have hren : Ren f13 loc1 loc2 (lkOf gl (.cells true t [.lst l cd N zs] :: mem1)) (lkOf gl (.dead :: (mem1 ++ [B2]))) := f13_ren fun j hj hs => ⟨hne j (lkS j hj hs), by rw [lkI j (lkS j hj hs) hj]; exact hs⟩
 have hcase : ((loc1 13).real = true ∧ ∃ rest fz, w.heap[(loc1 13).blk]? = some (.cells (c1 ++ rest).toArray t fz) ∧ (∃ ys, Els fm1 cd ys rest) ∧ (loc1 13).room = (c1 ++ rest).length ∧ Free true (c1 ++ rest).length fz) ∨ ((loc1 13).real = false ∧ c1 = []) := by
  cases hreal : (loc1 13).real with
  | true =>
   rw [hreal] at k3
   obtain ⟨rest, fz, g1, g2, _⟩ := k3
   obtain ⟨g3, g4, g5⟩ := g2 rfl
   exact Or.inl ⟨rfl, rest, fz, g1, g3, g4, g5⟩
  | false =>
   rw [hreal] at k3
   exact Or.inr ⟨rfl, k3⟩
 have hsub := Els.sub zs 0 k c1 hEl
 rw [List.drop_zero, Nat.zero_mul, List.drop_zero] at hsub
 have hB2 : BlkOk loc2 fm1 (lkOf gl (.dead :: (mem1 ++ [B2]))) w M B2 := by
  refine ⟨c1.take (k * cd.w), ⟨_, [], (List.append_nil _).symm, ⟨hsub, by rw [List.length_take]; omega⟩, rfl⟩, by rw [hat]; exact ⟨rfl, rfl, rfl⟩, ?_⟩
  rw [hat]
  rcases hcase with ⟨hr, rest, fz, g1, ⟨ys, g3⟩, g4, g5⟩ | ⟨hr, hn⟩
  ·rw [show q2s.real = true from hr]
   have hsub2 := Els.sub zs k (zs.length - k) c1 hEl
   have hj : c1.take (k * cd.w) ++ (c1.drop (k * cd.w) ++ rest) = c1 ++ rest := by rw [← List.append_assoc, List.take_append_drop]
   refine ⟨c1.drop (k * cd.w) ++ rest, fz, by rw [hj]; exact g1, fun _ => ⟨⟨(zs.drop k).take (zs.length - k) ++ ys, Els.join _ _ _ _ ?_ g3⟩, by rw [hj]; exact g4, by rw [hj]; exact g5⟩, fun e => by cases e⟩
   rw [List.take_of_length_le (l := c1.drop (k * cd.w)) (by rw [List.length_drop, hl1, Nat.sub_mul]; omega)] at hsub2
   exact hsub2
  ·rw [show q2s.real = false from hr, hn]
   simp
 refine ⟨u, loc2, fm1, e1, ?_, ?_⟩
 ·refine ⟨a, c', ?_, ?_, q3, ?_, by rw [lkM]; rfl⟩
  ·rw [hat]; exact q1
  ·rw [hat]; exact q2
  ·rw [hat]
   rcases Nat.eq_zero_or_pos c' with h0 | h0
   ·exact Or.inl h0
   ·refine Or.inr ⟨?_, ?_, ?_⟩
    ·rw [q5 h0, hbase]
     simp [q2s, spotP]
    ·have := (q4 h0).2
     rw [hbase, Nat.zero_add, Nat.zero_add, k2.st] at this
     exact this
    ·exact (q4 h0).1
 ·have hlim : ∀ i, i < (baseOf gl mem loc fm W).lim → i ≠ M := fun i hi => by
   have : i < gl.length + mem.length := hi
   rw [gl13] at this
   omega
  refine ⟨fun i hi => ?_, ⟨fun i b hi => ?_, fun i b hi hmi hre => ?_, hL.heap.fm⟩, fun i b hi hmi hre => ?_, hL.frz, hL.fmo, hL.fr⟩
  ·obtain ⟨p1, p2⟩ := hL.fix i hi
   refine ⟨by rw [hne i (hlim i hi)]; exact p1, ?_⟩
   by_cases e : i = 13
   ·subst e; rfl
   ·rw [lkI i (hlim i hi) e]; exact p2
  ·by_cases e : i = 13
   ·subst e
    cases hi
    trivial
   ·by_cases e' : i = M
    ·subst e'
     rw [lkM] at hi
     cases hi
     exact hB2
    ·rw [lkI i e' e] at hi
     exact (BlkOk.ren hren (mem_blk hm1 e hi) (hne i e') (hL.heap.ok i b hi)).1
  ·by_cases e : i = 13
   ·subst e
    cases hi
    cases hmi
   ·by_cases e' : i = M
    ·subst e'
     rw [hat] at hre ⊢
     obtain ⟨p1, p2⟩ := hL.heap.alone 13 _ (lkOf_13 _ _) rfl hre
     refine ⟨p1, fun i' b2 hne' hi2 hl2 hr2 => ?_⟩
     by_cases f : i' = 13
     ·subst f
      cases hi2
      cases hl2
     ·rw [hne i' hne'] at hr2 ⊢
      exact p2 i' b2 f (by rw [← lkI i' hne' f]; exact hi2) hl2 hr2
    ·rw [lkI i e' e] at hi
     rw [hne i e'] at hre ⊢
     obtain ⟨p1, p2⟩ := hL.heap.alone i b hi hmi hre
     refine ⟨p1, fun i' b2 hne' hi2 hl2 hr2 => ?_⟩
     by_cases f : i' = 13
     ·subst f
      cases hi2
      cases hl2
     ·by_cases f' : i' = M
      ·subst f'
       rw [hat] at hr2 ⊢
       exact p2 13 _ (Ne.symm e) (lkOf_13 _ _) rfl hr2
      ·rw [hne i' f'] at hr2 ⊢
       exact p2 i' b2 hne' (by rw [← lkI i' f' f]; exact hi2) hl2 hr2
  ·by_cases e : i = 13
   ·subst e
    cases hi
    cases hmi
   ·by_cases e' : i = M
    ·subst e'
     rw [hat] at hre ⊢
     exact hL.new 13 _ (lkOf_13 _ _) rfl hre
    ·rw [lkI i e' e] at hi
     rw [hne i e'] at hre ⊢
     exact hL.new i b hi hmi hre
theorem rpA (x z : Rng) : Goes (callRun tc ((env cI).fn 20) Tryz.f225 1000 [.vec 13, .int true .i64 0, .int true .i64 1, .vec 14] [rB [x], rB [z]]) [] [] ⟨.slc true 13 0 0 1 none, [rB [z], rB [z]]⟩ := by
 unfold Goes
 kernel_rfl
theorem rpC (x y z : Rng) : Goes (callRun tc ((env cI).fn 20) Tryz.f225 1000 [.vec 13, .int true .i64 1, .int true .i64 2, .vec 14] [rB [x, y], rB [z]]) [] [] ⟨.slc true 13 0 0 2 none, [rB [x, z], rB [z]]⟩ := by
 unfold Goes
 kernel_rfl
theorem rpD (x y z : Rng) : Goes (callRun tc ((env cI).fn 20) Tryz.f225 1000 [.vec 13, .int true .i64 0, .int true .i64 2, .vec 14] [rB [x, y], rB [z]]) [] [] ⟨.slc true 13 0 0 1 none, [rB [z, ⟨0, 0⟩], rB [z]]⟩ := by
 unfold Goes
 kernel_rfl
theorem rpA_con (x z : Rng) : Con Tryz.prog gl 225 [.vec 13, .int true .i64 0, .int true .i64 1, .vec 14] [rB [x], rB [z]] ⟨.vec 15, [.dead, rB [z], rB [z]]⟩ :=
 con_to (con_shut (cd := .rng) (k := 1) (N := 1) (zs := ([z] : List Rng)) (mem := [rB [x], rB [z]]) (mem1 := [rB [z]]) (by decide) rfl (Nat.le_refl 2) (con_goes cI_ok Tryz.func225 1000 (rpA x z) trivial))
theorem rpC_con (x y z : Rng) : Con Tryz.prog gl 225 [.vec 13, .int true .i64 1, .int true .i64 2, .vec 14] [rB [x, y], rB [z]] ⟨.vec 15, [.dead, rB [z], rB [x, z]]⟩ :=
 con_to (con_shut (cd := .rng) (k := 2) (N := 2) (zs := ([x, z] : List Rng)) (mem := [rB [x, y], rB [z]]) (mem1 := [rB [z]]) (by decide) rfl (Nat.le_refl 2) (con_goes cI_ok Tryz.func225 1000 (rpC x y z) trivial))
theorem rpD_con (x y z : Rng) : Con Tryz.prog gl 225 [.vec 13, .int true .i64 0, .int true .i64 2, .vec 14] [rB [x, y], rB [z]] ⟨.vec 15, [.dead, rB [z], rB [z]]⟩ :=
 con_to (con_shut (cd := .rng) (k := 1) (N := 2) (zs := ([z, ⟨0, 0⟩] : List Rng)) (mem := [rB [x, y], rB [z]]) (mem1 := [rB [z]]) (by decide) rfl (Nat.le_refl 2) (con_goes cI_ok Tryz.func225 1000 (rpD x y z) trivial))
noncomputable def F225u : Spec := fun args mem => match args, mem with
 | [.vec i, .int true .i64 0, .int true .i64 1, .vec j], [.cells true 181 [.lst _ .rng 1 [_]], .cells true 181 [.lst _ .rng 1 [z]]] => gd (Nat.beq i 13 && Nat.beq j 14) (.leaf ⟨.vec 15, [.dead, rB [z], rB [z]]⟩)
 | [.vec i, .int true .i64 1, .int true .i64 2, .vec j], [.cells true 181 [.lst _ .rng 2 [x, _]], .cells true 181 [.lst _ .rng 1 [z]]] => gd (Nat.beq i 13 && Nat.beq j 14) (.leaf ⟨.vec 15, [.dead, rB [z], rB [x, z]]⟩)
 | [.vec i, .int true .i64 0, .int true .i64 2, .vec j], [.cells true 181 [.lst _ .rng 2 [_, _]], .cells true 181 [.lst _ .rng 1 [z]]] => gd (Nat.beq i 13 && Nat.beq j 14) (.leaf ⟨.vec 15, [.dead, rB [z], rB [z]]⟩)
 | args, mem => F225 args mem
theorem f225u_ok : FnOk Tryz.prog gl 225 F225u := by
 intro args mem r h
 unfold F225u at h
 split at h
 case h_4 => exact f225_ok _ _ _ h
 all_goals
  obtain ⟨h1, h⟩ := Tr.is_gd.1 h
  have h := Tr.is_leaf.1 h
  subst h
  rw [Bool.and_eq_true] at h1
  rw [Nat.eq_of_beq_eq_true h1.1, Nat.eq_of_beq_eq_true h1.2]
 ·exact con_to (rpA_con _ _)
 ·exact con_to (rpC_con _ _ _)
 ·exact con_to (rpD_con _ _ _)
end
section
noncomputable def ib0 : List Blk := [.cells true 140 [.one (.int true .i64 2048), .one (.int true .i64 0), .one (.val (.slice none 0 0)), .one (.ptr 14 0 0 true 0)], .cells true 238 [.one (.val (.slice none 0 0))]]
noncomputable abbrev kT : Cons := (225, F225u) :: kE
theorem cT : ConsOk kT := cons_ok f225u_ok (Or.inl (by decide)) cE
noncomputable def ibR (dn : Int) (bs : List Int) (rs : List Rng) : List Blk := [.cells true 140 [.one (.int true .i64 2048), .one (.int false .i64 dn), .one (.vec 14), .one (.ptr 15 0 0 true 0)], .cells true 5 [.row false false .u8 bs.length bs], .cells true 238 [.one (.vec 16)], .cells true 181 [.lst true .rng rs.length rs]]
def tk0_ps (a : Int) (ds : List Int) : List Prop := let v1 := (List.length ds); let v2 := (0 : Int); let v4 := (a + (↑v1 : Int) - v2); let v5 := (a + (↑v1 : Int) - a - v2); let v6 := ((4611686018427387904 : Int) < a + (↑v1 : Int)); let v7 := (a + (↑v1 : Int) - v2 - v2); let v3 := (List.replicate (Int.toNat v7) v2); let v8 := (a ≥ a + (↑v1 : Int)); let v9 := (v2 > a); [decide (a < v2) = false, decide (a ≥ (2048 : Int)) = false, decide v9 = false, IntKind.wrap IntKind.i64 (a + (↑v1 : Int)) = a + (↑v1 : Int), decide ((2048 : Int) < a + (↑v1 : Int)) = false, decide (a < a + (↑v1 : Int)) = true, decide v9 = false, decide v6 = false, decide v9 = false, decide v8 = false, IntKind.wrap IntKind.i64 v4 = a + (↑v1 : Int) - v2, decide (a + (↑v1 : Int) - v2 > v2) = true, IntKind.wrap IntKind.i64 v7 = a + (↑v1 : Int) - v2 - v2, v2 ≤ a + (↑v1 : Int) - v2 - v2 ∧ v7 * (1 : Int) ≤ (281474976710656 : Int), List.length v3 * (1 : Nat) ≤ (140737488355328 : Nat) ∧ List.length v3 < (9223372036854775808 : Nat), IntKind.wrap IntKind.i64 (a - v2) = a - v2, IntKind.wrap IntKind.i64 v4 = a + (↑v1 : Int) - v2, v2 ≤ (a - v2) ∧ (a - v2) ≤ v4 ∧ v4 ≤ v4 ∧ v4 ≤ (↑(List.length v3) : Int), IntKind.wrap IntKind.i64 (a - a) = a - a, v2 ≤ (a - a) ∧ (a - a) ≤ (↑v1 : Int) ∧ (↑v1 : Int) ≤ (↑v1 : Int) ∧ (↑v1 : Int) ≤ (↑v1 : Int), decide v9 = false, decide v6 = false, decide v8 = false, IntKind.wrap IntKind.i64 (a + (↑v1 : Int) - a) = a + (↑v1 : Int) - a, IntKind.wrap IntKind.i64 v5 = a + (↑v1 : Int) - a - v2, IntKind.wrap IntKind.i64 (v2 + v5) = v2 + v5, decide (a + (↑v1 : Int) < a + (↑v1 : Int)) = false]
noncomputable def tk0_r (a : Int) (ds : List Int) : Res := let v2 := (subS false (Int.toNat (a - a)) (0 : Nat) true ds); let v4 := (lenSq (Sq.ints false false IntKind.u8 v2)); let v5 := (0 : Int); let v6 := (List.length ds); let v1 := (List.replicate (Int.toNat (a + (↑v6 : Int) - v5 - v5)) v5); let v3 := (Int.toNat (a + (↑v6 : Int) - v5) - Int.toNat (a - v5)); .mk (.int false .i64 (v5 + (a + (↑v6 : Int) - a - v5))) [(.cells true 140 [(.one (.int true .i64 2048)), (.one (.int true .i64 0)), (.one (.vec 15)), (.one (.ptr 14 0 0 true 0))]), (.cells true 238 [.one (.vec 16)]), (.cells true 5 [.row false false .u8 (List.length v1) (List.take (Int.toNat (a - v5)) v1 ++ List.take (min v4 v3) v2 ++ List.drop (Int.toNat (a - v5) + min v4 v3) v1)]), (.cells true 181 [.lst true .rng 1 [.mk (a) (a + (↑v6 : Int))]])]
theorem tk0 (a : Int) (ds : List Int) : Goes (callRun tc ((env kT).fn 20) Tryz.f125 1000 [A.ptr 13 0 0 true 0, A.int false IntKind.i64 a, A.fzi false IntKind.u8 ds] ib0) [.f, .f, .f, .f, .t, .f, .f, .f, .f, .t, .f, .f, .f, .f] (tk0_ps a ds) (tk0_r a ds) := by
 unfold Goes
 kernel_rfl
def tk1L_ps (dn : Int) (a : Int) (f : Int) (t : Int) (bs : List Int) (ds : List Int) : List Prop := let v1 := (List.length ds); let v2 := (Rng.b { a := f, b := t } - Rng.a { a := f, b := t }); let v3 := (a + (↑v1 : Int) - dn); let v5 := (0 : Int); let v4 := (Rng.b { a := f, b := t } - a - (v5 + v2)); let v6 := (2048 : Int); let v7 := ((4611686018427387904 : Int) < a + (↑v1 : Int)); let v8 := (Rng.a { a := f, b := t } > a); let v9 := (a ≥ a + (↑v1 : Int)); let v10 := (List.length bs); [decide (a < v5) = false, IntKind.wrap IntKind.i64 (dn + v6) = dn + v6, decide (a ≥ dn + v6) = false, decide (dn > a) = false, IntKind.wrap IntKind.i64 (a + (↑v1 : Int)) = a + (↑v1 : Int), IntKind.wrap IntKind.i64 (dn + v6) = dn + v6, decide (dn + v6 < a + (↑v1 : Int)) = false, decide (a < a + (↑v1 : Int)) = true, decide (v5 > a) = false, decide v7 = false, decide (v5 > a) = false, decide (Rng.b { a := f, b := t } > a) = true, decide v8 = true, decide v9 = false, decide v8 = true, decide (Rng.a { a := f, b := t } < a + (↑v1 : Int)) = false, IntKind.wrap IntKind.i64 v3 = a + (↑v1 : Int) - dn, decide (a + (↑v1 : Int) - dn > (↑v10 : Int)) = false, IntKind.wrap IntKind.i64 (a - dn) = a - dn, IntKind.wrap IntKind.i64 v3 = a + (↑v1 : Int) - dn, v5 ≤ (a - dn) ∧ (a - dn) ≤ v3 ∧ v3 ≤ v3 ∧ v3 ≤ (↑v10 : Int), IntKind.wrap IntKind.i64 (a - a) = a - a, v5 ≤ (a - a) ∧ (a - a) ≤ (↑v1 : Int) ∧ (↑v1 : Int) ≤ (↑v1 : Int) ∧ (↑v1 : Int) ≤ (↑v1 : Int), decide (v5 > a) = false, decide v7 = false, decide v9 = false, decide (Rng.b { a := f, b := t } ≥ a) = true, decide (Rng.a { a := f, b := t } > a + (↑v1 : Int)) = false, IntKind.wrap IntKind.i64 v2 = Rng.b { a := f, b := t } - Rng.a { a := f, b := t }, IntKind.wrap IntKind.i64 (v5 + v2) = v5 + v2, decide (Rng.a { a := f, b := t } < a) = false, decide (Rng.b { a := f, b := t } > a + (↑v1 : Int)) = true, IntKind.wrap IntKind.i64 (Rng.b { a := f, b := t } - a) = Rng.b { a := f, b := t } - a, IntKind.wrap IntKind.i64 v4 = Rng.b { a := f, b := t } - a - (v5 + v2), IntKind.wrap IntKind.i64 (v5 + v4) = v5 + v4, decide (a + (↑v1 : Int) < a + (↑v1 : Int)) = false]
noncomputable def tk1L_r (dn : Int) (a : Int) (f : Int) (t : Int) (bs : List Int) (ds : List Int) : Res := let v1 := (subS false (Int.toNat (a - a)) (0 : Nat) true ds); let v2 := (Int.toNat (a + (↑(List.length ds) : Int) - dn) - Int.toNat (a - dn)); let v3 := (lenSq (Sq.ints false false IntKind.u8 v1)); .mk (.int false .i64 ((0 : Int) + (Rng.b { a := f, b := t } - a - ((0 : Int) + (Rng.b { a := f, b := t } - Rng.a { a := f, b := t }))))) [(.cells true 140 [(.one (.int true .i64 2048)), (.one (.int false .i64 (dn))), (.one (.vec 14)), (.one (.ptr 15 0 0 true 0))]), (.cells true 5 [.row false false .u8 (List.length bs) (List.take (Int.toNat (a - dn)) bs ++ List.take (min v3 v2) v1 ++ List.drop (Int.toNat (a - dn) + min v3 v2) bs)]), (.cells true 238 [.one (.vec 17)]), .dead, (.cells true 181 [.lst true .rng 1 [.mk (a) (Rng.b { a := f, b := t })]])]
theorem tk1L (dn : Int) (a : Int) (f : Int) (t : Int) (bs : List Int) (ds : List Int) : Goes (callRun tc ((env kT).fn 20) Tryz.f125 1000 [A.ptr 13 0 0 true 0, A.int false IntKind.i64 a, A.fzi false IntKind.u8 ds] (ibR dn bs [{ a := f, b := t }])) [.f, .f, .f, .f, .t, .f, .f, .f, .a, .t, .a, .t, .f, .a, .t, .a, .f, .f, .f, .f, .f, .a, .t, .a, .f, .a, .a, .f, .a, .t, .f] (tk1L_ps dn a f t bs ds) (tk1L_r dn a f t bs ds) := by
 unfold Goes
 kernel_rfl
def tk1l_ps (dn : Int) (a : Int) (f : Int) (t : Int) (bs : List Int) (ds : List Int) : List Prop := let v1 := (List.length ds); let v2 := (a + (↑v1 : Int) - dn); let v3 := (0 : Int); let v4 := (a + (↑v1 : Int) - a - v3); let v5 := (2048 : Int); let v6 := ((4611686018427387904 : Int) < a + (↑v1 : Int)); let v7 := (Rng.a { a := f, b := t } > a); let v8 := (a ≥ a + (↑v1 : Int)); let v9 := (List.length bs); [decide (a < v3) = false, IntKind.wrap IntKind.i64 (dn + v5) = dn + v5, decide (a ≥ dn + v5) = false, decide (dn > a) = false, IntKind.wrap IntKind.i64 (a + (↑v1 : Int)) = a + (↑v1 : Int), IntKind.wrap IntKind.i64 (dn + v5) = dn + v5, decide (dn + v5 < a + (↑v1 : Int)) = false, decide (a < a + (↑v1 : Int)) = true, decide (v3 > a) = false, decide v6 = false, decide (v3 > a) = false, decide (Rng.b { a := f, b := t } > a) = true, decide v7 = true, decide v8 = false, decide v7 = true, decide (Rng.a { a := f, b := t } < a + (↑v1 : Int)) = false, IntKind.wrap IntKind.i64 v2 = a + (↑v1 : Int) - dn, decide (a + (↑v1 : Int) - dn > (↑v9 : Int)) = false, IntKind.wrap IntKind.i64 (a - dn) = a - dn, IntKind.wrap IntKind.i64 v2 = a + (↑v1 : Int) - dn, v3 ≤ (a - dn) ∧ (a - dn) ≤ v2 ∧ v2 ≤ v2 ∧ v2 ≤ (↑v9 : Int), IntKind.wrap IntKind.i64 (a - a) = a - a, v3 ≤ (a - a) ∧ (a - a) ≤ (↑v1 : Int) ∧ (↑v1 : Int) ≤ (↑v1 : Int) ∧ (↑v1 : Int) ≤ (↑v1 : Int), decide (v3 > a) = false, decide v6 = false, decide v8 = false, decide (Rng.b { a := f, b := t } ≥ a) = true, decide (Rng.a { a := f, b := t } > a + (↑v1 : Int)) = true, IntKind.wrap IntKind.i64 (a + (↑v1 : Int) - a) = a + (↑v1 : Int) - a, IntKind.wrap IntKind.i64 v4 = a + (↑v1 : Int) - a - v3, IntKind.wrap IntKind.i64 (v3 + v4) = v3 + v4, decide (a + (↑v1 : Int) < a + (↑v1 : Int)) = false]
noncomputable def tk1l_r (dn : Int) (a : Int) (f : Int) (t : Int) (bs : List Int) (ds : List Int) : Res := let v1 := (subS false (Int.toNat (a - a)) (0 : Nat) true ds); let v3 := (lenSq (Sq.ints false false IntKind.u8 v1)); let v4 := (List.length ds); let v2 := (Int.toNat (a + (↑v4 : Int) - dn) - Int.toNat (a - dn)); .mk (.int false .i64 ((0 : Int) + (a + (↑v4 : Int) - a - (0 : Int)))) [(.cells true 140 [(.one (.int true .i64 2048)), (.one (.int false .i64 (dn))), (.one (.vec 14)), (.one (.ptr 15 0 0 true 0))]), (.cells true 5 [.row false false .u8 (List.length bs) (List.take (Int.toNat (a - dn)) bs ++ List.take (min v3 v2) v1 ++ List.drop (Int.toNat (a - dn) + min v3 v2) bs)]), (.cells true 238 [.one (.vec 17)]), .dead, (.cells true 181 [.lst true .rng 2 [(.mk (a) (a + (↑v4 : Int))), (.mk (f) (t))]])]
theorem tk1l (dn : Int) (a : Int) (f : Int) (t : Int) (bs : List Int) (ds : List Int) : Goes (callRun tc ((env kT).fn 20) Tryz.f125 1000 [A.ptr 13 0 0 true 0, A.int false IntKind.i64 a, A.fzi false IntKind.u8 ds] (ibR dn bs [{ a := f, b := t }])) [.f, .f, .f, .f, .t, .f, .f, .f, .a, .t, .a, .t, .f, .a, .t, .a, .f, .f, .f, .f, .f, .a, .t, .a, .t, .f] (tk1l_ps dn a f t bs ds) (tk1l_r dn a f t bs ds) := by
 unfold Goes
 kernel_rfl
def tk1R_ps (dn : Int) (a : Int) (f : Int) (t : Int) (bs : List Int) (ds : List Int) : List Prop := let v1 := (List.length ds); let v2 := (Rng.b { a := f, b := t } - Rng.a { a := f, b := t }); let v5 := (a + (↑v1 : Int) - dn); let v7 := (0 : Int); let v4 := (a + (↑v1 : Int) - Rng.a { a := f, b := t } - (v7 + v2)); let v8 := (2048 : Int); let v9 := ((4611686018427387904 : Int) < a + (↑v1 : Int)); let v10 := (List.length bs); let v3 := (a + (↑v1 : Int) - dn - (↑v10 : Int)); let v6 := (bs ++ List.replicate (Int.toNat v3) v7); let v11 := (a ≥ a + (↑v1 : Int)); [decide (a < v7) = false, IntKind.wrap IntKind.i64 (dn + v8) = dn + v8, decide (a ≥ dn + v8) = false, decide (dn > a) = false, IntKind.wrap IntKind.i64 (a + (↑v1 : Int)) = a + (↑v1 : Int), IntKind.wrap IntKind.i64 (dn + v8) = dn + v8, decide (dn + v8 < a + (↑v1 : Int)) = false, decide (a < a + (↑v1 : Int)) = true, decide (v7 > a) = false, decide v9 = false, decide (v7 > a) = false, decide (Rng.b { a := f, b := t } > a) = false, decide v11 = false, decide (Rng.a { a := f, b := t } > a) = false, IntKind.wrap IntKind.i64 v5 = a + (↑v1 : Int) - dn, decide (a + (↑v1 : Int) - dn > (↑v10 : Int)) = true, IntKind.wrap IntKind.i64 v3 = a + (↑v1 : Int) - dn - (↑v10 : Int), v7 ≤ a + (↑v1 : Int) - dn - (↑v10 : Int) ∧ v3 * (1 : Int) ≤ (281474976710656 : Int), List.length v6 * (1 : Nat) ≤ (140737488355328 : Nat) ∧ List.length v6 < (9223372036854775808 : Nat), IntKind.wrap IntKind.i64 (a - dn) = a - dn, IntKind.wrap IntKind.i64 v5 = a + (↑v1 : Int) - dn, v7 ≤ (a - dn) ∧ (a - dn) ≤ v5 ∧ v5 ≤ v5 ∧ v5 ≤ (↑(List.length v6) : Int), IntKind.wrap IntKind.i64 (a - a) = a - a, v7 ≤ (a - a) ∧ (a - a) ≤ (↑v1 : Int) ∧ (↑v1 : Int) ≤ (↑v1 : Int) ∧ (↑v1 : Int) ≤ (↑v1 : Int), decide (v7 > a) = false, decide v9 = false, decide v11 = false, decide (Rng.b { a := f, b := t } ≥ a) = true, decide (Rng.a { a := f, b := t } > a + (↑v1 : Int)) = false, IntKind.wrap IntKind.i64 v2 = Rng.b { a := f, b := t } - Rng.a { a := f, b := t }, IntKind.wrap IntKind.i64 (v7 + v2) = v7 + v2, decide (Rng.a { a := f, b := t } < a) = true, decide (Rng.b { a := f, b := t } > a + (↑v1 : Int)) = false, IntKind.wrap IntKind.i64 (a + (↑v1 : Int) - Rng.a { a := f, b := t }) = a + (↑v1 : Int) - Rng.a { a := f, b := t }, IntKind.wrap IntKind.i64 v4 = a + (↑v1 : Int) - Rng.a { a := f, b := t } - (v7 + v2), IntKind.wrap IntKind.i64 (v7 + v4) = v7 + v4, decide (a + (↑v1 : Int) < a + (↑v1 : Int)) = false]
noncomputable def tk1R_r (dn : Int) (a : Int) (f : Int) (t : Int) (bs : List Int) (ds : List Int) : Res := let v2 := (subS false (Int.toNat (a - a)) (0 : Nat) true ds); let v4 := (lenSq (Sq.ints false false IntKind.u8 v2)); let v5 := (List.length ds); let v1 := (bs ++ List.replicate (Int.toNat (a + (↑v5 : Int) - dn - (↑(List.length bs) : Int))) (0 : Int)); let v3 := (Int.toNat (a + (↑v5 : Int) - dn) - Int.toNat (a - dn)); .mk (.int false .i64 ((0 : Int) + (a + (↑v5 : Int) - Rng.a { a := f, b := t } - ((0 : Int) + (Rng.b { a := f, b := t } - Rng.a { a := f, b := t }))))) [(.cells true 140 [(.one (.int true .i64 2048)), (.one (.int false .i64 (dn))), (.one (.vec 17)), (.one (.ptr 15 0 0 true 0))]), .dead, (.cells true 238 [.one (.vec 18)]), .dead, (.cells true 5 [.row false false .u8 (List.length v1) (List.take (Int.toNat (a - dn)) v1 ++ List.take (min v4 v3) v2 ++ List.drop (Int.toNat (a - dn) + min v4 v3) v1)]), (.cells true 181 [.lst true .rng 1 [.mk (Rng.a { a := f, b := t }) (a + (↑v5 : Int))]])]
theorem tk1R (dn : Int) (a : Int) (f : Int) (t : Int) (bs : List Int) (ds : List Int) : Goes (callRun tc ((env kT).fn 20) Tryz.f125 1000 [A.ptr 13 0 0 true 0, A.int false IntKind.i64 a, A.fzi false IntKind.u8 ds] (ibR dn bs [{ a := f, b := t }])) [.f, .f, .f, .f, .t, .f, .f, .f, .a, .f, .f, .a, .f, .t, .f, .f, .f, .a, .t, .a, .f, .a, .a, .t, .a, .f, .f] (tk1R_ps dn a f t bs ds) (tk1R_r dn a f t bs ds) := by
 unfold Goes
 kernel_rfl
def tk1r_ps (dn : Int) (a : Int) (f : Int) (t : Int) (bs : List Int) (ds : List Int) : List Prop := let v1 := (List.length ds); let v3 := (a + (↑v1 : Int) - dn); let v4 := (0 : Int); let v6 := (a + (↑v1 : Int) - a - v4); let v7 := (2048 : Int); let v8 := ((4611686018427387904 : Int) < a + (↑v1 : Int)); let v9 := (List.length bs); let v2 := (a + (↑v1 : Int) - dn - (↑v9 : Int)); let v5 := (bs ++ List.replicate (Int.toNat v2) v4); let v10 := (a ≥ a + (↑v1 : Int)); [decide (a < v4) = false, IntKind.wrap IntKind.i64 (dn + v7) = dn + v7, decide (a ≥ dn + v7) = false, decide (dn > a) = false, IntKind.wrap IntKind.i64 (a + (↑v1 : Int)) = a + (↑v1 : Int), IntKind.wrap IntKind.i64 (dn + v7) = dn + v7, decide (dn + v7 < a + (↑v1 : Int)) = false, decide (a < a + (↑v1 : Int)) = true, decide (v4 > a) = false, decide v8 = false, decide (v4 > a) = false, decide (Rng.b { a := f, b := t } > a) = false, decide v10 = false, decide (Rng.a { a := f, b := t } > a) = false, IntKind.wrap IntKind.i64 v3 = a + (↑v1 : Int) - dn, decide (a + (↑v1 : Int) - dn > (↑v9 : Int)) = true, IntKind.wrap IntKind.i64 v2 = a + (↑v1 : Int) - dn - (↑v9 : Int), v4 ≤ a + (↑v1 : Int) - dn - (↑v9 : Int) ∧ v2 * (1 : Int) ≤ (281474976710656 : Int), List.length v5 * (1 : Nat) ≤ (140737488355328 : Nat) ∧ List.length v5 < (9223372036854775808 : Nat), IntKind.wrap IntKind.i64 (a - dn) = a - dn, IntKind.wrap IntKind.i64 v3 = a + (↑v1 : Int) - dn, v4 ≤ (a - dn) ∧ (a - dn) ≤ v3 ∧ v3 ≤ v3 ∧ v3 ≤ (↑(List.length v5) : Int), IntKind.wrap IntKind.i64 (a - a) = a - a, v4 ≤ (a - a) ∧ (a - a) ≤ (↑v1 : Int) ∧ (↑v1 : Int) ≤ (↑v1 : Int) ∧ (↑v1 : Int) ≤ (↑v1 : Int), decide (v4 > a) = false, decide v8 = false, decide v10 = false, decide (Rng.b { a := f, b := t } ≥ a) = false, decide (Rng.a { a := f, b := t } > a + (↑v1 : Int)) = false, IntKind.wrap IntKind.i64 (a + (↑v1 : Int) - a) = a + (↑v1 : Int) - a, IntKind.wrap IntKind.i64 v6 = a + (↑v1 : Int) - a - v4, IntKind.wrap IntKind.i64 (v4 + v6) = v4 + v6, decide (a + (↑v1 : Int) < a + (↑v1 : Int)) = false]
noncomputable def tk1r_r (dn : Int) (a : Int) (f : Int) (t : Int) (bs : List Int) (ds : List Int) : Res := let v2 := (subS false (Int.toNat (a - a)) (0 : Nat) true ds); let v4 := (lenSq (Sq.ints false false IntKind.u8 v2)); let v5 := (List.length ds); let v1 := (bs ++ List.replicate (Int.toNat (a + (↑v5 : Int) - dn - (↑(List.length bs) : Int))) (0 : Int)); let v3 := (Int.toNat (a + (↑v5 : Int) - dn) - Int.toNat (a - dn)); .mk (.int false .i64 ((0 : Int) + (a + (↑v5 : Int) - a - (0 : Int)))) [(.cells true 140 [(.one (.int true .i64 2048)), (.one (.int false .i64 (dn))), (.one (.vec 17)), (.one (.ptr 15 0 0 true 0))]), .dead, (.cells true 238 [.one (.vec 18)]), .dead, (.cells true 5 [.row false false .u8 (List.length v1) (List.take (Int.toNat (a - dn)) v1 ++ List.take (min v4 v3) v2 ++ List.drop (Int.toNat (a - dn) + min v4 v3) v1)]), (.cells true 181 [.lst true .rng 2 [(.mk (f) (t)), (.mk (a) (a + (↑v5 : Int)))]])]
theorem tk1r (dn : Int) (a : Int) (f : Int) (t : Int) (bs : List Int) (ds : List Int) : Goes (callRun tc ((env kT).fn 20) Tryz.f125 1000 [A.ptr 13 0 0 true 0, A.int false IntKind.i64 a, A.fzi false IntKind.u8 ds] (ibR dn bs [{ a := f, b := t }])) [.f, .f, .f, .f, .t, .f, .f, .f, .a, .f, .f, .a, .f, .t, .f, .f, .f, .a, .f, .a, .f, .f] (tk1r_ps dn a f t bs ds) (tk1r_r dn a f t bs ds) := by
 unfold Goes
 kernel_rfl
def tk2L_ps (dn : Int) (a : Int) (f : Int) (t : Int) (f2 : Int) (t2 : Int) (bs : List Int) (ds : List Int) : List Prop := let v1 := (List.length ds); let v2 := (Rng.b { a := f, b := t } - Rng.a { a := f, b := t }); let v3 := (a + (↑v1 : Int) - dn); let v5 := (0 : Int); let v4 := (Rng.b { a := f, b := t } - a - (v5 + v2)); let v6 := (2048 : Int); let v7 := ((4611686018427387904 : Int) < a + (↑v1 : Int)); let v8 := (Rng.a { a := f, b := t } > a); let v9 := (a ≥ a + (↑v1 : Int)); let v10 := (List.length bs); [decide (a < v5) = false, IntKind.wrap IntKind.i64 (dn + v6) = dn + v6, decide (a ≥ dn + v6) = false, decide (dn > a) = false, IntKind.wrap IntKind.i64 (a + (↑v1 : Int)) = a + (↑v1 : Int), IntKind.wrap IntKind.i64 (dn + v6) = dn + v6, decide (dn + v6 < a + (↑v1 : Int)) = false, decide (a < a + (↑v1 : Int)) = true, decide (v5 > a) = false, decide v7 = false, decide (v5 > a) = false, decide (Rng.b { a := f2, b := t2 } > a) = true, decide (Rng.b { a := f, b := t } > a) = true, decide v8 = true, decide v9 = false, decide (Rng.a { a := f2, b := t2 } > a) = true, decide v8 = true, decide (Rng.a { a := f, b := t } < a + (↑v1 : Int)) = false, IntKind.wrap IntKind.i64 v3 = a + (↑v1 : Int) - dn, decide (a + (↑v1 : Int) - dn > (↑v10 : Int)) = false, IntKind.wrap IntKind.i64 (a - dn) = a - dn, IntKind.wrap IntKind.i64 v3 = a + (↑v1 : Int) - dn, v5 ≤ (a - dn) ∧ (a - dn) ≤ v3 ∧ v3 ≤ v3 ∧ v3 ≤ (↑v10 : Int), IntKind.wrap IntKind.i64 (a - a) = a - a, v5 ≤ (a - a) ∧ (a - a) ≤ (↑v1 : Int) ∧ (↑v1 : Int) ≤ (↑v1 : Int) ∧ (↑v1 : Int) ≤ (↑v1 : Int), decide (v5 > a) = false, decide v7 = false, decide v9 = false, decide (Rng.b { a := f2, b := t2 } ≥ a) = true, decide (Rng.b { a := f, b := t } ≥ a) = true, decide (Rng.a { a := f2, b := t2 } > a + (↑v1 : Int)) = true, decide (Rng.a { a := f, b := t } > a + (↑v1 : Int)) = false, IntKind.wrap IntKind.i64 v2 = Rng.b { a := f, b := t } - Rng.a { a := f, b := t }, IntKind.wrap IntKind.i64 (v5 + v2) = v5 + v2, decide (Rng.a { a := f, b := t } < a) = false, decide (Rng.b { a := f, b := t } > a + (↑v1 : Int)) = true, IntKind.wrap IntKind.i64 (Rng.b { a := f, b := t } - a) = Rng.b { a := f, b := t } - a, IntKind.wrap IntKind.i64 v4 = Rng.b { a := f, b := t } - a - (v5 + v2), IntKind.wrap IntKind.i64 (v5 + v4) = v5 + v4, decide (a + (↑v1 : Int) < a + (↑v1 : Int)) = false]
noncomputable def tk2L_r (dn : Int) (a : Int) (f : Int) (t : Int) (f2 : Int) (t2 : Int) (bs : List Int) (ds : List Int) : Res := let v1 := (subS false (Int.toNat (a - a)) (0 : Nat) true ds); let v2 := (Int.toNat (a + (↑(List.length ds) : Int) - dn) - Int.toNat (a - dn)); let v3 := (lenSq (Sq.ints false false IntKind.u8 v1)); .mk (.int false .i64 ((0 : Int) + (Rng.b { a := f, b := t } - a - ((0 : Int) + (Rng.b { a := f, b := t } - Rng.a { a := f, b := t }))))) [(.cells true 140 [(.one (.int true .i64 2048)), (.one (.int false .i64 (dn))), (.one (.vec 14)), (.one (.ptr 15 0 0 true 0))]), (.cells true 5 [.row false false .u8 (List.length bs) (List.take (Int.toNat (a - dn)) bs ++ List.take (min v3 v2) v1 ++ List.drop (Int.toNat (a - dn) + min v3 v2) bs)]), (.cells true 238 [.one (.vec 17)]), .dead, (.cells true 181 [.lst true .rng 2 [(.mk (a) (Rng.b { a := f, b := t })), (.mk (f2) (t2))]])]
theorem tk2L (dn : Int) (a : Int) (f : Int) (t : Int) (f2 : Int) (t2 : Int) (bs : List Int) (ds : List Int) : Goes (callRun tc ((env kT).fn 20) Tryz.f125 1000 [A.ptr 13 0 0 true 0, A.int false IntKind.i64 a, A.fzi false IntKind.u8 ds] (ibR dn bs [{ a := f, b := t }, { a := f2, b := t2 }])) [.f, .f, .f, .f, .t, .f, .f, .f, .a, .t, .a, .t, .a, .t, .f, .a, .t, .a, .t, .a, .f, .f, .f, .f, .f, .a, .t, .a, .t, .a, .t, .a, .f, .a, .a, .f, .a, .t, .f] (tk2L_ps dn a f t f2 t2 bs ds) (tk2L_r dn a f t f2 t2 bs ds) := by
 unfold Goes
 kernel_rfl
def tk2m_ps (dn : Int) (a : Int) (f : Int) (t : Int) (f2 : Int) (t2 : Int) (bs : List Int) (ds : List Int) : List Prop := let v2 := (List.length ds); let v3 := (Rng.b { a := f, b := t } - Rng.a { a := f, b := t }); let v5 := (a + (↑v2 : Int) - dn); let v6 := (0 : Int); let v7 := (Rng.b { a := f2, b := t2 } - Rng.a { a := f2, b := t2 }); let v1 := (v6 + v3 + v7); let v4 := (Rng.b { a := f2, b := t2 } - Rng.a { a := f, b := t } - v1); let v8 := (2048 : Int); let v9 := ((4611686018427387904 : Int) < a + (↑v2 : Int)); let v10 := (Rng.a { a := f2, b := t2 } > a); let v11 := (a ≥ a + (↑v2 : Int)); let v12 := (List.length bs); [decide (a < v6) = false, IntKind.wrap IntKind.i64 (dn + v8) = dn + v8, decide (a ≥ dn + v8) = false, decide (dn > a) = false, IntKind.wrap IntKind.i64 (a + (↑v2 : Int)) = a + (↑v2 : Int), IntKind.wrap IntKind.i64 (dn + v8) = dn + v8, decide (dn + v8 < a + (↑v2 : Int)) = false, decide (a < a + (↑v2 : Int)) = true, decide (v6 > a) = false, decide v9 = false, decide (v6 > a) = false, decide (Rng.b { a := f2, b := t2 } > a) = true, decide (Rng.b { a := f, b := t } > a) = false, decide v10 = true, decide v11 = false, decide v10 = true, decide (Rng.a { a := f, b := t } > a) = false, decide (Rng.a { a := f2, b := t2 } < a + (↑v2 : Int)) = false, IntKind.wrap IntKind.i64 v5 = a + (↑v2 : Int) - dn, decide (a + (↑v2 : Int) - dn > (↑v12 : Int)) = false, IntKind.wrap IntKind.i64 (a - dn) = a - dn, IntKind.wrap IntKind.i64 v5 = a + (↑v2 : Int) - dn, v6 ≤ (a - dn) ∧ (a - dn) ≤ v5 ∧ v5 ≤ v5 ∧ v5 ≤ (↑v12 : Int), IntKind.wrap IntKind.i64 (a - a) = a - a, v6 ≤ (a - a) ∧ (a - a) ≤ (↑v2 : Int) ∧ (↑v2 : Int) ≤ (↑v2 : Int) ∧ (↑v2 : Int) ≤ (↑v2 : Int), decide (v6 > a) = false, decide v9 = false, decide v11 = false, decide (Rng.b { a := f2, b := t2 } ≥ a) = true, decide (Rng.b { a := f, b := t } ≥ a) = true, decide (Rng.a { a := f2, b := t2 } > a + (↑v2 : Int)) = false, IntKind.wrap IntKind.i64 v3 = Rng.b { a := f, b := t } - Rng.a { a := f, b := t }, IntKind.wrap IntKind.i64 (v6 + v3) = v6 + v3, IntKind.wrap IntKind.i64 v7 = Rng.b { a := f2, b := t2 } - Rng.a { a := f2, b := t2 }, IntKind.wrap IntKind.i64 v1 = v6 + v3 + v7, decide (Rng.a { a := f, b := t } < a) = true, decide (Rng.b { a := f2, b := t2 } > a + (↑v2 : Int)) = true, IntKind.wrap IntKind.i64 (Rng.b { a := f2, b := t2 } - Rng.a { a := f, b := t }) = Rng.b { a := f2, b := t2 } - Rng.a { a := f, b := t }, IntKind.wrap IntKind.i64 v4 = Rng.b { a := f2, b := t2 } - Rng.a { a := f, b := t } - v1, IntKind.wrap IntKind.i64 (v6 + v4) = v6 + v4, decide (a + (↑v2 : Int) < a + (↑v2 : Int)) = false]
noncomputable def tk2m_r (dn : Int) (a : Int) (f : Int) (t : Int) (f2 : Int) (t2 : Int) (bs : List Int) (ds : List Int) : Res := let v1 := (subS false (Int.toNat (a - a)) (0 : Nat) true ds); let v2 := (Int.toNat (a + (↑(List.length ds) : Int) - dn) - Int.toNat (a - dn)); let v3 := (lenSq (Sq.ints false false IntKind.u8 v1)); .mk (.int false .i64 ((0 : Int) + (Rng.b { a := f2, b := t2 } - Rng.a { a := f, b := t } - ((0 : Int) + (Rng.b { a := f, b := t } - Rng.a { a := f, b := t }) + (Rng.b { a := f2, b := t2 } - Rng.a { a := f2, b := t2 }))))) [(.cells true 140 [(.one (.int true .i64 2048)), (.one (.int false .i64 (dn))), (.one (.vec 14)), (.one (.ptr 15 0 0 true 0))]), (.cells true 5 [.row false false .u8 (List.length bs) (List.take (Int.toNat (a - dn)) bs ++ List.take (min v3 v2) v1 ++ List.drop (Int.toNat (a - dn) + min v3 v2) bs)]), (.cells true 238 [.one (.vec 17)]), .dead, (.cells true 181 [.lst true .rng 1 [.mk (Rng.a { a := f, b := t }) (Rng.b { a := f2, b := t2 })]])]
theorem tk2m (dn : Int) (a : Int) (f : Int) (t : Int) (f2 : Int) (t2 : Int) (bs : List Int) (ds : List Int) : Goes (callRun tc ((env kT).fn 20) Tryz.f125 1000 [A.ptr 13 0 0 true 0, A.int false IntKind.i64 a, A.fzi false IntKind.u8 ds] (ibR dn bs [{ a := f, b := t }, { a := f2, b := t2 }])) [.f, .f, .f, .f, .t, .f, .f, .f, .a, .t, .a, .f, .a, .t, .f, .a, .t, .a, .f, .a, .f, .f, .f, .f, .f, .a, .t, .a, .t, .a, .f, .a, .a, .a, .t, .a, .t, .f] (tk2m_ps dn a f t f2 t2 bs ds) (tk2m_r dn a f t f2 t2 bs ds) := by
 unfold Goes
 kernel_rfl
def tk2R_ps (dn : Int) (a : Int) (f : Int) (t : Int) (f2 : Int) (t2 : Int) (bs : List Int) (ds : List Int) : List Prop := let v1 := (List.length ds); let v2 := (Rng.b { a := f2, b := t2 } - Rng.a { a := f2, b := t2 }); let v5 := (a + (↑v1 : Int) - dn); let v7 := (0 : Int); let v4 := (a + (↑v1 : Int) - Rng.a { a := f2, b := t2 } - (v7 + v2)); let v8 := (2048 : Int); let v9 := ((4611686018427387904 : Int) < a + (↑v1 : Int)); let v10 := (List.length bs); let v3 := (a + (↑v1 : Int) - dn - (↑v10 : Int)); let v6 := (bs ++ List.replicate (Int.toNat v3) v7); let v11 := (a ≥ a + (↑v1 : Int)); [decide (a < v7) = false, IntKind.wrap IntKind.i64 (dn + v8) = dn + v8, decide (a ≥ dn + v8) = false, decide (dn > a) = false, IntKind.wrap IntKind.i64 (a + (↑v1 : Int)) = a + (↑v1 : Int), IntKind.wrap IntKind.i64 (dn + v8) = dn + v8, decide (dn + v8 < a + (↑v1 : Int)) = false, decide (a < a + (↑v1 : Int)) = true, decide (v7 > a) = false, decide v9 = false, decide (v7 > a) = false, decide (Rng.b { a := f2, b := t2 } > a) = false, decide v11 = false, decide (Rng.a { a := f2, b := t2 } > a) = false, IntKind.wrap IntKind.i64 v5 = a + (↑v1 : Int) - dn, decide (a + (↑v1 : Int) - dn > (↑v10 : Int)) = true, IntKind.wrap IntKind.i64 v3 = a + (↑v1 : Int) - dn - (↑v10 : Int), v7 ≤ a + (↑v1 : Int) - dn - (↑v10 : Int) ∧ v3 * (1 : Int) ≤ (281474976710656 : Int), List.length v6 * (1 : Nat) ≤ (140737488355328 : Nat) ∧ List.length v6 < (9223372036854775808 : Nat), IntKind.wrap IntKind.i64 (a - dn) = a - dn, IntKind.wrap IntKind.i64 v5 = a + (↑v1 : Int) - dn, v7 ≤ (a - dn) ∧ (a - dn) ≤ v5 ∧ v5 ≤ v5 ∧ v5 ≤ (↑(List.length v6) : Int), IntKind.wrap IntKind.i64 (a - a) = a - a, v7 ≤ (a - a) ∧ (a - a) ≤ (↑v1 : Int) ∧ (↑v1 : Int) ≤ (↑v1 : Int) ∧ (↑v1 : Int) ≤ (↑v1 : Int), decide (v7 > a) = false, decide v9 = false, decide v11 = false, decide (Rng.b { a := f2, b := t2 } ≥ a) = true, decide (Rng.b { a := f, b := t } ≥ a) = false, decide (Rng.a { a := f2, b := t2 } > a + (↑v1 : Int)) = false, IntKind.wrap IntKind.i64 v2 = Rng.b { a := f2, b := t2 } - Rng.a { a := f2, b := t2 }, IntKind.wrap IntKind.i64 (v7 + v2) = v7 + v2, decide (Rng.a { a := f2, b := t2 } < a) = true, decide (Rng.b { a := f2, b := t2 } > a + (↑v1 : Int)) = false, IntKind.wrap IntKind.i64 (a + (↑v1 : Int) - Rng.a { a := f2, b := t2 }) = a + (↑v1 : Int) - Rng.a { a := f2, b := t2 }, IntKind.wrap IntKind.i64 v4 = a + (↑v1 : Int) - Rng.a { a := f2, b := t2 } - (v7 + v2), IntKind.wrap IntKind.i64 (v7 + v4) = v7 + v4, decide (a + (↑v1 : Int) < a + (↑v1 : Int)) = false]
noncomputable def tk2R_r (dn : Int) (a : Int) (f : Int) (t : Int) (f2 : Int) (t2 : Int) (bs : List Int) (ds : List Int) : Res := let v2 := (subS false (Int.toNat (a - a)) (0 : Nat) true ds); let v4 := (lenSq (Sq.ints false false IntKind.u8 v2)); let v5 := (List.length ds); let v1 := (bs ++ List.replicate (Int.toNat (a + (↑v5 : Int) - dn - (↑(List.length bs) : Int))) (0 : Int)); let v3 := (Int.toNat (a + (↑v5 : Int) - dn) - Int.toNat (a - dn)); .mk (.int false .i64 ((0 : Int) + (a + (↑v5 : Int) - Rng.a { a := f2, b := t2 } - ((0 : Int) + (Rng.b { a := f2, b := t2 } - Rng.a { a := f2, b := t2 }))))) [(.cells true 140 [(.one (.int true .i64 2048)), (.one (.int false .i64 (dn))), (.one (.vec 17)), (.one (.ptr 15 0 0 true 0))]), .dead, (.cells true 238 [.one (.vec 18)]), .dead, (.cells true 5 [.row false false .u8 (List.length v1) (List.take (Int.toNat (a - dn)) v1 ++ List.take (min v4 v3) v2 ++ List.drop (Int.toNat (a - dn) + min v4 v3) v1)]), (.cells true 181 [.lst true .rng 2 [(.mk (f) (t)), (.mk (Rng.a { a := f2, b := t2 }) (a + (↑v5 : Int)))]])]
theorem tk2R (dn : Int) (a : Int) (f : Int) (t : Int) (f2 : Int) (t2 : Int) (bs : List Int) (ds : List Int) : Goes (callRun tc ((env kT).fn 20) Tryz.f125 1000 [A.ptr 13 0 0 true 0, A.int false IntKind.i64 a, A.fzi false IntKind.u8 ds] (ibR dn bs [{ a := f, b := t }, { a := f2, b := t2 }])) [.f, .f, .f, .f, .t, .f, .f, .f, .a, .f, .f, .a, .f, .t, .f, .f, .f, .a, .t, .a, .f, .a, .f, .a, .a, .t, .a, .f, .f] (tk2R_ps dn a f t f2 t2 bs ds) (tk2R_r dn a f t f2 t2 bs ds) := by
 unfold Goes
 kernel_rfl
def tk2a_ps (dn : Int) (a : Int) (f : Int) (t : Int) (f2 : Int) (t2 : Int) (bs : List Int) (ds : List Int) : List Prop := let v1 := (List.length ds); let v2 := (Rng.b { a := f, b := t } - Rng.a { a := f, b := t }); let v4 := (a + (↑v1 : Int) - dn); let v5 := (0 : Int); let v3 := (a + (↑v1 : Int) - Rng.a { a := f, b := t } - (v5 + v2)); let v6 := (2048 : Int); let v7 := ((4611686018427387904 : Int) < a + (↑v1 : Int)); let v8 := (Rng.a { a := f2, b := t2 } > a); let v9 := (a ≥ a + (↑v1 : Int)); let v10 := (List.length bs); [decide (a < v5) = false, IntKind.wrap IntKind.i64 (dn + v6) = dn + v6, decide (a ≥ dn + v6) = false, decide (dn > a) = false, IntKind.wrap IntKind.i64 (a + (↑v1 : Int)) = a + (↑v1 : Int), IntKind.wrap IntKind.i64 (dn + v6) = dn + v6, decide (dn + v6 < a + (↑v1 : Int)) = false, decide (a < a + (↑v1 : Int)) = true, decide (v5 > a) = false, decide v7 = false, decide (v5 > a) = false, decide (Rng.b { a := f2, b := t2 } > a) = true, decide (Rng.b { a := f, b := t } > a) = false, decide v8 = true, decide v9 = false, decide v8 = true, decide (Rng.a { a := f, b := t } > a) = false, decide (Rng.a { a := f2, b := t2 } < a + (↑v1 : Int)) = false, IntKind.wrap IntKind.i64 v4 = a + (↑v1 : Int) - dn, decide (a + (↑v1 : Int) - dn > (↑v10 : Int)) = false, IntKind.wrap IntKind.i64 (a - dn) = a - dn, IntKind.wrap IntKind.i64 v4 = a + (↑v1 : Int) - dn, v5 ≤ (a - dn) ∧ (a - dn) ≤ v4 ∧ v4 ≤ v4 ∧ v4 ≤ (↑v10 : Int), IntKind.wrap IntKind.i64 (a - a) = a - a, v5 ≤ (a - a) ∧ (a - a) ≤ (↑v1 : Int) ∧ (↑v1 : Int) ≤ (↑v1 : Int) ∧ (↑v1 : Int) ≤ (↑v1 : Int), decide (v5 > a) = false, decide v7 = false, decide v9 = false, decide (Rng.b { a := f2, b := t2 } ≥ a) = true, decide (Rng.b { a := f, b := t } ≥ a) = true, decide (Rng.a { a := f2, b := t2 } > a + (↑v1 : Int)) = true, decide (Rng.a { a := f, b := t } > a + (↑v1 : Int)) = false, IntKind.wrap IntKind.i64 v2 = Rng.b { a := f, b := t } - Rng.a { a := f, b := t }, IntKind.wrap IntKind.i64 (v5 + v2) = v5 + v2, decide (Rng.a { a := f, b := t } < a) = true, decide (Rng.b { a := f, b := t } > a + (↑v1 : Int)) = false, IntKind.wrap IntKind.i64 (a + (↑v1 : Int) - Rng.a { a := f, b := t }) = a + (↑v1 : Int) - Rng.a { a := f, b := t }, IntKind.wrap IntKind.i64 v3 = a + (↑v1 : Int) - Rng.a { a := f, b := t } - (v5 + v2), IntKind.wrap IntKind.i64 (v5 + v3) = v5 + v3, decide (a + (↑v1 : Int) < a + (↑v1 : Int)) = false]
noncomputable def tk2a_r (dn : Int) (a : Int) (f : Int) (t : Int) (f2 : Int) (t2 : Int) (bs : List Int) (ds : List Int) : Res := let v1 := (subS false (Int.toNat (a - a)) (0 : Nat) true ds); let v3 := (lenSq (Sq.ints false false IntKind.u8 v1)); let v4 := (List.length ds); let v2 := (Int.toNat (a + (↑v4 : Int) - dn) - Int.toNat (a - dn)); .mk (.int false .i64 ((0 : Int) + (a + (↑v4 : Int) - Rng.a { a := f, b := t } - ((0 : Int) + (Rng.b { a := f, b := t } - Rng.a { a := f, b := t }))))) [(.cells true 140 [(.one (.int true .i64 2048)), (.one (.int false .i64 (dn))), (.one (.vec 14)), (.one (.ptr 15 0 0 true 0))]), (.cells true 5 [.row false false .u8 (List.length bs) (List.take (Int.toNat (a - dn)) bs ++ List.take (min v3 v2) v1 ++ List.drop (Int.toNat (a - dn) + min v3 v2) bs)]), (.cells true 238 [.one (.vec 17)]), .dead, (.cells true 181 [.lst true .rng 2 [(.mk (Rng.a { a := f, b := t }) (a + (↑v4 : Int))), (.mk (f2) (t2))]])]
theorem tk2a (dn : Int) (a : Int) (f : Int) (t : Int) (f2 : Int) (t2 : Int) (bs : List Int) (ds : List Int) : Goes (callRun tc ((env kT).fn 20) Tryz.f125 1000 [A.ptr 13 0 0 true 0, A.int false IntKind.i64 a, A.fzi false IntKind.u8 ds] (ibR dn bs [{ a := f, b := t }, { a := f2, b := t2 }])) [.f, .f, .f, .f, .t, .f, .f, .f, .a, .t, .a, .f, .a, .t, .f, .a, .t, .a, .f, .a, .f, .f, .f, .f, .f, .a, .t, .a, .t, .a, .t, .a, .f, .a, .a, .t, .a, .f, .f] (tk2a_ps dn a f t f2 t2 bs ds) (tk2a_r dn a f t f2 t2 bs ds) := by
 unfold Goes
 kernel_rfl
def tk2b_ps (dn : Int) (a : Int) (f : Int) (t : Int) (f2 : Int) (t2 : Int) (bs : List Int) (ds : List Int) : List Prop := let v1 := (List.length ds); let v2 := (Rng.b { a := f2, b := t2 } - Rng.a { a := f2, b := t2 }); let v4 := (a + (↑v1 : Int) - dn); let v5 := (0 : Int); let v3 := (Rng.b { a := f2, b := t2 } - a - (v5 + v2)); let v6 := (2048 : Int); let v7 := ((4611686018427387904 : Int) < a + (↑v1 : Int)); let v8 := (Rng.a { a := f2, b := t2 } > a); let v9 := (a ≥ a + (↑v1 : Int)); let v10 := (List.length bs); [decide (a < v5) = false, IntKind.wrap IntKind.i64 (dn + v6) = dn + v6, decide (a ≥ dn + v6) = false, decide (dn > a) = false, IntKind.wrap IntKind.i64 (a + (↑v1 : Int)) = a + (↑v1 : Int), IntKind.wrap IntKind.i64 (dn + v6) = dn + v6, decide (dn + v6 < a + (↑v1 : Int)) = false, decide (a < a + (↑v1 : Int)) = true, decide (v5 > a) = false, decide v7 = false, decide (v5 > a) = false, decide (Rng.b { a := f2, b := t2 } > a) = true, decide (Rng.b { a := f, b := t } > a) = false, decide v8 = true, decide v9 = false, decide v8 = true, decide (Rng.a { a := f, b := t } > a) = false, decide (Rng.a { a := f2, b := t2 } < a + (↑v1 : Int)) = false, IntKind.wrap IntKind.i64 v4 = a + (↑v1 : Int) - dn, decide (a + (↑v1 : Int) - dn > (↑v10 : Int)) = false, IntKind.wrap IntKind.i64 (a - dn) = a - dn, IntKind.wrap IntKind.i64 v4 = a + (↑v1 : Int) - dn, v5 ≤ (a - dn) ∧ (a - dn) ≤ v4 ∧ v4 ≤ v4 ∧ v4 ≤ (↑v10 : Int), IntKind.wrap IntKind.i64 (a - a) = a - a, v5 ≤ (a - a) ∧ (a - a) ≤ (↑v1 : Int) ∧ (↑v1 : Int) ≤ (↑v1 : Int) ∧ (↑v1 : Int) ≤ (↑v1 : Int), decide (v5 > a) = false, decide v7 = false, decide v9 = false, decide (Rng.b { a := f2, b := t2 } ≥ a) = true, decide (Rng.b { a := f, b := t } ≥ a) = false, decide (Rng.a { a := f2, b := t2 } > a + (↑v1 : Int)) = false, IntKind.wrap IntKind.i64 v2 = Rng.b { a := f2, b := t2 } - Rng.a { a := f2, b := t2 }, IntKind.wrap IntKind.i64 (v5 + v2) = v5 + v2, decide (Rng.a { a := f2, b := t2 } < a) = false, decide (Rng.b { a := f2, b := t2 } > a + (↑v1 : Int)) = true, IntKind.wrap IntKind.i64 (Rng.b { a := f2, b := t2 } - a) = Rng.b { a := f2, b := t2 } - a, IntKind.wrap IntKind.i64 v3 = Rng.b { a := f2, b := t2 } - a - (v5 + v2), IntKind.wrap IntKind.i64 (v5 + v3) = v5 + v3, decide (a + (↑v1 : Int) < a + (↑v1 : Int)) = false]
noncomputable def tk2b_r (dn : Int) (a : Int) (f : Int) (t : Int) (f2 : Int) (t2 : Int) (bs : List Int) (ds : List Int) : Res := let v1 := (subS false (Int.toNat (a - a)) (0 : Nat) true ds); let v2 := (Int.toNat (a + (↑(List.length ds) : Int) - dn) - Int.toNat (a - dn)); let v3 := (lenSq (Sq.ints false false IntKind.u8 v1)); .mk (.int false .i64 ((0 : Int) + (Rng.b { a := f2, b := t2 } - a - ((0 : Int) + (Rng.b { a := f2, b := t2 } - Rng.a { a := f2, b := t2 }))))) [(.cells true 140 [(.one (.int true .i64 2048)), (.one (.int false .i64 (dn))), (.one (.vec 14)), (.one (.ptr 15 0 0 true 0))]), (.cells true 5 [.row false false .u8 (List.length bs) (List.take (Int.toNat (a - dn)) bs ++ List.take (min v3 v2) v1 ++ List.drop (Int.toNat (a - dn) + min v3 v2) bs)]), (.cells true 238 [.one (.vec 17)]), .dead, (.cells true 181 [.lst true .rng 2 [(.mk (f) (t)), (.mk (a) (Rng.b { a := f2, b := t2 }))]])]
theorem tk2b (dn : Int) (a : Int) (f : Int) (t : Int) (f2 : Int) (t2 : Int) (bs : List Int) (ds : List Int) : Goes (callRun tc ((env kT).fn 20) Tryz.f125 1000 [A.ptr 13 0 0 true 0, A.int false IntKind.i64 a, A.fzi false IntKind.u8 ds] (ibR dn bs [{ a := f, b := t }, { a := f2, b := t2 }])) [.f, .f, .f, .f, .t, .f, .f, .f, .a, .t, .a, .f, .a, .t, .f, .a, .t, .a, .f, .a, .f, .f, .f, .f, .f, .a, .t, .a, .f, .a, .f, .a, .a, .f, .a, .t, .f] (tk2b_ps dn a f t f2 t2 bs ds) (tk2b_r dn a f t f2 t2 bs ds) := by
 unfold Goes
 kernel_rfl
end
section
def putA (bs : List Int) (k : Nat) (ds : List Int) : List Int := bs.take k ++ ds ++ bs.drop (k + ds.length)
theorem put_raw {bs ds : List Int} {a dn : Int} {k : Nat} (h : dn ≤ a) :
  List.take k bs ++ List.take (min (lenSq (Sq.ints false false IntKind.u8 (subS false (Int.toNat (a - a)) 0 true ds))) (Int.toNat (a + (ds.length : Int) - dn) - Int.toNat (a - dn))) (subS false (Int.toNat (a - a)) 0 true ds) ++
   List.drop (k + min (lenSq (Sq.ints false false IntKind.u8 (subS false (Int.toNat (a - a)) 0 true ds))) (Int.toNat (a + (ds.length : Int) - dn) - Int.toNat (a - dn))) bs = putA bs k ds := by
 have e1 : subS false (Int.toNat (a - a)) 0 true ds = ds := by rw [Int.sub_self]; rfl
 have e2 : min (lenSq (Sq.ints false false IntKind.u8 ds)) (Int.toNat (a + (ds.length : Int) - dn) - Int.toNat (a - dn)) = ds.length := by
  show min ds.length _ = _
  omega
 rw [e1, e2, List.take_length]
 rfl
structure TkOk (dn a : Int) (bs ds : List Int) : Prop where
 dn0 : 0 ≤ dn
 dn1 : dn ≤ 1000000
 lo : dn ≤ a
 hi : a + ds.length ≤ dn + 2048
 some : 1 ≤ ds.length
 bs : bs.length ≤ 2048
theorem tk0_ob {a : Int} {ds : List Int} (h : TkOk 0 a [] ds) : Conj (tk0_ps a ds) := by
 obtain ⟨h1, h2, h3, h4, h5, h6⟩ := h
 unfold tk0_ps
 refine ⟨?_, ?_, ?_, ?_, ?_, ?_, ?_, ?_, ?_, ?_, ?_, ?_, ?_, ?_, ?_, ?_, ?_, ?_, ?_, ?_, ?_, ?_, ?_, ?_, ?_, ?_, ?_, trivial⟩
 all_goals try dsimp only
 all_goals first
  | omega
  | exact decide_eq_true (by omega)
  | exact decide_eq_false (by omega)
  | exact I64.wrap ⟨by omega, by omega⟩
  | (simp only [List.length_append, List.length_replicate]; omega)
  | (simp only [List.length_replicate]; omega)
theorem tk1L_ob {dn a f t : Int} {bs ds : List Int} (h : TkOk dn a bs ds) (hc : a + ds.length = f ∧ f < t ∧ t ≤ dn + 2048 ∧ (bs.length : Int) = t - dn) : Conj (tk1L_ps dn a f t bs ds) := by
 obtain ⟨h1, h2, h3, h4, h5, h6⟩ := h
 unfold tk1L_ps
 refine ⟨?_, ?_, ?_, ?_, ?_, ?_, ?_, ?_, ?_, ?_, ?_, ?_, ?_, ?_, ?_, ?_, ?_, ?_, ?_, ?_, ?_, ?_, ?_, ?_, ?_, ?_, ?_, ?_, ?_, ?_, ?_, ?_, ?_, ?_, ?_, ?_, trivial⟩
 all_goals try dsimp only
 all_goals first
  | omega
  | exact decide_eq_true (by omega)
  | exact decide_eq_false (by omega)
  | exact I64.wrap ⟨by omega, by omega⟩
  | (simp only [List.length_append, List.length_replicate]; omega)
  | (simp only [List.length_replicate]; omega)
theorem tk1l_ob {dn a f t : Int} {bs ds : List Int} (h : TkOk dn a bs ds) (hc : a + ds.length < f ∧ f < t ∧ t ≤ dn + 2048 ∧ (bs.length : Int) = t - dn) : Conj (tk1l_ps dn a f t bs ds) := by
 obtain ⟨h1, h2, h3, h4, h5, h6⟩ := h
 unfold tk1l_ps
 refine ⟨?_, ?_, ?_, ?_, ?_, ?_, ?_, ?_, ?_, ?_, ?_, ?_, ?_, ?_, ?_, ?_, ?_, ?_, ?_, ?_, ?_, ?_, ?_, ?_, ?_, ?_, ?_, ?_, ?_, ?_, ?_, ?_, trivial⟩
 all_goals try dsimp only
 all_goals first
  | omega
  | exact decide_eq_true (by omega)
  | exact decide_eq_false (by omega)
  | exact I64.wrap ⟨by omega, by omega⟩
  | (simp only [List.length_append, List.length_replicate]; omega)
  | (simp only [List.length_replicate]; omega)
theorem tk1R_ob {dn a f t : Int} {bs ds : List Int} (h : TkOk dn a bs ds) (hc : a = t ∧ 0 ≤ f ∧ f < t ∧ (bs.length : Int) = t - dn) : Conj (tk1R_ps dn a f t bs ds) := by
 obtain ⟨h1, h2, h3, h4, h5, h6⟩ := h
 unfold tk1R_ps
 refine ⟨?_, ?_, ?_, ?_, ?_, ?_, ?_, ?_, ?_, ?_, ?_, ?_, ?_, ?_, ?_, ?_, ?_, ?_, ?_, ?_, ?_, ?_, ?_, ?_, ?_, ?_, ?_, ?_, ?_, ?_, ?_, ?_, ?_, ?_, ?_, ?_, ?_, trivial⟩
 all_goals try dsimp only
 all_goals first
  | omega
  | exact decide_eq_true (by omega)
  | exact decide_eq_false (by omega)
  | exact I64.wrap ⟨by omega, by omega⟩
  | (simp only [List.length_append, List.length_replicate]; omega)
  | (simp only [List.length_replicate]; omega)
theorem tk1r_ob {dn a f t : Int} {bs ds : List Int} (h : TkOk dn a bs ds) (hc : t < a ∧ 0 ≤ f ∧ f < t ∧ dn ≤ t ∧ (bs.length : Int) = t - dn) : Conj (tk1r_ps dn a f t bs ds) := by
 obtain ⟨h1, h2, h3, h4, h5, h6⟩ := h
 unfold tk1r_ps
 refine ⟨?_, ?_, ?_, ?_, ?_, ?_, ?_, ?_, ?_, ?_, ?_, ?_, ?_, ?_, ?_, ?_, ?_, ?_, ?_, ?_, ?_, ?_, ?_, ?_, ?_, ?_, ?_, ?_, ?_, ?_, ?_, ?_, ?_, trivial⟩
 all_goals try dsimp only
 all_goals first
  | omega
  | exact decide_eq_true (by omega)
  | exact decide_eq_false (by omega)
  | exact I64.wrap ⟨by omega, by omega⟩
  | (simp only [List.length_append, List.length_replicate]; omega)
  | (simp only [List.length_replicate]; omega)
theorem tk2L_ob {dn a f t f2 t2 : Int} {bs ds : List Int} (h : TkOk dn a bs ds) (hc : a + ds.length = f ∧ f < t ∧ t < f2 ∧ f2 < t2 ∧ t2 ≤ dn + 2048 ∧ (bs.length : Int) = t2 - dn) : Conj (tk2L_ps dn a f t f2 t2 bs ds) := by
 obtain ⟨h1, h2, h3, h4, h5, h6⟩ := h
 unfold tk2L_ps
 refine ⟨?_, ?_, ?_, ?_, ?_, ?_, ?_, ?_, ?_, ?_, ?_, ?_, ?_, ?_, ?_, ?_, ?_, ?_, ?_, ?_, ?_, ?_, ?_, ?_, ?_, ?_, ?_, ?_, ?_, ?_, ?_, ?_, ?_, ?_, ?_, ?_, ?_, ?_, ?_, ?_, trivial⟩
 all_goals try dsimp only
 all_goals first
  | omega
  | exact decide_eq_true (by omega)
  | exact decide_eq_false (by omega)
  | exact I64.wrap ⟨by omega, by omega⟩
  | (simp only [List.length_append, List.length_replicate]; omega)
  | (simp only [List.length_replicate]; omega)
theorem tk2m_ob {dn a f t f2 t2 : Int} {bs ds : List Int} (h : TkOk dn a bs ds) (hc : a = t ∧ a + ds.length = f2 ∧ 0 ≤ f ∧ f < t ∧ f2 < t2 ∧ t2 ≤ dn + 2048 ∧ (bs.length : Int) = t2 - dn) : Conj (tk2m_ps dn a f t f2 t2 bs ds) := by
 obtain ⟨h1, h2, h3, h4, h5, h6⟩ := h
 unfold tk2m_ps
 refine ⟨?_, ?_, ?_, ?_, ?_, ?_, ?_, ?_, ?_, ?_, ?_, ?_, ?_, ?_, ?_, ?_, ?_, ?_, ?_, ?_, ?_, ?_, ?_, ?_, ?_, ?_, ?_, ?_, ?_, ?_, ?_, ?_, ?_, ?_, ?_, ?_, ?_, ?_, ?_, ?_, ?_, trivial⟩
 all_goals try dsimp only
 all_goals first
  | omega
  | exact decide_eq_true (by omega)
  | exact decide_eq_false (by omega)
  | exact I64.wrap ⟨by omega, by omega⟩
  | (simp only [List.length_append, List.length_replicate]; omega)
  | (simp only [List.length_replicate]; omega)
theorem tk2R_ob {dn a f t f2 t2 : Int} {bs ds : List Int} (h : TkOk dn a bs ds) (hc : a = t2 ∧ 0 ≤ f ∧ f < t ∧ t < f2 ∧ f2 < t2 ∧ (bs.length : Int) = t2 - dn) : Conj (tk2R_ps dn a f t f2 t2 bs ds) := by
 obtain ⟨h1, h2, h3, h4, h5, h6⟩ := h
 unfold tk2R_ps
 refine ⟨?_, ?_, ?_, ?_, ?_, ?_, ?_, ?_, ?_, ?_, ?_, ?_, ?_, ?_, ?_, ?_, ?_, ?_, ?_, ?_, ?_, ?_, ?_, ?_, ?_, ?_, ?_, ?_, ?_, ?_, ?_, ?_, ?_, ?_, ?_, ?_, ?_, ?_, trivial⟩
 all_goals try dsimp only
 all_goals first
  | omega
  | exact decide_eq_true (by omega)
  | exact decide_eq_false (by omega)
  | exact I64.wrap ⟨by omega, by omega⟩
  | (simp only [List.length_append, List.length_replicate]; omega)
  | (simp only [List.length_replicate]; omega)
theorem tk2a_ob {dn a f t f2 t2 : Int} {bs ds : List Int} (h : TkOk dn a bs ds) (hc : a = t ∧ a + ds.length < f2 ∧ 0 ≤ f ∧ f < t ∧ f2 < t2 ∧ t2 ≤ dn + 2048 ∧ (bs.length : Int) = t2 - dn) : Conj (tk2a_ps dn a f t f2 t2 bs ds) := by
 obtain ⟨h1, h2, h3, h4, h5, h6⟩ := h
 unfold tk2a_ps
 refine ⟨?_, ?_, ?_, ?_, ?_, ?_, ?_, ?_, ?_, ?_, ?_, ?_, ?_, ?_, ?_, ?_, ?_, ?_, ?_, ?_, ?_, ?_, ?_, ?_, ?_, ?_, ?_, ?_, ?_, ?_, ?_, ?_, ?_, ?_, ?_, ?_, ?_, ?_, ?_, ?_, trivial⟩
 all_goals try dsimp only
 all_goals first
  | omega
  | exact decide_eq_true (by omega)
  | exact decide_eq_false (by omega)
  | exact I64.wrap ⟨by omega, by omega⟩
  | (simp only [List.length_append, List.length_replicate]; omega)
  | (simp only [List.length_replicate]; omega)
theorem tk2b_ob {dn a f t f2 t2 : Int} {bs ds : List Int} (h : TkOk dn a bs ds) (hc : t < a ∧ a + ds.length = f2 ∧ 0 ≤ f ∧ f < t ∧ f2 < t2 ∧ t2 ≤ dn + 2048 ∧ (bs.length : Int) = t2 - dn) : Conj (tk2b_ps dn a f t f2 t2 bs ds) := by
 obtain ⟨h1, h2, h3, h4, h5, h6⟩ := h
 unfold tk2b_ps
 refine ⟨?_, ?_, ?_, ?_, ?_, ?_, ?_, ?_, ?_, ?_, ?_, ?_, ?_, ?_, ?_, ?_, ?_, ?_, ?_, ?_, ?_, ?_, ?_, ?_, ?_, ?_, ?_, ?_, ?_, ?_, ?_, ?_, ?_, ?_, ?_, ?_, ?_, ?_, ?_, trivial⟩
 all_goals try dsimp only
 all_goals first
  | omega
  | exact decide_eq_true (by omega)
  | exact decide_eq_false (by omega)
  | exact I64.wrap ⟨by omega, by omega⟩
  | (simp only [List.length_append, List.length_replicate]; omega)
  | (simp only [List.length_replicate]; omega)
def inP (dn a : Int) (bs ds : List Int) : List Int := putA (bs ++ List.replicate (a + ds.length - dn - bs.length).toNat 0) (a - dn).toNat ds
theorem putA_length {bs ds : List Int} {k : Nat} (h : k + ds.length ≤ bs.length) : (putA bs k ds).length = bs.length := by
 simp [putA]
 omega
theorem inP_in {dn a : Int} {bs ds : List Int} (h : a + ds.length - dn ≤ bs.length) : putA bs (a - dn).toNat ds = inP dn a bs ds := by
 unfold inP
 rw [show (a + ds.length - dn - bs.length).toNat = 0 by omega, List.replicate_zero, List.append_nil]
theorem inP_out_length {dn a : Int} {bs ds : List Int} (h1 : dn ≤ a) (h : (bs.length : Int) ≤ a + ds.length - dn) : (bs ++ List.replicate (a + ds.length - dn - bs.length).toNat (0 : Int)).length = (inP dn a bs ds).length := by
 unfold inP
 rw [putA_length]
 simp
 omega
theorem inP_in_length {dn a : Int} {bs ds : List Int} (h1 : dn ≤ a) (h : a + ds.length - dn ≤ bs.length) : bs.length = (inP dn a bs ds).length := by
 rw [← inP_in h, putA_length]
 omega
noncomputable def iH (dn : Int) (b : A) : Blk := .cells true 140 [.one (.int true .i64 2048), .one (.int false .i64 dn), .one b, .one (.ptr 15 0 0 true 0)]
noncomputable def rH (r : A) : Blk := .cells true 238 [.one r]
noncomputable def byB (bs : List Int) : Blk := .cells true 5 [.row false false .u8 bs.length bs]
noncomputable abbrev tkA (a : Int) (ds : List Int) : List A := [.ptr 13 0 0 true 0, .int false .i64 a, .fzi false .u8 ds]
noncomputable def ibQ (dn : Int) (bs : List Int) (rs : List Rng) : List Blk := [iH dn (.vec 17), .dead, rH (.vec 18), .dead, byB bs, rB rs]
def ordQ : List (Option Nat) := [some 0, some 4, some 2, none, some 5]
theorem gl_ordQ : renBs (toF ordQ) gl = some gl := by kernel_rfl
theorem tk1L_con {dn a f t : Int} {bs ds : List Int} (h : TkOk dn a bs ds) (hc : a + ds.length = f ∧ f < t ∧ t ≤ dn + 2048 ∧ (bs.length : Int) = t - dn) : Con Tryz.prog gl 125 (tkA a ds) (ibR dn bs [⟨f, t⟩]) ⟨.int false .i64 ds.length, ibQ dn (inP dn a bs ds) [⟨a, t⟩]⟩ := by
 have con := con_goes cT Tryz.func125 1000 (tk1L dn a f t bs ds) (tk1L_ob h hc)
 have hlo := h.lo
 have hsome := h.some
 unfold tk1L_r at con
 dsimp only at con
 rw [put_raw hlo, show (0 : Int) + (t - a - (0 + (t - f))) = ds.length by omega, inP_in (by omega), inP_in_length hlo (show a + ds.length - dn ≤ bs.length by omega)] at con
 exact con_to (con_ren (mem := ibR dn bs [⟨f, t⟩]) (mem1 := [iH dn (.vec 14), byB (inP dn a bs ds), rH (.vec 17), .dead, rB [⟨a, t⟩]]) (mem2 := ibQ dn (inP dn a bs ds) [⟨a, t⟩]) ordQ rfl rfl (show 4 ≤ 6 by decide) gl_ordQ ⟨rfl, rfl, rfl, rfl, rfl, rfl, trivial⟩ rfl con)
theorem tk1l_con {dn a f t : Int} {bs ds : List Int} (h : TkOk dn a bs ds) (hc : a + ds.length < f ∧ f < t ∧ t ≤ dn + 2048 ∧ (bs.length : Int) = t - dn) : Con Tryz.prog gl 125 (tkA a ds) (ibR dn bs [⟨f, t⟩]) ⟨.int false .i64 ds.length, ibQ dn (inP dn a bs ds) [⟨a, a + ds.length⟩, ⟨f, t⟩]⟩ := by
 have con := con_goes cT Tryz.func125 1000 (tk1l dn a f t bs ds) (tk1l_ob h hc)
 have hlo := h.lo
 have hsome := h.some
 unfold tk1l_r at con
 dsimp only at con
 rw [put_raw hlo, show (0 : Int) + (a + ds.length - a - 0) = ds.length by omega, inP_in (by omega), inP_in_length hlo (show a + ds.length - dn ≤ bs.length by omega)] at con
 exact con_to (con_ren (mem := ibR dn bs [⟨f, t⟩]) (mem1 := [iH dn (.vec 14), byB (inP dn a bs ds), rH (.vec 17), .dead, rB [⟨a, a + ds.length⟩, ⟨f, t⟩]]) (mem2 := ibQ dn (inP dn a bs ds) [⟨a, a + ds.length⟩, ⟨f, t⟩]) ordQ rfl rfl (show 4 ≤ 6 by decide) gl_ordQ ⟨rfl, rfl, rfl, rfl, rfl, rfl, trivial⟩ rfl con)
theorem tk1R_con {dn a f t : Int} {bs ds : List Int} (h : TkOk dn a bs ds) (hc : a = t ∧ 0 ≤ f ∧ f < t ∧ (bs.length : Int) = t - dn) : Con Tryz.prog gl 125 (tkA a ds) (ibR dn bs [⟨f, t⟩]) ⟨.int false .i64 ds.length, ibQ dn (inP dn a bs ds) [⟨f, a + ds.length⟩]⟩ := by
 have con := con_goes cT Tryz.func125 1000 (tk1R dn a f t bs ds) (tk1R_ob h hc)
 have hlo := h.lo
 have hsome := h.some
 unfold tk1R_r at con
 dsimp only at con
 rw [put_raw hlo, show (0 : Int) + (a + ds.length - f - (0 + (t - f))) = ds.length by omega, inP_out_length hlo (by omega)] at con
 exact con_to con
theorem tk1r_con {dn a f t : Int} {bs ds : List Int} (h : TkOk dn a bs ds) (hc : t < a ∧ 0 ≤ f ∧ f < t ∧ dn ≤ t ∧ (bs.length : Int) = t - dn) : Con Tryz.prog gl 125 (tkA a ds) (ibR dn bs [⟨f, t⟩]) ⟨.int false .i64 ds.length, ibQ dn (inP dn a bs ds) [⟨f, t⟩, ⟨a, a + ds.length⟩]⟩ := by
 have con := con_goes cT Tryz.func125 1000 (tk1r dn a f t bs ds) (tk1r_ob h hc)
 have hlo := h.lo
 have hsome := h.some
 unfold tk1r_r at con
 dsimp only at con
 rw [put_raw hlo, show (0 : Int) + (a + ds.length - a - 0) = ds.length by omega, inP_out_length hlo (by omega)] at con
 exact con_to con
theorem tk2L_con {dn a f t f2 t2 : Int} {bs ds : List Int} (h : TkOk dn a bs ds) (hc : a + ds.length = f ∧ f < t ∧ t < f2 ∧ f2 < t2 ∧ t2 ≤ dn + 2048 ∧ (bs.length : Int) = t2 - dn) : Con Tryz.prog gl 125 (tkA a ds) (ibR dn bs [⟨f, t⟩, ⟨f2, t2⟩]) ⟨.int false .i64 ds.length, ibQ dn (inP dn a bs ds) [⟨a, t⟩, ⟨f2, t2⟩]⟩ := by
 have con := con_goes cT Tryz.func125 1000 (tk2L dn a f t f2 t2 bs ds) (tk2L_ob h hc)
 have hlo := h.lo
 have hsome := h.some
 unfold tk2L_r at con
 dsimp only at con
 rw [put_raw hlo, show (0 : Int) + (t - a - (0 + (t - f))) = ds.length by omega, inP_in (by omega), inP_in_length hlo (show a + ds.length - dn ≤ bs.length by omega)] at con
 exact con_to (con_ren (mem := ibR dn bs [⟨f, t⟩, ⟨f2, t2⟩]) (mem1 := [iH dn (.vec 14), byB (inP dn a bs ds), rH (.vec 17), .dead, rB [⟨a, t⟩, ⟨f2, t2⟩]]) (mem2 := ibQ dn (inP dn a bs ds) [⟨a, t⟩, ⟨f2, t2⟩]) ordQ rfl rfl (show 4 ≤ 6 by decide) gl_ordQ ⟨rfl, rfl, rfl, rfl, rfl, rfl, trivial⟩ rfl con)
theorem tk2m_con {dn a f t f2 t2 : Int} {bs ds : List Int} (h : TkOk dn a bs ds) (hc : a = t ∧ a + ds.length = f2 ∧ 0 ≤ f ∧ f < t ∧ f2 < t2 ∧ t2 ≤ dn + 2048 ∧ (bs.length : Int) = t2 - dn) : Con Tryz.prog gl 125 (tkA a ds) (ibR dn bs [⟨f, t⟩, ⟨f2, t2⟩]) ⟨.int false .i64 ds.length, ibQ dn (inP dn a bs ds) [⟨f, t2⟩]⟩ := by
 have con := con_goes cT Tryz.func125 1000 (tk2m dn a f t f2 t2 bs ds) (tk2m_ob h hc)
 have hlo := h.lo
 have hsome := h.some
 unfold tk2m_r at con
 dsimp only at con
 rw [put_raw hlo, show (0 : Int) + (t2 - f - (0 + (t - f) + (t2 - f2))) = ds.length by omega, inP_in (by omega), inP_in_length hlo (show a + ds.length - dn ≤ bs.length by omega)] at con
 exact con_to (con_ren (mem := ibR dn bs [⟨f, t⟩, ⟨f2, t2⟩]) (mem1 := [iH dn (.vec 14), byB (inP dn a bs ds), rH (.vec 17), .dead, rB [⟨f, t2⟩]]) (mem2 := ibQ dn (inP dn a bs ds) [⟨f, t2⟩]) ordQ rfl rfl (show 4 ≤ 6 by decide) gl_ordQ ⟨rfl, rfl, rfl, rfl, rfl, rfl, trivial⟩ rfl con)
theorem tk2R_con {dn a f t f2 t2 : Int} {bs ds : List Int} (h : TkOk dn a bs ds) (hc : a = t2 ∧ 0 ≤ f ∧ f < t ∧ t < f2 ∧ f2 < t2 ∧ (bs.length : Int) = t2 - dn) : Con Tryz.prog gl 125 (tkA a ds) (ibR dn bs [⟨f, t⟩, ⟨f2, t2⟩]) ⟨.int false .i64 ds.length, ibQ dn (inP dn a bs ds) [⟨f, t⟩, ⟨f2, a + ds.length⟩]⟩ := by
 have con := con_goes cT Tryz.func125 1000 (tk2R dn a f t f2 t2 bs ds) (tk2R_ob h hc)
 have hlo := h.lo
 have hsome := h.some
 unfold tk2R_r at con
 dsimp only at con
 rw [put_raw hlo, show (0 : Int) + (a + ds.length - f2 - (0 + (t2 - f2))) = ds.length by omega, inP_out_length hlo (by omega)] at con
 exact con_to con
theorem tk2a_con {dn a f t f2 t2 : Int} {bs ds : List Int} (h : TkOk dn a bs ds) (hc : a = t ∧ a + ds.length < f2 ∧ 0 ≤ f ∧ f < t ∧ f2 < t2 ∧ t2 ≤ dn + 2048 ∧ (bs.length : Int) = t2 - dn) : Con Tryz.prog gl 125 (tkA a ds) (ibR dn bs [⟨f, t⟩, ⟨f2, t2⟩]) ⟨.int false .i64 ds.length, ibQ dn (inP dn a bs ds) [⟨f, a + ds.length⟩, ⟨f2, t2⟩]⟩ := by
 have con := con_goes cT Tryz.func125 1000 (tk2a dn a f t f2 t2 bs ds) (tk2a_ob h hc)
 have hlo := h.lo
 have hsome := h.some
 unfold tk2a_r at con
 dsimp only at con
 rw [put_raw hlo, show (0 : Int) + (a + ds.length - f - (0 + (t - f))) = ds.length by omega, inP_in (by omega), inP_in_length hlo (show a + ds.length - dn ≤ bs.length by omega)] at con
 exact con_to (con_ren (mem := ibR dn bs [⟨f, t⟩, ⟨f2, t2⟩]) (mem1 := [iH dn (.vec 14), byB (inP dn a bs ds), rH (.vec 17), .dead, rB [⟨f, a + ds.length⟩, ⟨f2, t2⟩]]) (mem2 := ibQ dn (inP dn a bs ds) [⟨f, a + ds.length⟩, ⟨f2, t2⟩]) ordQ rfl rfl (show 4 ≤ 6 by decide) gl_ordQ ⟨rfl, rfl, rfl, rfl, rfl, rfl, trivial⟩ rfl con)
theorem tk2b_con {dn a f t f2 t2 : Int} {bs ds : List Int} (h : TkOk dn a bs ds) (hc : t < a ∧ a + ds.length = f2 ∧ 0 ≤ f ∧ f < t ∧ f2 < t2 ∧ t2 ≤ dn + 2048 ∧ (bs.length : Int) = t2 - dn) : Con Tryz.prog gl 125 (tkA a ds) (ibR dn bs [⟨f, t⟩, ⟨f2, t2⟩]) ⟨.int false .i64 ds.length, ibQ dn (inP dn a bs ds) [⟨f, t⟩, ⟨a, t2⟩]⟩ := by
 have con := con_goes cT Tryz.func125 1000 (tk2b dn a f t f2 t2 bs ds) (tk2b_ob h hc)
 have hlo := h.lo
 have hsome := h.some
 unfold tk2b_r at con
 dsimp only at con
 rw [put_raw hlo, show (0 : Int) + (t2 - a - (0 + (t2 - f2))) = ds.length by omega, inP_in (by omega), inP_in_length hlo (show a + ds.length - dn ≤ bs.length by omega)] at con
 exact con_to (con_ren (mem := ibR dn bs [⟨f, t⟩, ⟨f2, t2⟩]) (mem1 := [iH dn (.vec 14), byB (inP dn a bs ds), rH (.vec 17), .dead, rB [⟨f, t⟩, ⟨a, t2⟩]]) (mem2 := ibQ dn (inP dn a bs ds) [⟨f, t⟩, ⟨a, t2⟩]) ordQ rfl rfl (show 4 ≤ 6 by decide) gl_ordQ ⟨rfl, rfl, rfl, rfl, rfl, rfl, trivial⟩ rfl con)
theorem tk0_con {a : Int} {ds : List Int} (h : TkOk 0 a [] ds) : Con Tryz.prog gl 125 (tkA a ds) ib0 ⟨.int false .i64 ds.length, [.cells true 140 [.one (.int true .i64 2048), .one (.int true .i64 0), .one (.vec 15), .one (.ptr 14 0 0 true 0)], rH (.vec 16), byB (inP 0 a [] ds), rB [⟨a, a + ds.length⟩]]⟩ := by
 have con := con_goes cT Tryz.func125 1000 (tk0 a ds) (tk0_ob h)
 have hlo := h.lo
 have hsome := h.some
 have hl := inP_out_length (bs := []) hlo (show ((([] : List Int).length : Nat) : Int) ≤ a + ds.length - 0 by simp; omega)
 have hp : putA (List.replicate (a + ds.length - 0 - 0).toNat 0) (a - 0).toNat ds = inP 0 a [] ds := rfl
 unfold tk0_r at con
 dsimp only at con
 rw [put_raw hlo, show (0 : Int) + (a + ds.length - a - 0) = ds.length by omega, hp] at con
 have hl : (List.replicate (a + ds.length - 0 - 0).toNat (0 : Int)).length = (inP 0 a [] ds).length := hl
 rw [hl] at con
 exact con_to con
end
end Go.Proofs.YtiojkpgcmhlhnaaGreatDoor.Ty
