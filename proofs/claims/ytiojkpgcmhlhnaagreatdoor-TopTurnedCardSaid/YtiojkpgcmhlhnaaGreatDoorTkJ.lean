/-
  world.Do of a Poll.
-/
import Derived.Test.YtiojkpgcmhlhnaaGreatDoorTkI
namespace Go.Proofs.YtiojkpgcmhlhnaaGreatDoor.Ty
open Go
set_option maxRecDepth 100000
set_option linter.unusedSimpArgs false
set_option linter.unusedVariables false
section
noncomputable def wldG (p : Int) (S U xs : List Int) (hd : A) (cn : List (Int × A)) (sn ls nn rv : A) (tl : List Blk) : List Blk := [(.cells true 71 [(.one (.ptr 14 0 0 true 0)), (.one (.ptr 35 0 0 true 0)), (.one hd)]),
 (.cells true 89 [(.one (.int true .i64 0)), (.row true true .u8 32 ([1] ++ List.replicate 31 0)), (.row true true .u8 32 lit0), (.row true true .u8 32 ([3] ++ List.replicate 31 0)), (.one (.int false .i64 (p))), (.one (.int true .i64 2)), (.one (.int true .i64 0)), (.one (.int true .i64 0)), (.one (.ptr 15 0 0 true 0)), (.one (.vec 17)), (.one (.val (.slice .none 0 0))), (.one (.int true .i64 200)), (.one (.int true .i64 0)), (.one (.bool true false)), (.one (.ptr 18 0 0 true 0)), (.one (.ptr 24 0 0 true 0)), (.one (.ptr 28 0 0 true 0)), (.one (.ptr 30 0 0 true 0)), (.one (.ptr 31 0 0 true 0)), (.one (.bool true true)), (.one (.bool true false)), (.one (.map 34))]),
 (.cells true 136 [(.one (.bool true true)), (.one (.int true .i64 2)), (.row true true .u8 32 ([1] ++ List.replicate 31 0)), (.row true true .u8 32 ([3] ++ List.replicate 31 0)), (.row true true .u8 32 lit0), (.row true true .u8 32 (List.replicate 32 0)), (.one (.ptr 16 0 0 true 0))]),
 (.cells true 235 [(.row true false .u8 32 lit1), (.row true false .u8 32 lit2), (.row true false .u8 32 lit3), (.one (.bool true true)), (.one (.int true .u64 1))]),
 (.cells true 5 [(.row true true .u8 96 lit4)]),
 (.cells true 189 [(.one (.int true .i64 0)), (.one (.ptr 19 0 0 true 0)), (.one (.ptr 20 0 0 true 0)), (.one (.map 21)), (.one (.map 22)), (.one (.map 23))]),
 keyB U z32,
 keyB S z32,
 (.lmap cn),
 (.lmap []),
 (.lmap []),
 (.cells true 122 [.one (.int true .i64 0), .one (.vec 25), .one (.int true .i64 2048), .one (.int true .i64 2048), .one sn, .one (.ptr 26 0 0 true 0), .one (.ptr 27 0 0 true 0)]),
 byB xs,
 (.cells true 238 [(.one (.val (.slice .none 0 0)))]),
 (.cells true 238 [(.one (.val (.slice .none 0 0)))]),
 (.cells true 140 [(.one (.int true .i64 2048)), (.one (.int true .i64 0)), (.one (.val (.slice .none 0 0))), (.one (.ptr 29 0 0 true 0))]),
 (.cells true 238 [(.one (.val (.slice .none 0 0)))]),
 (.cells true 145 [(.lst true .pth 256 ([(.mk 2 100 0 0 [0, 0, 0, 0, 0, 0, 0, 0])] ++ List.replicate 255 (.mk 0 0 0 0 [0, 0, 0, 0, 0, 0, 0, 0])))]),
 (.cells true 148 [(.one (.int false .i64 (p))), (.one ls), (.one (.map 32))]),
 (.lmap [(0, (.ptr 33 0 0 true 0))]),
 (.cells true 212 [(.one (.int true .i64 4)), (.one nn), (.one rv)]),
 (.lmap []),
 (.cells true 89 [(.one (.int true .i64 1)), (.row true true .u8 32 ([2] ++ List.replicate 31 0)), (.row true true .u8 32 (List.replicate 32 0)), (.row true true .u8 32 ([4] ++ List.replicate 31 0)), (.one (.int false .i64 (p))), (.one (.int true .i64 2)), (.one (.int true .i64 0)), (.one (.int true .i64 0)), (.one (.ptr 36 0 0 true 0)), (.one (.vec 38)), (.one (.vec 39)), (.one (.int true .i64 0)), (.one (.int true .i64 0)), (.one (.bool true false)), (.one (.ptr 40 0 0 true 0)), (.one (.ptr 46 0 0 true 0)), (.one (.ptr 49 0 0 true 0)), (.one (.ptr 51 0 0 true 0)), (.one (.ptr 52 0 0 true 0)), (.one (.bool true true)), (.one (.bool true false)), (.one (.map 55))]),
 (.cells true 136 [(.one (.bool true false)), (.one (.int true .i64 2)), (.row true true .u8 32 ([2] ++ List.replicate 31 0)), (.row true true .u8 32 ([4] ++ List.replicate 31 0)), (.row true false .u8 32 lit0), (.row true false .u8 32 lit0), (.one (.ptr 37 0 0 true 0))]),
 (.cells true 235 [(.row true false .u8 32 lit1), (.row true false .u8 32 lit2), (.row true false .u8 32 lit3), (.one (.bool true true)), (.one (.int true .u64 1))]),
 (.cells true 5 [(.row false false .u8 96 lit4)]),
 (.cells true 5 [(.row true false .u8 48 lit5)]),
 (.cells true 189 [(.one (.int true .i64 1)), (.one (.ptr 41 0 0 true 0)), (.one (.ptr 42 0 0 true 0)), (.one (.map 43)), (.one (.map 44)), (.one (.map 45))]),
 keyB S z32,
 keyB U z32,
 (.lmap []),
 (.lmap []),
 (.lmap []),
 (.cells true 122 [(.one (.int true .i64 0)), (.one (.val (.slice .none 0 0))), (.one (.int true .i64 2048)), (.one (.int true .i64 2048)), (.one (.int true .i64 0)), (.one (.ptr 47 0 0 true 0)), (.one (.ptr 48 0 0 true 0))]),
 (.cells true 238 [(.one (.val (.slice .none 0 0)))]),
 (.cells true 238 [(.one (.val (.slice .none 0 0)))]),
 (.cells true 140 [(.one (.int true .i64 2048)), (.one (.int true .i64 0)), (.one (.val (.slice .none 0 0))), (.one (.ptr 50 0 0 true 0))]),
 (.cells true 238 [(.one (.val (.slice .none 0 0)))]),
 (.cells true 145 [(.lst true .pth 256 ([(.mk 2 100 0 0 [0, 0, 0, 0, 0, 0, 0, 0])] ++ List.replicate 255 (.mk 0 0 0 0 [0, 0, 0, 0, 0, 0, 0, 0])))]),
 (.cells true 148 [(.one (.int false .i64 (p))), (.one (.int true .i64 (-1))), (.one (.map 53))]),
 (.lmap [(0, (.ptr 54 0 0 true 0))]),
 (.cells true 212 [(.one (.int true .i64 4)), (.one (.int true .i64 0)), (.one (.val (.slice .none 0 0)))]),
 (.lmap [])] ++ tl
noncomputable def rcB (l : List Rec) : Blk := .cells true 221 [.lst true .rcd l.length l]
def obNx (k : Nat) (xs : List Int) (j : Nat) : List Prop :=
 [0 ≤ (128 * j : Int) ∧ (128 * j : Int) ≤ xs.length ∧ xs.length ≤ 2048, decide ((128 * j : Int) ≥ (xs.length : Int)) = false, decide ((xs.length : Int) - (128 * j : Int) ≤ 128) = Nat.beq (j + 1) k,
  0 ≤ (128 * j : Int) ∧ (128 * j : Int) < 16384 ∧ 1 ≤ (pieceAt xs (128 * j : Int)).length ∧ (pieceAt xs (128 * j : Int)).length ≤ 128,
  ((0 : Int) = 0 ∨ (0 : Int) = 1) ∧ (encF (128 * j : Int) (pieceAt xs (128 * j : Int))).length ≤ 256 ∧ 0 ≤ (j : Int) ∧ (j : Int) ≤ 281474976710655,
  IntKind.i64.wrap ((128 * j : Int) + (pieceAt xs (128 * j : Int)).length) = (128 * j : Int) + (pieceAt xs (128 * j : Int)).length] ++
  (match Nat.ble 2 j with | true => [((j + 1 : Nat) : Int) = ((j + 1 : Nat) : Int)] | false => [])
def obLn (U xs : List Int) (j : Nat) : List Prop := [decide (((recOf U xs j).length : Int) > 0) = true]
def obPo (k : Nat) (U xs : List Int) : List Prop := (List.range k).flatMap (obNx k xs) ++ ([0 ≤ (xs.length : Int) ∧ (xs.length : Int) ≤ xs.length ∧ xs.length ≤ 2048, decide ((xs.length : Int) ≥ xs.length) = true] ++ (List.range k).flatMap (obLn U xs))
def rcs (xs : List Int) (k : Nat) : List Rec := (List.range k).map fun (j : Nat) => ⟨(j : Int), 0, [⟨128 * (j : Int), 128 * (j : Int) + (pieceAt xs (128 * (j : Int))).length⟩]⟩
def wys (U xs : List Int) (k : Nat) : List Way := (List.range k).map fun j => ⟨1, recOf U xs j⟩
theorem po1 (p : Int) (S U xs : List Int) : Goes (callRun tc ((env ((99, F99) :: (kPo ++ kPin p S U xs))).fn 20) Tryz.f11 1000 [.ptr 13 0 0 true 0, evP 0] (wldP p S U xs)) [.f, .t, .a, .t, .a, .t] (obPo 1 U xs)
  ⟨.agg [.int true .i64 0, .int true .i64 1, .val (.slice none 0 0)], wldG p S U xs (.slc true 56 0 0 1 none) [(0, .int true .i64 1)] (.int false .i64 xs.length) (.int true .i64 0) (.int true .i64 1) (.vec 57) [wayB (wys U xs 1), rcB (rcs xs 1)]⟩ := by
 unfold Goes
 kernel_rfl
theorem po2 (p : Int) (S U xs : List Int) : Goes (callRun tc ((env ((99, F99) :: (kPo ++ kPin p S U xs))).fn 20) Tryz.f11 1000 [.ptr 13 0 0 true 0, evP 0] (wldP p S U xs)) [.f, .f, .a, .f, .t, .a, .t, .a, .t, .a, .t] (obPo 2 U xs)
  ⟨.agg [.int true .i64 0, .int true .i64 2, .val (.slice none 0 0)], wldG p S U xs (.vec 57) [(0, .int false .i64 2)] (.int false .i64 xs.length) (.int true .i64 0) (.int true .i64 2) (.vec 58) [.dead, wayB (wys U xs 2), rcB (rcs xs 2)]⟩ := by
 unfold Goes
 kernel_rfl
theorem po3 (p : Int) (S U xs : List Int) : Goes (callRun tc ((env ((99, F99) :: (kPo ++ kPin p S U xs))).fn 20) Tryz.f11 1000 [.ptr 13 0 0 true 0, evP 0] (wldP p S U xs)) [.f, .f, .a, .f, .f, .a, .f, .t, .a, .a, .a, .t, .a, .t, .a, .t, .a, .t] (obPo 3 U xs)
  ⟨.agg [.int true .i64 0, .int true .i64 3, .val (.slice none 0 0)], wldG p S U xs (.vec 57) [(0, .int false .i64 3)] (.int false .i64 xs.length) (.int true .i64 0) (.int false .i64 3) (.vec 58) [.dead, wayB (wys U xs 3), rcB (rcs xs 3)]⟩ := by
 unfold Goes
 kernel_rfl
theorem po4 (p : Int) (S U xs : List Int) : Goes (callRun tc ((env ((99, F99) :: (kPo ++ kPin p S U xs))).fn 20) Tryz.f11 1000 [.ptr 13 0 0 true 0, evP 0] (wldP p S U xs)) [.f, .f, .a, .f, .f, .a, .f, .f, .a, .a, .a, .f, .t, .a, .a, .a, .t, .a, .t, .a, .t, .a, .t, .a, .t] (obPo 4 U xs)
  ⟨.agg [.int true .i64 0, .int true .i64 4, .val (.slice none 0 0)], wldG p S U xs (.vec 57) [(0, .int false .i64 4)] (.int false .i64 xs.length) (.int true .i64 0) (.int false .i64 4) (.vec 58) [.dead, wayB (wys U xs 4), rcB (rcs xs 4)]⟩ := by
 unfold Goes
 kernel_rfl
theorem po0 (p : Int) (S U xs : List Int) : Goes (callRun tc ((env ((99, F99) :: (kPo ++ kPin p S U xs))).fn 20) Tryz.f11 1000 [.ptr 13 0 0 true 0, evP 0] (wldP p S U xs)) [.t] [0 ≤ (0 : Int) ∧ 0 ≤ (xs.length : Int) ∧ xs.length ≤ 2048, decide ((0 : Int) ≥ (xs.length : Int)) = true]
  ⟨.agg [.int true .i64 0, .int true .i64 0, .val (.slice none 0 0)], wldP p S U xs⟩ := by
 unfold Goes
 kernel_rfl
theorem kPoll_ok {p : Int} {S U xs : List Int} (h : xs.length ≤ 2048) : ConsOk ((99, F99) :: (kPo ++ kPin p S U xs)) := cons_ok f99_ok (Or.inl (by decide)) (kPin_ok h)
theorem obNx_ok {k j : Nat} {xs : List Int} (hk : k ≤ 4) (hj : j < k) (h1 : 128 * (k - 1) < xs.length) (h2 : xs.length ≤ 128 * k) : Conj (obNx k xs j) := by
 have hp := pieceAt_length (xs := xs) (s := 128 * (j : Int)) (by omega) (by omega)
 have he := encF_len (n := 128 * (j : Int)) (ds := pieceAt xs (128 * (j : Int))) (by omega)
 refine Conj.app ⟨⟨by omega, by omega, by omega⟩, decide_eq_false (by omega), ?_, ⟨by omega, by omega, by omega, by omega⟩, ⟨Or.inl rfl, he, by omega, by omega⟩, I64.wrap ⟨by omega, by omega⟩, trivial⟩ ?_
 ·by_cases h : j + 1 = k
  ·rw [h, Nat.beq_refl]
   exact decide_eq_true (by omega)
  ·have : Nat.beq (j + 1) k = false := by
    cases hb : Nat.beq (j + 1) k with
    | false => rfl
    | true => exact absurd (Nat.eq_of_beq_eq_true hb) h
   rw [this]
   exact decide_eq_false (by omega)
 ·split
  ·exact ⟨rfl, trivial⟩
  ·trivial
theorem Conj.flat {f : Nat → List Prop} : ∀ (l : List Nat), (∀ j ∈ l, Conj (f j)) → Conj (l.flatMap f)
 | [], _ => trivial
 | j :: l, h => Conj.app (h j (by simp)) (Conj.flat l fun i hi => h i (by simp [hi]))
theorem recOf_pos (U xs : List Int) (j : Nat) : ((recOf U xs j).length : Int) > 0 := by
 unfold recOf recL headL
 simp
 omega
theorem obPo_ok {k : Nat} {U xs : List Int} (hk : k ≤ 4) (h1 : 128 * (k - 1) < xs.length) (h2 : xs.length ≤ 128 * k) : Conj (obPo k U xs) :=
 Conj.app (Conj.flat _ fun j hj => obNx_ok hk (List.mem_range.1 hj) h1 h2) (Conj.app ⟨⟨by omega, by omega, by omega⟩, decide_eq_true (by omega), trivial⟩ (Conj.flat _ fun j _ => ⟨decide_eq_true (recOf_pos U xs j), trivial⟩))
end
end Go.Proofs.YtiojkpgcmhlhnaaGreatDoor.Ty
