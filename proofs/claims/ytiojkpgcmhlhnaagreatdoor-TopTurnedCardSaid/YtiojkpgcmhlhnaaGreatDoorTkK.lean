/-
  world.Do of a Read.
-/
import Derived.Test.YtiojkpgcmhlhnaaGreatDoorTkH
import Derived.Test.YtiojkpgcmhlhnaaGreatDoorTkJ
namespace Go.Proofs.YtiojkpgcmhlhnaaGreatDoor.Ty
open Go
set_option maxRecDepth 100000
set_option linter.unusedSimpArgs false
set_option linter.unusedVariables false
section
noncomputable def evR (n : Int) : A := .agg [.int true .i64 2, .int true .i64 1, .int true .i64 0, .int true .i64 n, .int true .i64 0, .val (.slice none 0 0)]
noncomputable def setOne (b : Blk) (i : Nat) (a : A) : Blk := match b with
 | .cells o t ps => .cells o t (ps.set i (.one a))
 | b => b
noncomputable def setAt (m : List Blk) (j i : Nat) (a : A) : List Blk := m.set j (setOne (m.getD j .dead) i a)
def rd_ps (p : Int) (k : Int) (nx : Int) (e : Int) (S : List Int) (U : List Int) (xs : List Int) (ws : List Int) (bs : List Int) (rc : List Rec) : List Prop := let v3 := (0 : Int); let v1 := (e - v3); let v2 := (1 : Nat); let v4 := (List.length bs); let v5 := (Int.fdiv (IntKind.wrap IntKind.u64 (v3 + (↑v2 : Int))) (2 : Int)); let v6 := (Int.toNat v1 - (0 : Nat)); let v7 := (140737488355328 : Nat); [IntKind.wrap IntKind.i64 (v3 + (↑v2 : Int)) = v3 + (↑v2 : Int), v3 ≤ (1 : Int), v3 ≤ IntKind.wrap IntKind.i64 v5 ∧ IntKind.wrap IntKind.i64 v5 < (↑v2 : Int), decide (e > v3) = true, v3 ≤ v3 ∧ v3 < (↑v2 : Int), v3 ≤ v3 ∧ v3 < (↑v2 : Int), IntKind.wrap IntKind.i64 v1 = e - v3, decide ((4096 : Int) < e - v3) = false, v3 ≤ v3 ∧ v3 ≤ v1 ∧ v1 ≤ v1 ∧ v1 ≤ (↑v4 : Int), (0 : Nat) + v6 ≤ List.length bs, Int.toNat v1 - (0 : Nat) ≤ v7, v3 ≤ v1 ∧ v1 ≤ (↑v4 : Int) ∧ (↑v4 : Int) ≤ (↑v4 : Int) ∧ (↑v4 : Int) ≤ (↑v4 : Int), Int.toNat v1 + (Int.toNat (↑v4 : Int) - Int.toNat v1) ≤ List.length bs, Int.toNat (↑v4 : Int) - Int.toNat v1 ≤ v7, IntKind.wrap IntKind.i64 (v3 + v1) = v3 + v1, decide ((↑v6 : Int) > v3) = true]
def rdB (e : Int) (bs : List Int) : List Int := subL false 0 (Int.toNat (e - 0) - 0) bs.length bs
def rdC (e : Int) (bs : List Int) : List Int := subL false (Int.toNat (e - 0)) (Int.toNat (bs.length : Int) - Int.toNat (e - 0)) bs.length bs
noncomputable def rdM (p k : Int) (S U xs : List Int) (rc : List Rec) (ws : List Int) (nx : Int) (bs : List Int) (e d : Int) : List Blk :=
 setAt (setAt (setAt (wldW p k S U xs rc ws nx 0 bs [⟨0, e⟩] 0 [⟨0, []⟩]) 23 20 (.bool true true)) 38 1 (.int false .i64 d)) 38 2 (.vec 62)
theorem rd (p k nx e : Int) (S U xs ws bs : List Int) (rc : List Rec) : Goes (callRun tc ((env kE).fn 20) Tryz.f11 1000 [.ptr 13 0 0 true 0, evR 4096] (wldW p k S U xs rc ws nx 0 bs [⟨0, e⟩] 0 [⟨0, []⟩])) [.a, .a, .a, .t, .a, .a, .a, .a, .a, .f, .t] (rd_ps p k nx e S U xs ws bs rc)
  ⟨.agg [.int true .i64 0, .int false .i64 ((Int.toNat (e - 0) - 0 : Nat) : Int), .vec 61], rdM p k S U xs rc ws nx bs e (0 + (e - 0)) ++ [.cells true 5 [.row false false .u8 (Int.toNat (e - 0) - 0) (rdB e bs)], .cells true 5 [.row false false .u8 (Int.toNat (bs.length : Int) - Int.toNat (e - 0)) (rdC e bs)]]⟩ := by
 unfold Goes
 kernel_rfl
theorem rd_ob {p k nx : Int} {S U xs ws bs : List Int} {rc : List Rec} (h0 : 1 ≤ bs.length) (h1 : bs.length ≤ 2048) : Conj (rd_ps p k nx bs.length S U xs ws bs rc) := by
 unfold rd_ps
 refine ⟨?_, ?_, ?_, ?_, ?_, ?_, ?_, ?_, ?_, ?_, ?_, ?_, ?_, ?_, ?_, ?_, trivial⟩
 all_goals try dsimp only
 all_goals first
  | decide
  | omega
  | exact decide_eq_true (by omega)
  | exact decide_eq_false (by omega)
  | exact I64.wrap ⟨by omega, by omega⟩
theorem rd_con {p k nx : Int} {S U xs ws bs : List Int} {rc : List Rec} (h0 : 1 ≤ bs.length) (h1 : bs.length ≤ 2048) : Con Tryz.prog gl 11 [.ptr 13 0 0 true 0, evR 4096] (wldW p k S U xs rc ws nx 0 bs [⟨0, bs.length⟩] 0 [⟨0, []⟩])
  ⟨.agg [.int true .i64 0, .int false .i64 bs.length, .vec 61], rdM p k S U xs rc ws nx bs bs.length bs.length ++ [byB bs, byB []]⟩ := by
 have con := con_goes cE Tryz.func11 1000 (rd p k nx bs.length S U xs ws bs rc) (rd_ob h0 h1)
 have e1 : rdB bs.length bs = bs := by
  unfold rdB
  rw [subL_eq rfl, List.drop_zero, List.take_of_length_le (by omega)]
 have e2 : rdC bs.length bs = [] := by
  unfold rdC
  rw [subL_eq rfl, List.drop_eq_nil_of_le (by omega), List.take_nil]
 rw [e1, e2, show (Int.toNat ((bs.length : Int) - 0) - 0 : Nat) = bs.length by omega, show (Int.toNat (bs.length : Int) - Int.toNat ((bs.length : Int) - 0) : Nat) = ([] : List Int).length by simp, show (0 : Int) + ((bs.length : Int) - 0) = bs.length by omega] at con
 exact con_to con
end
section
def selT (args : List A) (mem : List Blk) : Nat :=
 match args, mem with
 | [_, .agg (.int _ _ kind :: _)], .cells _ _ [_, _, .one hd] :: _ =>
  match Nat.beq kind.toNat 1 with
  | true => 0
  | false => match Nat.beq kind.toNat 4 with
   | true => 1
   | false => match Nat.beq kind.toNat 2 with
    | true => 2
    | false => match hd with
     | .slc _ _ _ _ n _ => 3 + n
     | _ => 3
 | _, _ => 100
structure Stp where
 a : List A
 m : List Blk
 r : Res
noncomputable def pinsT (l : List Stp) : Spec := fun args mem => match l[selT args mem]? with
 | some s => pin s.a s.m s.r args mem
 | none => .fail
theorem pinsT_ok {l : List Stp} {f : FuncId} (h : ∀ s ∈ l, Con Tryz.prog gl f s.a s.m s.r) : FnOk Tryz.prog gl f (pinsT l) := by
 intro args mem r hr
 unfold pinsT at hr
 split at hr
 case h_2 => exact hr.elim
 rename_i s hs
 exact pin_ok (h s (List.mem_of_getElem? hs)) args mem r hr
noncomputable def wayN (n : Nat) (l : List Way) : Blk := .cells true 125 [.lst true .way n l]
noncomputable abbrev A0 (k : Int) : A := .agg [.int true .i64 0, .int true .i64 k, .val (.slice none 0 0)]
noncomputable def sWr (p : Int) (S U xs : List Int) : Stp := ⟨[.ptr 13 0 0 true 0, evW (.fzi false .u8 xs)], wld0 p S U (outB (.val (.slice none 0 0))), ⟨.agg [.int true .i64 0, .int false .i64 xs.length, .val (.slice none 0 0)], wld0 p S U (outB (.vec 56)) ++ [byB xs]⟩⟩
noncomputable def sPo (p : Int) (S U xs : List Int) (k : Nat) (l : List Way) : Stp := ⟨[.ptr 13 0 0 true 0, evP 0], wldP p S U xs, ⟨A0 k, match k with
 | 0 => wldP p S U xs
 | 1 => wldG p S U xs (.slc true 56 0 0 1 none) [(0, .int true .i64 1)] (.int false .i64 xs.length) (.int true .i64 0) (.int true .i64 1) (.vec 57) [wayN 1 l, rcB (rcs xs 1)]
 | k => wldG p S U xs (.vec 57) [(0, .int false .i64 k)] (.int false .i64 xs.length) (.int true .i64 0) (.int false .i64 k) (.vec 58) [.dead, wayN k l, rcB (rcs xs k)]⟩⟩
noncomputable def sD1 (p : Int) (S U xs : List Int) (k : Nat) (n nx : Int) (ws bs : List Int) (rs : List Rng) (l l' : List Way) : Stp :=
 ⟨[.ptr 13 0 0 true 0, evD n], wldB (hdN k) :: (end0 p k S U xs (rcs xs k) ++ (end1N p S U [] (ib0' 51) (rH (.val (.slice none 0 0))) [] ++ [wayN k l])),
  ⟨dlvA, wldB (.slc true 58 0 0 (k - 1) none) :: (end0 p k S U xs (rcs xs k) ++ (end1N p S U [(0, .ptr 59 0 0 true 0)] (iBk 0 (.vec 60) 51) (rH (.vec 61)) owD ++ [wayN k l, wayN k l', winB ws nx, byB bs, rBf rs]))⟩⟩
noncomputable def sDn (p : Int) (S U xs : List Int) (k m : Nat) (n nx nx' : Int) (ws ws' bs bs' : List Int) (rs rs' : List Rng) (l l' : List Way) : Stp :=
 ⟨[.ptr 13 0 0 true 0, evD n], wldB (.slc true 60 0 0 m none) :: (end0 p k S U xs (rcs xs k) ++ (end1W p S U (winB ws nx) (iBk 0 (.vec 52) 53) (byB bs) (rH (.vec 54)) (rBf rs) owD ++ [wayN (m + 1) l])),
  ⟨dlvA, wldB (.slc true 61 0 0 (m - 1) none) :: (end0 p k S U xs (rcs xs k) ++ (end1W p S U (winB ws' nx') (iBk 0 (.vec 62) 53) .dead (rH (.vec 63)) .dead owD ++ [wayN (m + 1) l, wayN m l', byB bs', rBf rs']))⟩⟩
noncomputable def sRd (p : Int) (S U xs : List Int) (k : Nat) (ws : List Int) (nx : Int) : Stp :=
 ⟨[.ptr 13 0 0 true 0, evR 4096], wldW p k S U xs (rcs xs k) ws nx 0 xs [⟨0, xs.length⟩] 0 [⟨0, []⟩], ⟨.agg [.int true .i64 0, .int false .i64 xs.length, .vec 61], rdM p k S U xs (rcs xs k) ws nx xs xs.length xs.length ++ [byB xs, byB []]⟩⟩
noncomputable def sR0 (p : Int) (S U xs : List Int) : Stp := ⟨[.ptr 13 0 0 true 0, evR 4096], wldP p S U xs, ⟨A0 0, wldP p S U xs⟩⟩
theorem rd0 (p : Int) (S U xs : List Int) : Goes (callRun tc ((env kE).fn 20) Tryz.f11 1000 [.ptr 13 0 0 true 0, evR 4096] (wldP p S U xs)) [] [] ⟨A0 0, wldP p S U xs⟩ := by
 unfold Goes
 kernel_rfl
noncomputable abbrev kB (p : Int) (S U : List Int) (st : List Stp) : Cons := [(7, pin [] [] ⟨.bool true true, []⟩), (23, pin [.int false .i64 p] [] ⟨.ptr 13 0 0 true 0, wld0 p S U (outB (.val (.slice none 0 0)))⟩), (11, pinsT st)]
end
end Go.Proofs.YtiojkpgcmhlhnaaGreatDoor.Ty
