/-
  shown holds, the ends are open: TopTurned answers true.
-/
import Derived.Test.YtiojkpgcmhlhnaaGreatDoorTkP
import Derived.Test.YtiojkpgcmhlhnaaGreatDoorTkQ
import Derived.Test.YtiojkpgcmhlhnaaGreatDoorTkR
import Derived.Test.YtiojkpgcmhlhnaaGreatDoorTkK
import Derived.Test.YtiojkpgcmhlhnaaGreatDoorTkN
namespace Go.Proofs.YtiojkpgcmhlhnaaGreatDoor.Ty
open Go
set_option maxRecDepth 100000
set_option linter.unusedSimpArgs false
set_option linter.unusedVariables false
section
def selO (args : List A) (mem : List Blk) : Nat :=
 match args with
 | [_, .agg (.int _ _ kind :: _)] => match Nat.beq kind.toNat 4 with
  | true => match Nat.beq mem.length 25 with
   | true => 0
   | false => 2
  | false => match Nat.beq mem.length 27 with
   | true => 1
   | false => 3
 | _ => 100
noncomputable def pinsO (l : List Stp) : Spec := fun args mem => match l[selO args mem]? with
 | some s => pin s.a s.m s.r args mem
 | none => .fail
theorem pinsO_ok {l : List Stp} {f : FuncId} (h : ∀ s ∈ l, Con Tryz.prog gl f s.a s.m s.r) : FnOk Tryz.prog gl f (pinsO l) := by
 intro args mem r hr
 unfold pinsO at hr
 split at hr
 case h_2 => exact hr.elim
 rename_i s hs
 exact pin_ok (h s (List.mem_of_getElem? hs)) args mem r hr
noncomputable abbrev stO (p : Int) : List Stp := [⟨[wp, evt 4 0 0 9 0 nl], M_E02 p, ⟨V_E03 p, M_E03 p⟩⟩, ⟨[wp, evt 5 0 0 0 0 nl], M_C03 p, ⟨V_E04 p, M_E04 p⟩⟩, ⟨[wp, evt 4 1 0 9 0 nl], M_C04 p, ⟨V_E05 p, M_E05 p⟩⟩, ⟨[wp, evt 5 0 0 0 0 nl], M_C05 p, ⟨V_E06 p, M_E06 p⟩⟩]
noncomputable abbrev kOd (p : Int) : Cons := [(67, F67), (8, pin [V_E00 p, V_E01 p] [] ⟨V_E02 p, M_E02 p⟩), (11, pinsO (stO p))]
theorem kOd_ok (p : Int) : ConsOk (kOd p) := by
 refine cons_ok f67_ok (Or.inr f67_still) (cons_ok (pin_ok (con_goes kOp_ok Tryz.func8 100000 (ev2 p) trivial)) (Or.inl (by decide)) (cons_ok (pinsO_ok fun s hs => ?_) (Or.inl (by decide)) cNil))
 simp only [List.mem_cons, List.not_mem_nil, or_false] at hs
 rcases hs with rfl | rfl | rfl | rfl
 ·exact con_goes kOp_ok Tryz.func11 100000 (ev3 p) trivial
 ·exact con_goes kOp_ok Tryz.func11 100000 (ev4 p) ps4_ok
 ·exact con_goes kOp_ok Tryz.func11 100000 (ev5 p) trivial
 ·exact con_goes kOp_ok Tryz.func11 100000 (ev6 p) ps6_ok
noncomputable def keyT (S : List Int) : Blk := .cells true 270 [.one (.int true .i64 0), .one (.int true .i64 0), .row true false .u8 32 S, .row true true .u8 32 z32]
noncomputable def wld0T (p : Int) : List Blk := ((((wld0 p lit6 lit7 (outB (.val (.slice none 0 0)))).set 6 (keyT lit7)).set 7 (keyT lit6)).set 27 (keyT lit6)).set 28 (keyT lit7)
theorem opd (p : Int) : Goes (callRun tc ((env (kOd p)).fn 20) Tryz.f23 1000 [.int false .i64 p] []) [] [] ⟨.ptr 13 0 0 true 0, wld0T p⟩ := by
 unfold Goes
 kernel_rfl
theorem opened_con (p : Int) : Con Tryz.prog gl 23 [.int false .i64 p] [] ⟨.ptr 13 0 0 true 0, wld0 p lit6 lit7 (outB (.val (.slice none 0 0)))⟩ := con_to (con_goes (kOd_ok p) Tryz.func23 1000 (opd p) trivial)
end
section
def helloL : List Int := [104, 101, 108, 108, 111]
noncomputable def heB : Blk := .cells true 5 [.row true true .u8 5 helloL]
def rd9_ps (p : Int) (k : Int) (nx : Int) (e : Int) (S : List Int) (U : List Int) (xs : List Int) (ws : List Int) (bs : List Int) (rc : List Rec) : List Prop := let v3 := (0 : Int); let v1 := (e - v3); let v2 := (1 : Nat); let v4 := (List.length bs); let v5 := (Int.fdiv (IntKind.wrap IntKind.u64 (v3 + (↑v2 : Int))) (2 : Int)); let v6 := (Int.toNat v1 - (0 : Nat)); let v7 := (140737488355328 : Nat); [IntKind.wrap IntKind.i64 (v3 + (↑v2 : Int)) = v3 + (↑v2 : Int), v3 ≤ (1 : Int), v3 ≤ IntKind.wrap IntKind.i64 v5 ∧ IntKind.wrap IntKind.i64 v5 < (↑v2 : Int), decide (e > v3) = true, v3 ≤ v3 ∧ v3 < (↑v2 : Int), v3 ≤ v3 ∧ v3 < (↑v2 : Int), IntKind.wrap IntKind.i64 v1 = e - v3, decide ((9 : Int) < e - v3) = false, v3 ≤ v3 ∧ v3 ≤ v1 ∧ v1 ≤ v1 ∧ v1 ≤ (↑v4 : Int), (0 : Nat) + v6 ≤ List.length bs, Int.toNat v1 - (0 : Nat) ≤ v7, v3 ≤ v1 ∧ v1 ≤ (↑v4 : Int) ∧ (↑v4 : Int) ≤ (↑v4 : Int) ∧ (↑v4 : Int) ≤ (↑v4 : Int), Int.toNat v1 + (Int.toNat (↑v4 : Int) - Int.toNat v1) ≤ List.length bs, Int.toNat (↑v4 : Int) - Int.toNat v1 ≤ v7, IntKind.wrap IntKind.i64 (v3 + v1) = v3 + v1, decide ((↑v6 : Int) > v3) = true]
theorem rd9 (p k nx e : Int) (S U xs ws bs : List Int) (rc : List Rec) : Goes (callRun tc ((env kE).fn 20) Tryz.f11 1000 [.ptr 13 0 0 true 0, evR 9] (wldW p k S U xs rc ws nx 0 bs [⟨0, e⟩] 0 [⟨0, []⟩])) [.a, .a, .a, .t, .a, .a, .a, .a, .a, .f, .t] (rd9_ps p k nx e S U xs ws bs rc)
  ⟨.agg [.int true .i64 0, .int false .i64 ((Int.toNat (e - 0) - 0 : Nat) : Int), .vec 61], rdM p k S U xs rc ws nx bs e (0 + (e - 0)) ++ [.cells true 5 [.row false false .u8 (Int.toNat (e - 0) - 0) (rdB e bs)], .cells true 5 [.row false false .u8 (Int.toNat (bs.length : Int) - Int.toNat (e - 0)) (rdC e bs)]]⟩ := by
 unfold Goes
 kernel_rfl
theorem rd9_ob {p k nx : Int} {S U xs ws bs : List Int} {rc : List Rec} (h0 : 1 ≤ bs.length) (h1 : bs.length ≤ 9) : Conj (rd9_ps p k nx bs.length S U xs ws bs rc) := by
 unfold rd9_ps
 refine ⟨?_, ?_, ?_, ?_, ?_, ?_, ?_, ?_, ?_, ?_, ?_, ?_, ?_, ?_, ?_, ?_, trivial⟩
 all_goals try dsimp only
 all_goals first
  | decide
  | omega
  | exact decide_eq_true (by omega)
  | exact decide_eq_false (by omega)
  | exact I64.wrap ⟨by omega, by omega⟩
theorem rd9_con {p k nx : Int} {S U xs ws bs : List Int} {rc : List Rec} (h0 : 1 ≤ bs.length) (h1 : bs.length ≤ 9) : Con Tryz.prog gl 11 [.ptr 13 0 0 true 0, evR 9] (wldW p k S U xs rc ws nx 0 bs [⟨0, bs.length⟩] 0 [⟨0, []⟩])
  ⟨.agg [.int true .i64 0, .int false .i64 bs.length, .vec 61], rdM p k S U xs rc ws nx bs bs.length bs.length ++ [byB bs, byB []]⟩ := by
 have con := con_goes cE Tryz.func11 1000 (rd9 p k nx bs.length S U xs ws bs rc) (rd9_ob h0 h1)
 have e1 : rdB bs.length bs = bs := by
  unfold rdB
  rw [subL_eq rfl, List.drop_zero, List.take_of_length_le (by omega)]
 have e2 : rdC bs.length bs = [] := by
  unfold rdC
  rw [subL_eq rfl, List.drop_eq_nil_of_le (by omega), List.take_nil]
 rw [e1, e2, show (Int.toNat ((bs.length : Int) - 0) - 0 : Nat) = bs.length by omega, show (Int.toNat (bs.length : Int) - Int.toNat ((bs.length : Int) - 0) : Nat) = ([] : List Int).length by simp, show (0 : Int) + ((bs.length : Int) - 0) = bs.length by omega] at con
 exact con_to con
theorem wrh (p : Int) (S U : List Int) : Goes (callRun tc ((env kE).fn 20) Tryz.f11 1000 [.ptr 13 0 0 true 0, evW (.vec 56)] (wld0 p S U (outB (.val (.slice none 0 0))) ++ [heB])) [] [] ⟨.agg [.int true .i64 0, .int true .i64 5, .val (.slice none 0 0)], wld0 p S U (outB (.vec 57)) ++ [heB, heB]⟩ := by
 unfold Goes
 kernel_rfl
noncomputable def sWh (p : Int) (S U : List Int) : Stp := ⟨[.ptr 13 0 0 true 0, evW (.vec 56)], wld0 p S U (outB (.val (.slice none 0 0))) ++ [heB], ⟨.agg [.int true .i64 0, .int true .i64 5, .val (.slice none 0 0)], wld0 p S U (outB (.vec 57)) ++ [heB, heB]⟩⟩
noncomputable def sR9 (p : Int) (S U xs : List Int) (k : Nat) (ws : List Int) (nx : Int) : Stp :=
 ⟨[.ptr 13 0 0 true 0, evR 9], wldW p k S U xs (rcs xs k) ws nx 0 xs [⟨0, xs.length⟩] 0 [⟨0, []⟩], ⟨.agg [.int true .i64 0, .int false .i64 xs.length, .vec 61], rdM p k S U xs (rcs xs k) ws nx xs xs.length xs.length ++ [byB xs, byB []]⟩⟩
noncomputable abbrev stH (p nx1 : Int) (S U ws1 : List Int) (l0 : List Way) : List Stp := [sWh p S U, sPo p S U helloL 1 l0, sR9 p S U helloL 1 ws1 nx1, sWh p S U, sD1 p S U helloL 1 0 nx1 ws1 helloL [⟨0, helloL.length⟩] l0 [⟨0, []⟩]]
noncomputable abbrev kSh (p : Int) (S U : List Int) (st : List Stp) : Cons := [(23, pin [.int true .i64 0] [] ⟨.ptr 13 0 0 true 0, wld0 p S U (outB (.val (.slice none 0 0)))⟩), (11, pinsT st)]
theorem shn (nx1 : Int) (S U ws1 : List Int) (l0 : List Way) : Goes (callRun tc ((env (kSh 0 S U (stH 0 nx1 S U ws1 l0))).fn 20) Tryz.f7 1000 [] []) [] [] ⟨.bool true true, []⟩ := by
 unfold Goes
 kernel_rfl
theorem shown_con : Con Tryz.prog gl 7 [] [] ⟨.bool true true, []⟩ := by
 obtain ⟨m1, rem1, b1, e1, I1, c1⟩ := chain1 (p := 0) (n := 0) (S := lit6) (U := lit7) (xs := helloL) (show 1 ≤ 4 by decide) (show 0 < 1 by decide) (by decide) (show ∀ x ∈ helloL, 0 ≤ x ∧ x < 256 by decide) (by decide) (by decide)
 obtain rfl := nil_of (show rem1.length = 0 by omega)
 obtain ⟨eb, er⟩ := I1.fin (by decide) (by decide) (by decide) (by decide)
 rw [er, eb] at c1
 refine con_goes (cons_ok (pin_ok (con_to (opened_con 0))) (Or.inl (by decide)) (cons_ok (pinsT_ok (fun s hs => ?_)) (Or.inl (by decide)) cNil)) Tryz.func7 1000 (shn (nxM m1) lit6 lit7 (wsM m1) (wys lit7 helloL 1)) trivial
 simp only [List.mem_cons, List.not_mem_nil, or_false] at hs
 rcases hs with rfl | rfl | rfl | rfl | rfl
 ·exact con_goes cE Tryz.func11 1000 (wrh 0 lit6 lit7) trivial
 ·exact sPo1_ok (by decide) (by decide)
 ·exact rd9_con (by decide) (by decide)
 ·exact con_goes cE Tryz.func11 1000 (wrh 0 lit6 lit7) trivial
 ·exact c1
theorem turned_con {p : Int} {xs os : List Int} (hx : Byts xs) : Con Tryz.prog gl 6 [.int false .i64 p, .fzi false .u8 xs, .fzi false .i64 os] [] ⟨.bool true true, []⟩ := top_all shown_con (opened_con p) (by decide) hx
end
end Go.Proofs.YtiojkpgcmhlhnaaGreatDoor.Ty
