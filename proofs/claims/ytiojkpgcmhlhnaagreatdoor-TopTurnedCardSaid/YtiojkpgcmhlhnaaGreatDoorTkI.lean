/-
  Poll: the loops over the paths; outbox.Next.
-/
import Derived.Test.YtiojkpgcmhlhnaaGreatDoorTkH
namespace Go.Proofs.YtiojkpgcmhlhnaaGreatDoor.Ty
open Go
set_option maxRecDepth 100000
set_option linter.unusedSimpArgs false
set_option linter.unusedVariables false
section
noncomputable def pthB : Blk := .cells true 145 [(.lst true .pth 256 ([(.mk 2 100 0 0 [0, 0, 0, 0, 0, 0, 0, 0])] ++ List.replicate 255 (.mk 0 0 0 0 [0, 0, 0, 0, 0, 0, 0, 0])))]
theorem due_run : Goes (callRun tc ((env []).fn 20) Tryz.f91 1000 [.ptr 13 0 0 true 0, .int true .i64 0] [pthB]) [] [] ⟨.val (.slice none 0 0), [pthB]⟩ := by
 unfold Goes
 kernel_rfl
noncomputable def con0 (p : Int) (S U xs : List Int) : List Blk := [(.cells true 89 [(.one (.int true .i64 0)), (.row true true .u8 32 ([1] ++ List.replicate 31 0)), (.row true true .u8 32 lit0), (.row true true .u8 32 ([3] ++ List.replicate 31 0)), (.one (.int false .i64 (p))), (.one (.int true .i64 2)), (.one (.int true .i64 0)), (.one (.int true .i64 0)), (.one (.ptr 14 0 0 true 0)), (.one (.vec 16)), (.one (.val (.slice .none 0 0))), (.one (.int true .i64 200)), (.one (.int true .i64 0)), (.one (.bool true false)), (.one (.ptr 17 0 0 true 0)), (.one (.ptr 23 0 0 true 0)), (.one (.ptr 27 0 0 true 0)), (.one (.ptr 29 0 0 true 0)), (.one (.ptr 30 0 0 true 0)), (.one (.bool true true)), (.one (.bool true false)), (.one (.map 33))]),
 (.cells true 136 [(.one (.bool true true)), (.one (.int true .i64 2)), (.row true true .u8 32 ([1] ++ List.replicate 31 0)), (.row true true .u8 32 ([3] ++ List.replicate 31 0)), (.row true true .u8 32 lit0), (.row true true .u8 32 (List.replicate 32 0)), (.one (.ptr 15 0 0 true 0))]),
 (.cells true 235 [(.row true false .u8 32 lit1), (.row true false .u8 32 lit2), (.row true false .u8 32 lit3), (.one (.bool true true)), (.one (.int true .u64 1))]),
 (.cells true 5 [(.row true true .u8 96 lit4)]),
 (.cells true 189 [(.one (.int true .i64 0)), (.one (.ptr 18 0 0 true 0)), (.one (.ptr 19 0 0 true 0)), (.one (.map 20)), (.one (.map 21)), (.one (.map 22))]),
 keyB U z32,
 keyB S z32,
 (.lmap []),
 (.lmap []),
 (.lmap []),
 (.cells true 122 [.one (.int true .i64 0), .one (.vec 24), .one (.int true .i64 2048), .one (.int true .i64 2048), .one (.int true .i64 0), .one (.ptr 25 0 0 true 0), .one (.ptr 26 0 0 true 0)]),
 byB xs,
 (.cells true 238 [(.one (.val (.slice .none 0 0)))]),
 (.cells true 238 [(.one (.val (.slice .none 0 0)))]),
 (.cells true 140 [(.one (.int true .i64 2048)), (.one (.int true .i64 0)), (.one (.val (.slice .none 0 0))), (.one (.ptr 28 0 0 true 0))]),
 (.cells true 238 [(.one (.val (.slice .none 0 0)))]),
 pthB,
 (.cells true 148 [(.one (.int false .i64 (p))), (.one (.int true .i64 (-1))), (.one (.map 31))]),
 (.lmap [(0, (.ptr 32 0 0 true 0))]),
 (.cells true 212 [(.one (.int true .i64 4)), (.one (.int true .i64 0)), (.one (.val (.slice .none 0 0)))]),
 (.lmap [])]
noncomputable def mailB (l : A) : Blk := .cells true 95 [.one (.ptr 13 0 0 true 0), .one l]
noncomputable def int1 : Blk := .cells true 3 [.row true true .i64 1 [0]]
theorem live_run : Goes (callRun tc ((env []).fn 20) Tryz.f58 1000 [.ptr 13 0 0 true 0] [pthB]) [] [] ⟨.vec 14, [pthB, int1]⟩ := by
 unfold Goes
 kernel_rfl
theorem ctl_t (p : Int) (S U xs : List Int) : Goes (callRun tc ((env []).fn 20) Tryz.f44 1000 [.ptr 13 0 0 true 0, .ptr 34 0 0 true 0] (con0 p S U xs ++ [mailB (.val (.slice none 0 0))])) [.t]
  [IntKind.i64.wrap (0 + (xs.length : Int)) = 0 + (xs.length : Int), decide (0 + (xs.length : Int) > 0) = true] ⟨.tup [], con0 p S U xs ++ [mailB (.val (.slice none 0 0))]⟩ := by
 unfold Goes
 kernel_rfl
theorem ctl_f (p : Int) (S U xs : List Int) : Goes (callRun tc ((env []).fn 20) Tryz.f44 1000 [.ptr 13 0 0 true 0, .ptr 34 0 0 true 0] (con0 p S U xs ++ [mailB (.val (.slice none 0 0))])) [.f]
  [IntKind.i64.wrap (0 + (xs.length : Int)) = 0 + (xs.length : Int), decide (0 + (xs.length : Int) > 0) = false] ⟨.tup [], con0 p S U xs ++ [mailB (.val (.slice none 0 0))]⟩ := by
 unfold Goes
 kernel_rfl
noncomputable abbrev kPin (p : Int) (S U xs : List Int) : Cons := [(91, pinR [.ptr 13 0 0 true 0, .int true .i64 0] [pthB] (.val (.slice none 0 0)) []), (58, pinR [.ptr 13 0 0 true 0] [pthB] (.vec 14) [int1]),
 (44, pin [.ptr 13 0 0 true 0, .ptr 34 0 0 true 0] (con0 p S U xs ++ [mailB (.val (.slice none 0 0))]) ⟨.tup [], con0 p S U xs ++ [mailB (.val (.slice none 0 0))]⟩)]
theorem kPin_ok {p : Int} {S U xs : List Int} (h : xs.length ≤ 2048) : ConsOk (kPo ++ kPin p S U xs) := by
 have h44 : Con Tryz.prog gl 44 [.ptr 13 0 0 true 0, .ptr 34 0 0 true 0] (con0 p S U xs ++ [mailB (.val (.slice none 0 0))]) ⟨.tup [], con0 p S U xs ++ [mailB (.val (.slice none 0 0))]⟩ := by
  by_cases h0 : (0 : Int) + (xs.length : Int) > 0
  ·exact con_goes cNil Tryz.func44 1000 (ctl_t p S U xs) ⟨I64.wrap ⟨by omega, by omega⟩, decide_eq_true h0, trivial⟩
  ·exact con_goes cNil Tryz.func44 1000 (ctl_f p S U xs) ⟨I64.wrap ⟨by omega, by omega⟩, decide_eq_false h0, trivial⟩
 exact cons_ok f155_ok (Or.inl (by decide)) (cons_ok f154_ok (Or.inl (by decide)) (cons_ok f69_ok (Or.inr f69_still) (cons_ok f235_ok (Or.inl (by decide))
  (cons_ok (pinR_ok (con_goes cNil Tryz.func91 1000 due_run trivial)) (Or.inr (pinR_still _ _ _ _)) (cons_ok (pinR_ok (con_goes cNil Tryz.func58 1000 live_run trivial)) (Or.inr (pinR_still _ _ _ _))
   (cons_ok (pin_ok h44) (Or.inl (by decide)) cNil))))))
end
section
noncomputable def obB (s : A) : Blk := .cells true 122 [.one (.int true .i64 0), .one (.vec 14), .one (.int true .i64 2048), .one (.int true .i64 2048), .one s, .one (.ptr 15 0 0 true 0), .one (.ptr 16 0 0 true 0)]
noncomputable def rgN : Blk := .cells true 238 [(.one (.val (.slice .none 0 0)))]
theorem f69_cons : ConsOk [(69, F69)] := cons_ok f69_ok (Or.inr f69_still) cNil
def nx_f_ps (s : Int) (xs : List Int) : List Prop := let v1 := (List.length xs); let v2 := (0 : Int); let v3 := (128 : Int); [IntKind.wrap IntKind.i64 (v2 + (↑v1 : Int)) = v2 + (↑v1 : Int), decide ((2048 : Int) < v2 + (↑v1 : Int)) = false, decide (s ≥ v2 + (↑v1 : Int)) = false, IntKind.wrap IntKind.i64 (v2 + (↑v1 : Int) - s) = v2 + (↑v1 : Int) - s, decide (v2 + (↑v1 : Int) - s < v3) = false, IntKind.wrap IntKind.i64 (s + v3) = s + v3, IntKind.wrap IntKind.i64 (s + v3 - s) = s + v3 - s, v2 ≤ s + v3 - s ∧ s + v3 - s ≤ s + v3 - s ∧ (1 : Int) * (s + v3 - s) ≤ (281474976710656 : Int), IntKind.wrap IntKind.i64 (s - v2) = s - v2, v2 ≤ (s - v2) ∧ (s - v2) ≤ (↑v1 : Int) ∧ (↑v1 : Int) ≤ (↑v1 : Int) ∧ (↑v1 : Int) ≤ (↑v1 : Int)]
noncomputable def nx_f_r (s : Int) (xs : List Int) : Res := let v1 := (subL false (Int.toNat (s - (0 : Int))) (Int.toNat (↑(List.length xs) : Int) - Int.toNat (s - (0 : Int))) (List.length xs) xs); let v2 := (Int.toNat (s + (128 : Int) - s)); let v3 := (.cells true 238 [.one (.val (.slice .none 0 0))]); let v4 := (lenSq (Sq.ints false false IntKind.u8 v1)); let v5 := (List.replicate v2 (0 : Int)); let v6 := (.one (.int true .i64 2048)); .mk (.tup [(.agg [(.int false .i64 (s)), (.vec 17)]), (.bool true true)]) [(.cells true 122 [(.one (.int true .i64 0)), (.one (.vec 14)), v6, v6, (.one (.int false .i64 (s + (128 : Int)))), (.one (.ptr 15 0 0 true 0)), (.one (.ptr 16 0 0 true 0))]), (.cells true 5 [.row false false .u8 (List.length xs) (xs)]), v3, v3, (.cells true 5 [.row false false .u8 v2 (List.take (0 : Nat) v5 ++ List.take (min v4 v2) v1 ++ List.drop ((0 : Nat) + min v4 v2) v5)])]
theorem nx_f (s : Int) (xs : List Int) : Goes (callRun tc ((env [(69, F69)]).fn 20) Tryz.f99 1000 [A.ptr 13 0 0 true 0, A.int true IntKind.i64 128] [obB (A.int false IntKind.i64 s), byB xs, rgN, rgN]) [.f, .f, .f] (nx_f_ps s xs) (nx_f_r s xs) := by
 unfold Goes
 kernel_rfl
def nx_t_ps (s : Int) (xs : List Int) : List Prop := let v2 := (List.length xs); let v3 := (0 : Int); let v1 := (v3 + (↑v2 : Int) - s); [IntKind.wrap IntKind.i64 (v3 + (↑v2 : Int)) = v3 + (↑v2 : Int), decide ((2048 : Int) < v3 + (↑v2 : Int)) = false, decide (s ≥ v3 + (↑v2 : Int)) = false, IntKind.wrap IntKind.i64 v1 = v3 + (↑v2 : Int) - s, decide (v3 + (↑v2 : Int) - s < (128 : Int)) = true, IntKind.wrap IntKind.i64 (s + v1) = s + v1, IntKind.wrap IntKind.i64 (s + v1 - s) = s + v1 - s, v3 ≤ s + v1 - s ∧ s + v1 - s ≤ s + v1 - s ∧ (1 : Int) * (s + v1 - s) ≤ (281474976710656 : Int), IntKind.wrap IntKind.i64 (s - v3) = s - v3, v3 ≤ (s - v3) ∧ (s - v3) ≤ (↑v2 : Int) ∧ (↑v2 : Int) ≤ (↑v2 : Int) ∧ (↑v2 : Int) ≤ (↑v2 : Int)]
noncomputable def nx_t_r (s : Int) (xs : List Int) : Res := let v3 := (.cells true 238 [.one (.val (.slice .none 0 0))]); let v6 := (.one (.int true .i64 2048)); let v7 := (List.length xs); let v1 := (Int.toNat (s + ((0 : Int) + (↑v7 : Int) - s) - s)); let v2 := (subL false (Int.toNat (s - (0 : Int))) (Int.toNat (↑v7 : Int) - Int.toNat (s - (0 : Int))) v7 xs); let v4 := (lenSq (Sq.ints false false IntKind.u8 v2)); let v5 := (List.replicate v1 (0 : Int)); .mk (.tup [(.agg [(.int false .i64 (s)), (.vec 17)]), (.bool true true)]) [(.cells true 122 [(.one (.int true .i64 0)), (.one (.vec 14)), v6, v6, (.one (.int false .i64 (s + ((0 : Int) + (↑v7 : Int) - s)))), (.one (.ptr 15 0 0 true 0)), (.one (.ptr 16 0 0 true 0))]), (.cells true 5 [.row false false .u8 v7 (xs)]), v3, v3, (.cells true 5 [.row false false .u8 v1 (List.take (0 : Nat) v5 ++ List.take (min v4 v1) v2 ++ List.drop ((0 : Nat) + min v4 v1) v5)])]
theorem nx_t (s : Int) (xs : List Int) : Goes (callRun tc ((env [(69, F69)]).fn 20) Tryz.f99 1000 [A.ptr 13 0 0 true 0, A.int true IntKind.i64 128] [obB (A.int false IntKind.i64 s), byB xs, rgN, rgN]) [.f, .f, .t] (nx_t_ps s xs) (nx_t_r s xs) := by
 unfold Goes
 kernel_rfl
def nx_n_ps (s : Int) (xs : List Int) : List Prop := let v1 := (List.length xs); let v2 := (0 : Int); [IntKind.wrap IntKind.i64 (v2 + (↑v1 : Int)) = v2 + (↑v1 : Int), decide ((2048 : Int) < v2 + (↑v1 : Int)) = false, decide (s ≥ v2 + (↑v1 : Int)) = true]
noncomputable def nx_n_r (s : Int) (xs : List Int) : Res := let v1 := (.cells true 238 [.one (.val (.slice .none 0 0))]); let v2 := (.one (.int true .i64 2048)); let v3 := (.int true .i64 0); .mk (.tup [(.agg [v3, (.val (.slice .none 0 0))]), (.bool true false)]) [(.cells true 122 [(.one v3), (.one (.vec 14)), v2, v2, (.one (.int false .i64 (s))), (.one (.ptr 15 0 0 true 0)), (.one (.ptr 16 0 0 true 0))]), (.cells true 5 [.row false false .u8 (List.length xs) (xs)]), v1, v1]
theorem nx_n (s : Int) (xs : List Int) : Goes (callRun tc ((env [(69, F69)]).fn 20) Tryz.f99 1000 [A.ptr 13 0 0 true 0, A.int true IntKind.i64 128] [obB (A.int false IntKind.i64 s), byB xs, rgN, rgN]) [.f, .t] (nx_n_ps s xs) (nx_n_r s xs) := by
 unfold Goes
 kernel_rfl
def pieceAt (xs : List Int) (s : Int) : List Int := (xs.drop s.toNat).take 128
theorem next_raw {xs : List Int} {s to : Int} (h0 : 0 ≤ s) (h1 : s ≤ xs.length) (ht : to = s + min 128 (xs.length - s)) :
  List.take 0 (List.replicate (Int.toNat (to - s)) (0 : Int)) ++ List.take (min (lenSq (Sq.ints false false IntKind.u8 (subL false (Int.toNat (s - 0)) (Int.toNat (xs.length : Int) - Int.toNat (s - 0)) xs.length xs))) (Int.toNat (to - s)))
    (subL false (Int.toNat (s - 0)) (Int.toNat (xs.length : Int) - Int.toNat (s - 0)) xs.length xs) ++
   List.drop (0 + min (lenSq (Sq.ints false false IntKind.u8 (subL false (Int.toNat (s - 0)) (Int.toNat (xs.length : Int) - Int.toNat (s - 0)) xs.length xs))) (Int.toNat (to - s))) (List.replicate (Int.toNat (to - s)) (0 : Int)) = pieceAt xs s := by
 simp only [Int.sub_zero, Int.toNat_natCast]
 have e : subL false s.toNat (xs.length - s.toNat) xs.length xs = xs.drop s.toNat := by
  rw [subL_eq rfl, List.take_of_length_le (by rw [List.length_drop]; omega)]
 have e2 : ∀ l : List Int, lenSq (Sq.ints false false IntKind.u8 l) = l.length := fun _ => rfl
 rw [e, e2, List.take_zero, List.nil_append, List.length_drop, List.drop_replicate, show (to - s).toNat - (0 + min (xs.length - s.toNat) (to - s).toNat) = 0 by omega, List.replicate_zero, List.append_nil]
 unfold pieceAt
 rw [List.take_eq_take_iff, List.length_drop]
 omega
theorem pieceAt_length {xs : List Int} {s : Int} (h0 : 0 ≤ s) (h1 : s ≤ xs.length) : ((pieceAt xs s).length : Int) = min 128 (xs.length - s) := by
 unfold pieceAt
 rw [List.length_take, List.length_drop]
 omega
noncomputable def F99 : Spec := fun args mem => match mem with
 | [.cells _ _ [_, _, _, _, .one (.int fl _ s), _, _], .cells _ _ [.row _ _ _ _ xs], _, _] =>
  .same (erL args, mem.map erB) (erL [.ptr 13 0 0 true 0, .int true .i64 128], [obB (.int false .i64 s), byB xs, rgN, rgN].map erB) (.ob (0 ≤ s ∧ s ≤ xs.length ∧ xs.length ≤ 2048)
   (.br (decide (s ≥ (xs.length : Int))) (.leaf ⟨.tup [.agg [.int true .i64 0, .val (.slice none 0 0)], .bool true false], [obB (.int fl .i64 s), byB xs, rgN, rgN]⟩)
    (.br (decide ((xs.length : Int) - s ≤ 128)) (.leaf ⟨.tup [.agg [.int fl .i64 s, .vec 17], .bool true true], [obB (.int false .i64 xs.length), byB xs, rgN, rgN, byB (pieceAt xs s)]⟩)
     (match fl with
     | true => fcI (s + 128) fun n => .leaf ⟨.tup [.agg [.int true .i64 s, .vec 17], .bool true true], [obB (.int true .i64 n), byB xs, rgN, rgN, byB (pieceAt xs s)]⟩
     | false => .leaf ⟨.tup [.agg [.int false .i64 s, .vec 17], .bool true true], [obB (.int false .i64 (s + 128)), byB xs, rgN, rgN, byB (pieceAt xs s)]⟩))))
 | _ => .fail
theorem next_n {s : Int} {xs : List Int} (h0 : 0 ≤ s) (h1 : s ≤ xs.length) (h2 : xs.length ≤ 2048) (h : s ≥ (xs.length : Int)) : Con Tryz.prog gl 99 [.ptr 13 0 0 true 0, .int true .i64 128] [obB (.int false .i64 s), byB xs, rgN, rgN] ⟨.tup [.agg [.int true .i64 0, .val (.slice none 0 0)], .bool true false], [obB (.int false .i64 s), byB xs, rgN, rgN]⟩ :=
 con_goes f69_cons Tryz.func99 1000 (nx_n s xs) ⟨I64.wrap ⟨by omega, by omega⟩, decide_eq_false (by omega), decide_eq_true (by omega), trivial⟩
theorem next_t {s : Int} {xs : List Int} (h0 : 0 ≤ s) (h2 : xs.length ≤ 2048) (h : s < (xs.length : Int)) (h3 : (xs.length : Int) - s < 128) : Con Tryz.prog gl 99 [.ptr 13 0 0 true 0, .int true .i64 128] [obB (.int false .i64 s), byB xs, rgN, rgN] ⟨.tup [.agg [.int false .i64 s, .vec 17], .bool true true], [obB (.int false .i64 xs.length), byB xs, rgN, rgN, byB (pieceAt xs s)]⟩ := by
 have con := con_goes f69_cons Tryz.func99 1000 (nx_t s xs) (by
  unfold nx_t_ps
  refine ⟨?_, ?_, ?_, ?_, ?_, ?_, ?_, ?_, ?_, ?_, trivial⟩
  all_goals try dsimp only [Option.getD_some, Option.getD_none]
  all_goals first
   | omega
   | exact decide_eq_true (by omega)
   | exact decide_eq_false (by omega)
   | exact I64.wrap ⟨by omega, by omega⟩)
 unfold nx_t_r at con
 dsimp only at con
 rw [next_raw h0 (by omega) (show s + (0 + (xs.length : Int) - s) = s + min 128 (xs.length - s) by omega), show (s + (0 + (xs.length : Int) - s) - s).toNat = (pieceAt xs s).length by have := pieceAt_length (xs := xs) h0 (by omega); omega, show s + (0 + (xs.length : Int) - s) = xs.length by omega] at con
 exact con_to con
theorem next_f {s : Int} {xs : List Int} (h0 : 0 ≤ s) (h2 : xs.length ≤ 2048) (h : s < (xs.length : Int)) (h3 : ¬ (xs.length : Int) - s < 128) : Con Tryz.prog gl 99 [.ptr 13 0 0 true 0, .int true .i64 128] [obB (.int false .i64 s), byB xs, rgN, rgN] ⟨.tup [.agg [.int false .i64 s, .vec 17], .bool true true], [obB (.int false .i64 (s + 128)), byB xs, rgN, rgN, byB (pieceAt xs s)]⟩ := by
 have con := con_goes f69_cons Tryz.func99 1000 (nx_f s xs) (by
  unfold nx_f_ps
  refine ⟨?_, ?_, ?_, ?_, ?_, ?_, ?_, ?_, ?_, ?_, trivial⟩
  all_goals try dsimp only [Option.getD_some, Option.getD_none]
  all_goals first
   | omega
   | exact decide_eq_true (by omega)
   | exact decide_eq_false (by omega)
   | exact I64.wrap ⟨by omega, by omega⟩)
 unfold nx_f_r at con
 dsimp only at con
 rw [next_raw h0 (by omega) (show s + 128 = s + min 128 (xs.length - s) by omega), show (s + 128 - s).toNat = (pieceAt xs s).length by have := pieceAt_length (xs := xs) h0 (by omega); omega] at con
 exact con_to con
theorem f99_ok : FnOk Tryz.prog gl 99 F99 := by
 intro args mem r h
 unfold F99 at h
 split at h
 case h_2 => exact h.elim
 rename_i fl k s _ _ _ _ _ _ _ _ xs _ _
 obtain ⟨hs, h⟩ := Tr.is_same.1 h
 obtain ⟨⟨h0, h1, h2⟩, h⟩ := Tr.is_ob.1 h
 have move : ∀ {r1 : Res}, Con Tryz.prog gl 99 [.ptr 13 0 0 true 0, .int true .i64 128] [obB (.int false .i64 s), byB xs, rgN, rgN] r1 → erA r1.val = erA r.val → r1.mem.map erB = r.mem.map erB → Con Tryz.prog gl 99 args _ r := fun hc e1 e2 => con_er (congrArg Prod.fst hs) (congrArg Prod.snd hs) e1 e2 hc
 have h := Tr.is_br.1 h
 by_cases c1 : s ≥ (xs.length : Int)
 ·rw [decide_eq_true c1] at h
  have h := Tr.is_leaf.1 h
  subst h
  exact move (next_n h0 h1 h2 c1) rfl rfl
 ·rw [decide_eq_false c1] at h
  have h := Tr.is_br.1 h
  by_cases c2 : (xs.length : Int) - s ≤ 128
  ·rw [decide_eq_true c2] at h
   have h := Tr.is_leaf.1 h
   subst h
   by_cases c3 : (xs.length : Int) - s < 128
   ·exact move (next_t h0 h2 (by omega) c3) rfl rfl
   ·have con := next_f h0 h2 (by omega) c3
    rw [show s + 128 = (xs.length : Int) by omega] at con
    exact move con rfl rfl
  ·rw [decide_eq_false c2] at h
   cases fl with
   | true =>
    rw [fcI_eq] at h
    have h := Tr.is_leaf.1 h
    subst h
    exact move (next_f h0 h2 (by omega) (by omega)) rfl rfl
   | false =>
    have h := Tr.is_leaf.1 h
    subst h
    exact move (next_f h0 h2 (by omega) (by omega)) rfl rfl
end
end Go.Proofs.YtiojkpgcmhlhnaaGreatDoor.Ty
