/-
  conn.Deliver and world.Do of a record; the world.
-/
import Derived.Test.YtiojkpgcmhlhnaaGreatDoorTkG
namespace Go.Proofs.YtiojkpgcmhlhnaaGreatDoor.Ty
open Go
set_option maxRecDepth 100000
set_option linter.unusedSimpArgs false
set_option linter.unusedVariables false
section
def z32 : List Int := List.replicate 32 0
def lit0 : List Int := [47, 229, 125, 163, 71, 205, 98, 67, 21, 40, 218, 172, 95, 187, 41, 7, 48, 255, 246, 132, 175, 196, 207, 194, 237, 144, 153, 95, 88, 203, 59, 116]
def lit1 : List Int := [37, 1, 62, 153, 180, 162, 225, 248, 208, 89, 237, 242, 54, 207, 38, 173, 38, 123, 220, 205, 43, 240, 30, 61, 181, 126, 64, 230, 249, 102, 26, 178]
def lit2 : List Int := [76, 29, 44, 234, 187, 110, 43, 215, 148, 228, 164, 97, 53, 110, 190, 137, 21, 10, 124, 92, 220, 212, 181, 160, 4, 56, 245, 228, 245, 234, 13, 166]
def lit3 : List Int := [130, 196, 155, 142, 112, 81, 152, 151, 93, 119, 153, 179, 177, 29, 234, 38, 15, 9, 106, 178, 16, 35, 93, 7, 175, 113, 192, 46, 187, 154, 111, 87]
def lit4 : List Int := [47, 229, 125, 163, 71, 205, 98, 67, 21, 40, 218, 172, 95, 187, 41, 7, 48, 255, 246, 132, 175, 196, 207, 194, 237, 144, 153, 95, 88, 203, 59, 116, 69, 61, 18, 243, 205, 82, 130, 103, 19, 246, 222, 170, 123, 150, 224, 209, 173, 124, 209, 88, 135, 110, 22, 230, 45, 58, 60, 189, 23, 190, 86, 175, 186, 76, 136, 183, 29, 8, 127, 156, 151, 115, 250, 126, 189, 44, 255, 169, 74, 90, 111, 71, 191, 125, 156, 79, 227, 122, 153, 192, 192, 199, 91, 100]
def lit5 : List Int := [47, 229, 125, 163, 71, 205, 98, 67, 21, 40, 218, 172, 95, 187, 41, 7, 48, 255, 246, 132, 175, 196, 207, 194, 237, 144, 153, 95, 88, 203, 59, 116, 254, 64, 22, 245, 234, 254, 103, 41, 236, 189, 82, 152, 136, 215, 1, 117]
def lit6 : List Int := [139, 92, 181, 161, 84, 64, 200, 149, 196, 201, 195, 240, 6, 253, 77, 203, 104, 116, 93, 180, 85, 38, 93, 161, 212, 153, 251, 202, 78, 216, 37, 155]
def lit7 : List Int := [101, 184, 139, 17, 145, 115, 11, 254, 135, 52, 124, 65, 83, 169, 142, 229, 0, 33, 208, 170, 159, 187, 7, 159, 90, 169, 186, 213, 234, 5, 208, 128]
noncomputable def conN (p : Int) (S U : List Int) (now : List (Int × A)) (ib rh : Blk) (ow : List (Int × A)) : List Blk := [(.cells true 89 [(.one (.int true .i64 1)), (.row true true .u8 32 ([2] ++ List.replicate 31 0)), (.row true true .u8 32 (List.replicate 32 0)), (.row true true .u8 32 ([4] ++ List.replicate 31 0)), (.one (.int false .i64 (p))), (.one (.int true .i64 2)), (.one (.int true .i64 0)), (.one (.int true .i64 0)), (.one (.ptr 14 0 0 true 0)), (.one (.vec 16)), (.one (.vec 17)), (.one (.int true .i64 0)), (.one (.int true .i64 0)), (.one (.bool true false)), (.one (.ptr 18 0 0 true 0)), (.one (.ptr 24 0 0 true 0)), (.one (.ptr 27 0 0 true 0)), (.one (.ptr 29 0 0 true 0)), (.one (.ptr 30 0 0 true 0)), (.one (.bool true true)), (.one (.bool true false)), (.one (.map 33))]),
 (.cells true 136 [(.one (.bool true false)), (.one (.int true .i64 2)), (.row true true .u8 32 ([2] ++ List.replicate 31 0)), (.row true true .u8 32 ([4] ++ List.replicate 31 0)), (.row true false .u8 32 lit0), (.row true false .u8 32 lit0), (.one (.ptr 15 0 0 true 0))]),
 (.cells true 235 [(.row true false .u8 32 lit1), (.row true false .u8 32 lit2), (.row true false .u8 32 lit3), (.one (.bool true true)), (.one (.int true .u64 1))]),
 (.cells true 5 [(.row false false .u8 96 lit4)]),
 (.cells true 5 [(.row true false .u8 48 lit5)]),
 (.cells true 189 [(.one (.int true .i64 1)), (.one (.ptr 19 0 0 true 0)), (.one (.ptr 20 0 0 true 0)), (.one (.map 21)), (.one (.map 22)), (.one (.map 23))]),
 keyB S z32,
 keyB U z32,
 (.lmap []),
 .lmap now,
 (.lmap []),
 (.cells true 122 [(.one (.int true .i64 0)), (.one (.val (.slice .none 0 0))), (.one (.int true .i64 2048)), (.one (.int true .i64 2048)), (.one (.int true .i64 0)), (.one (.ptr 25 0 0 true 0)), (.one (.ptr 26 0 0 true 0))]),
 (.cells true 238 [(.one (.val (.slice .none 0 0)))]),
 (.cells true 238 [(.one (.val (.slice .none 0 0)))]),
 ib,
 rh,
 (.cells true 145 [(.lst true .pth 256 ([(.mk 2 100 0 0 [0, 0, 0, 0, 0, 0, 0, 0])] ++ List.replicate 255 (.mk 0 0 0 0 [0, 0, 0, 0, 0, 0, 0, 0])))]),
 (.cells true 148 [(.one (.int false .i64 (p))), (.one (.int true .i64 (-1))), (.one (.map 31))]),
 (.lmap [(0, (.ptr 32 0 0 true 0))]),
 (.cells true 212 [(.one (.int true .i64 4)), (.one (.int true .i64 0)), (.one (.val (.slice .none 0 0)))]),
 .lmap ow]
noncomputable def conW (p : Int) (S U : List Int) (win ib bt rh rg : Blk) (ow : List (Int × A)) : List Blk := [(.cells true 89 [(.one (.int true .i64 1)), (.row true true .u8 32 ([2] ++ List.replicate 31 0)), (.row true true .u8 32 (List.replicate 32 0)), (.row true true .u8 32 ([4] ++ List.replicate 31 0)), (.one (.int false .i64 (p))), (.one (.int true .i64 2)), (.one (.int true .i64 0)), (.one (.int true .i64 0)), (.one (.ptr 14 0 0 true 0)), (.one (.vec 16)), (.one (.vec 17)), (.one (.int true .i64 0)), (.one (.int true .i64 0)), (.one (.bool true false)), (.one (.ptr 18 0 0 true 0)), (.one (.ptr 25 0 0 true 0)), (.one (.ptr 28 0 0 true 0)), (.one (.ptr 32 0 0 true 0)), (.one (.ptr 33 0 0 true 0)), (.one (.bool true true)), (.one (.bool true false)), (.one (.map 36))]),
 (.cells true 136 [(.one (.bool true false)), (.one (.int true .i64 2)), (.row true true .u8 32 ([2] ++ List.replicate 31 0)), (.row true true .u8 32 ([4] ++ List.replicate 31 0)), (.row true false .u8 32 lit0), (.row true false .u8 32 lit0), (.one (.ptr 15 0 0 true 0))]),
 (.cells true 235 [(.row true false .u8 32 lit1), (.row true false .u8 32 lit2), (.row true false .u8 32 lit3), (.one (.bool true true)), (.one (.int true .u64 1))]),
 (.cells true 5 [(.row false false .u8 96 lit4)]),
 (.cells true 5 [(.row true false .u8 48 lit5)]),
 (.cells true 189 [(.one (.int true .i64 1)), (.one (.ptr 19 0 0 true 0)), (.one (.ptr 20 0 0 true 0)), (.one (.map 21)), (.one (.map 22)), (.one (.map 24))]),
 keyB S z32,
 keyB U z32,
 (.lmap []),
 (.lmap [(0, (.ptr 23 0 0 true 0))]),
 win,
 (.lmap []),
 (.cells true 122 [(.one (.int true .i64 0)), (.one (.val (.slice .none 0 0))), (.one (.int true .i64 2048)), (.one (.int true .i64 2048)), (.one (.int true .i64 0)), (.one (.ptr 26 0 0 true 0)), (.one (.ptr 27 0 0 true 0))]),
 (.cells true 238 [(.one (.val (.slice .none 0 0)))]),
 (.cells true 238 [(.one (.val (.slice .none 0 0)))]),
 ib,
 bt,
 rh,
 rg,
 (.cells true 145 [(.lst true .pth 256 ([(.mk 2 100 0 0 [0, 0, 0, 0, 0, 0, 0, 0])] ++ List.replicate 255 (.mk 0 0 0 0 [0, 0, 0, 0, 0, 0, 0, 0])))]),
 (.cells true 148 [(.one (.int false .i64 (p))), (.one (.int true .i64 (-1))), (.one (.map 34))]),
 (.lmap [(0, (.ptr 35 0 0 true 0))]),
 (.cells true 212 [(.one (.int true .i64 4)), (.one (.int true .i64 0)), (.one (.val (.slice .none 0 0)))]),
 .lmap ow]
noncomputable def dataB (a : Int) (ds : List Int) : Blk := .cells true 112 [.lst true .frm 1 [⟨1, a, 0, [], ds, z8⟩]]
noncomputable abbrev pDec (a : Int) (ts ds : List Int) : Spec := pin [.vec 13] [byB ts] ⟨.tup [.vec 14, .int true .i64 0], [byB ts, dataB a ds]⟩
noncomputable abbrev pPar (r n : Int) (rec body : List Int) : Spec := pinR [.fzi false .u8 rec] [] (pktA r n) [byB body]
noncomputable abbrev pOpN (n : Int) (S U rec ts ws : List Int) (nx : Int) : Spec := pin [.ptr 13 0 0 true 0, .fzi false .u8 rec] (omN 1 S z32 U z32 [] []) ⟨resO n 19, omN 1 S z32 U z32 [] [(0, .ptr 20 0 0 true 0)] ++ [byB ts, winB ws nx]⟩
noncomputable abbrev pOpW (n : Int) (S U rec ts ws ws' : List Int) (nx nx' : Int) : Spec := pin [.ptr 13 0 0 true 0, .fzi false .u8 rec] (omW 1 S z32 U z32 [] ws nx) ⟨resO n 20, omW 1 S z32 U z32 [] ws' nx' ++ [byB ts]⟩
noncomputable abbrev owD : List (Int × A) := [(0, .agg [.val (.slice none 0 0), .bool true true, .bool true false])]
noncomputable def rBf (rs : List Rng) : Blk := .cells true 181 [.lst false .rng rs.length rs]
noncomputable def iBk (dn : Int) (b : A) (h : Nat) : Blk := .cells true 140 [.one (.int true .i64 2048), .one (.int false .i64 dn), .one b, .one (.ptr h 0 0 true 0)]
noncomputable def ib0' (h : Nat) : Blk := .cells true 140 [.one (.int true .i64 2048), .one (.int true .i64 0), .one (.val (.slice none 0 0)), .one (.ptr h 0 0 true 0)]
noncomputable abbrev pTkN (a r : Int) (ds bs' : List Int) (rs' : List Rng) : Spec := pin (tkA a ds) ib0 ⟨.int false .i64 r, [iBk 0 (.vec 15) 14, rH (.vec 16), byB bs', rBf rs']⟩
noncomputable abbrev pTkW (dn a r : Int) (ds bs bs' : List Int) (rs rs' : List Rng) : Spec := pin (tkA a ds) (ibR dn bs rs) ⟨.int false .i64 r, [iBk dn (.vec 17) 15, .dead, rH (.vec 18), .dead, byB bs', rBf rs']⟩
noncomputable abbrev kDN (a n nx r : Int) (S U rec body ts ds ws bs' : List Int) (rs' : List Rng) : Cons := [(48, pPar 0 n rec body), (51, pOpN n S U rec ts ws nx), (52, pDec a ts ds), (125, pTkN a r ds bs' rs')]
noncomputable abbrev kDW (dn a n nx nx' r : Int) (S U rec body ts ds ws ws' bs bs' : List Int) (rs rs' : List Rng) : Cons := [(48, pPar 0 n rec body), (51, pOpW n S U rec ts ws ws' nx nx'), (52, pDec a ts ds), (125, pTkW dn a r ds bs bs' rs rs')]
theorem delN (p a n nx r : Int) (S U rec body ts ds ws bs' : List Int) (rs' : List Rng) :
  Goes (callRun tc ((env (kDN a n nx r S U rec body ts ds ws bs' rs')).fn 20) Tryz.f19 1000 [.ptr 13 0 0 true 0, .fzi false .u8 rec] (conN p S U [] (ib0' 28) (rH (.val (.slice none 0 0))) [])) [] [(0 : Int) ≤ 0 ∧ (0 : Int) < 256]
   ⟨.int true .i64 0, conN p S U [(0, .ptr 34 0 0 true 0)] (iBk 0 (.vec 35) 28) (rH (.vec 36)) owD ++ [winB ws nx, byB bs', rBf rs']⟩ := by
 unfold Goes
 kernel_rfl
theorem delW (p dn a n nx nx' r : Int) (S U rec body ts ds ws ws' bs bs' : List Int) (rs rs' : List Rng) :
  Goes (callRun tc ((env (kDW dn a n nx nx' r S U rec body ts ds ws ws' bs bs' rs rs')).fn 20) Tryz.f19 1000 [.ptr 13 0 0 true 0, .fzi false .u8 rec] (conW p S U (winB ws nx) (iBk dn (.vec 29) 30) (byB bs) (rH (.vec 31)) (rBf rs) owD)) [] [(0 : Int) ≤ 0 ∧ (0 : Int) < 256]
   ⟨.int true .i64 0, conW p S U (winB ws' nx') (iBk dn (.vec 37) 30) .dead (rH (.vec 38)) .dead owD ++ [byB bs', rBf rs']⟩ := by
 unfold Goes
 kernel_rfl
def TakeN (a : Int) (ds bs' : List Int) (rs' : List Rng) : Prop := Con Tryz.prog gl 125 (tkA a ds) ib0 ⟨.int false .i64 ds.length, [iBk 0 (.vec 15) 14, rH (.vec 16), byB bs', rBf rs']⟩
def TakeW (dn a : Int) (ds bs bs' : List Int) (rs rs' : List Rng) : Prop := Con Tryz.prog gl 125 (tkA a ds) (ibR dn bs rs) ⟨.int false .i64 ds.length, [iBk dn (.vec 17) 15, .dead, rH (.vec 18), .dead, byB bs', rBf rs']⟩
theorem Byts_enc {n : Int} {ds : List Int} (h0 : 0 ≤ n) (h : n < 16384) (h2 : ds.length ≤ 128) (hd : Byts ds) : Byts (encF n ds) := by
 have v : ∀ (c : Bool) (m : Int), c = decide (64 ≤ m) → 0 ≤ m → m < 16384 → Byts (varC c m) := fun c m hc h0 h => by
  cases c with
  | false =>
   have := of_decide_eq_false hc.symm
   rw [varC_f h0 (by omega)]
   intro x hx
   simp at hx
   omega
  | true =>
   have := of_decide_eq_true hc.symm
   rw [varC_t h0 h]
   intro x hx
   simp at hx
   omega
 intro x hx
 unfold encF encD at hx
 rcases List.mem_cons.1 hx with rfl | hx
 ·omega
 ·rcases List.mem_append.1 hx with hx | hx
  ·exact v _ _ rfl h0 h x hx
  ·rcases List.mem_append.1 hx with hx | hx
   ·exact v _ _ rfl (by omega) (by omega) x hx
   ·exact hd x hx
theorem encF_len {n : Int} {ds : List Int} (h2 : ds.length ≤ 128) : (encF n ds).length ≤ 256 := by
 have := encD_length (decide (64 ≤ n)) (decide (64 ≤ (ds.length : Int))) n ds
 unfold encF
 omega
theorem del_conN {p a n nx : Int} {S U ds ws bs' : List Int} {rs' : List Rng} (h0 : 0 ≤ n) (h : n ≤ 281474976710655) (hU : U.length = 32) (a0 : 0 ≤ a) (a1 : a < 16384) (h1 : 1 ≤ ds.length) (h2 : ds.length ≤ 128) (hd : Byts ds) (hw : WinOk n z16 0 ws nx) (ht : TakeN a ds bs' rs') :
  Con Tryz.prog gl 19 [.ptr 13 0 0 true 0, .fzi false .u8 (recL 0 n U (encF a ds))] (conN p S U [] (ib0' 28) (rH (.val (.slice none 0 0))) []) ⟨.int true .i64 0, conN p S U [(0, .ptr 34 0 0 true 0)] (iBk 0 (.vec 35) 28) (rH (.vec 36)) owD ++ [winB ws nx, byB bs', rBf rs']⟩ := by
 have hl := encF_len (n := a) h2
 have hb := bodyR_length 0 n U (encF a ds)
 have hk : ConsOk (kDN a n nx ds.length S U (recL 0 n U (encF a ds)) (bodyR 0 n U (encF a ds)) (encF a ds) ds ws bs' rs') :=
  cons_ok (pinR_ok (parse_con (Or.inl rfl) h0 h (bodyR 0 n U (encF a ds)) (by omega) (by omega))) (Or.inr (pinR_still _ _ _ _)) (cons_ok (pin_ok (open_conN (me := 1) (r := 0) (Or.inr ⟨rfl, rfl⟩) h0 h (Or.inl rfl) hU (Byts_enc a0 a1 h2 hd) hl hw)) (Or.inl (by decide))
   (cons_ok (pin_ok (dec_con a0 a1 h1 h2)) (Or.inl (by decide)) (cons_ok (pin_ok ht) (Or.inl (by decide)) cNil)))
 exact con_goes hk Tryz.func19 1000 (delN p a n nx ds.length S U _ _ _ ds ws bs' rs') ⟨by decide, trivial⟩
theorem del_conW {p dn a n nx nx' : Int} {S U ds ws ws' bs bs' : List Int} {rs rs' : List Rng} (h0 : 0 ≤ n) (h : n ≤ 281474976710655) (hU : U.length = 32) (a0 : 0 ≤ a) (a1 : a < 16384) (h1 : 1 ≤ ds.length) (h2 : ds.length ≤ 128) (hd : Byts ds) (hw : WinOk n ws nx ws' nx') (ht : TakeW dn a ds bs bs' rs rs') :
  Con Tryz.prog gl 19 [.ptr 13 0 0 true 0, .fzi false .u8 (recL 0 n U (encF a ds))] (conW p S U (winB ws nx) (iBk dn (.vec 29) 30) (byB bs) (rH (.vec 31)) (rBf rs) owD) ⟨.int true .i64 0, conW p S U (winB ws' nx') (iBk dn (.vec 37) 30) .dead (rH (.vec 38)) .dead owD ++ [byB bs', rBf rs']⟩ := by
 have hl := encF_len (n := a) h2
 have hb := bodyR_length 0 n U (encF a ds)
 have hk : ConsOk (kDW dn a n nx nx' ds.length S U (recL 0 n U (encF a ds)) (bodyR 0 n U (encF a ds)) (encF a ds) ds ws ws' bs bs' rs rs') :=
  cons_ok (pinR_ok (parse_con (Or.inl rfl) h0 h (bodyR 0 n U (encF a ds)) (by omega) (by omega))) (Or.inr (pinR_still _ _ _ _)) (cons_ok (pin_ok (open_conW (me := 1) (r := 0) (Or.inr ⟨rfl, rfl⟩) h0 h (Or.inl rfl) hU (Byts_enc a0 a1 h2 hd) hl hw)) (Or.inl (by decide))
   (cons_ok (pin_ok (dec_con a0 a1 h1 h2)) (Or.inl (by decide)) (cons_ok (pin_ok ht) (Or.inl (by decide)) cNil)))
 exact con_goes hk Tryz.func19 1000 (delW p dn a n nx nx' ds.length S U _ _ _ ds ws ws' bs bs' rs rs') ⟨by decide, trivial⟩
end
section
noncomputable def end0 (p k : Int) (S U xs : List Int) (rc : List Rec) : List Blk := [(.cells true 89 [(.one (.int true .i64 0)), (.row true true .u8 32 ([1] ++ List.replicate 31 0)), (.row true true .u8 32 lit0), (.row true true .u8 32 ([3] ++ List.replicate 31 0)), (.one (.int false .i64 (p))), (.one (.int true .i64 2)), (.one (.int true .i64 0)), (.one (.int true .i64 0)), (.one (.ptr 15 0 0 true 0)), (.one (.vec 17)), (.one (.val (.slice .none 0 0))), (.one (.int true .i64 200)), (.one (.int true .i64 0)), (.one (.bool true false)), (.one (.ptr 18 0 0 true 0)), (.one (.ptr 24 0 0 true 0)), (.one (.ptr 28 0 0 true 0)), (.one (.ptr 30 0 0 true 0)), (.one (.ptr 31 0 0 true 0)), (.one (.bool true true)), (.one (.bool true false)), (.one (.map 35))]),
 (.cells true 136 [(.one (.bool true true)), (.one (.int true .i64 2)), (.row true true .u8 32 ([1] ++ List.replicate 31 0)), (.row true true .u8 32 ([3] ++ List.replicate 31 0)), (.row true true .u8 32 lit0), (.row true true .u8 32 (List.replicate 32 0)), (.one (.ptr 16 0 0 true 0))]),
 (.cells true 235 [(.row true false .u8 32 lit1), (.row true false .u8 32 lit2), (.row true false .u8 32 lit3), (.one (.bool true true)), (.one (.int true .u64 1))]),
 (.cells true 5 [(.row true true .u8 96 lit4)]),
 (.cells true 189 [(.one (.int true .i64 0)), (.one (.ptr 19 0 0 true 0)), (.one (.ptr 20 0 0 true 0)), (.one (.map 21)), (.one (.map 22)), (.one (.map 23))]),
 keyB U z32,
 keyB S z32,
 .lmap [(0, (.int false .i64 k))],
 (.lmap []),
 (.lmap []),
 (.cells true 122 [.one (.int true .i64 0), .one (.vec 25), .one (.int true .i64 2048), .one (.int true .i64 2048), .one (.int false .i64 xs.length), .one (.ptr 26 0 0 true 0), .one (.ptr 27 0 0 true 0)]),
 byB xs,
 (.cells true 238 [(.one (.val (.slice .none 0 0)))]),
 (.cells true 238 [(.one (.val (.slice .none 0 0)))]),
 (.cells true 140 [(.one (.int true .i64 2048)), (.one (.int true .i64 0)), (.one (.val (.slice .none 0 0))), (.one (.ptr 29 0 0 true 0))]),
 (.cells true 238 [(.one (.val (.slice .none 0 0)))]),
 (.cells true 145 [(.lst true .pth 256 ([(.mk 2 100 0 0 [0, 0, 0, 0, 0, 0, 0, 0])] ++ List.replicate 255 (.mk 0 0 0 0 [0, 0, 0, 0, 0, 0, 0, 0])))]),
 (.cells true 148 [(.one (.int false .i64 (p))), (.one (.int true .i64 0)), (.one (.map 32))]),
 (.lmap [(0, (.ptr 33 0 0 true 0))]),
 (.cells true 212 [.one (.int true .i64 4), .one (.int false .i64 k), .one (.vec 34)]),
 (.cells true 221 [.lst false .rcd rc.length rc]),
 (.lmap [])]
noncomputable def end1N (p : Int) (S U : List Int) (now : List (Int × A)) (ib rh : Blk) (ow : List (Int × A)) : List Blk := [(.cells true 89 [(.one (.int true .i64 1)), (.row true true .u8 32 ([2] ++ List.replicate 31 0)), (.row true true .u8 32 (List.replicate 32 0)), (.row true true .u8 32 ([4] ++ List.replicate 31 0)), (.one (.int false .i64 (p))), (.one (.int true .i64 2)), (.one (.int true .i64 0)), (.one (.int true .i64 0)), (.one (.ptr 37 0 0 true 0)), (.one (.vec 39)), (.one (.vec 40)), (.one (.int true .i64 0)), (.one (.int true .i64 0)), (.one (.bool true false)), (.one (.ptr 41 0 0 true 0)), (.one (.ptr 47 0 0 true 0)), (.one (.ptr 50 0 0 true 0)), (.one (.ptr 52 0 0 true 0)), (.one (.ptr 53 0 0 true 0)), (.one (.bool true true)), (.one (.bool true false)), (.one (.map 56))]),
 (.cells true 136 [(.one (.bool true false)), (.one (.int true .i64 2)), (.row true true .u8 32 ([2] ++ List.replicate 31 0)), (.row true true .u8 32 ([4] ++ List.replicate 31 0)), (.row true false .u8 32 lit0), (.row true false .u8 32 lit0), (.one (.ptr 38 0 0 true 0))]),
 (.cells true 235 [(.row true false .u8 32 lit1), (.row true false .u8 32 lit2), (.row true false .u8 32 lit3), (.one (.bool true true)), (.one (.int true .u64 1))]),
 (.cells true 5 [(.row false false .u8 96 lit4)]),
 (.cells true 5 [(.row true false .u8 48 lit5)]),
 (.cells true 189 [(.one (.int true .i64 1)), (.one (.ptr 42 0 0 true 0)), (.one (.ptr 43 0 0 true 0)), (.one (.map 44)), (.one (.map 45)), (.one (.map 46))]),
 keyB S z32,
 keyB U z32,
 (.lmap []),
 .lmap now,
 (.lmap []),
 (.cells true 122 [(.one (.int true .i64 0)), (.one (.val (.slice .none 0 0))), (.one (.int true .i64 2048)), (.one (.int true .i64 2048)), (.one (.int true .i64 0)), (.one (.ptr 48 0 0 true 0)), (.one (.ptr 49 0 0 true 0))]),
 (.cells true 238 [(.one (.val (.slice .none 0 0)))]),
 (.cells true 238 [(.one (.val (.slice .none 0 0)))]),
 ib,
 rh,
 (.cells true 145 [(.lst true .pth 256 ([(.mk 2 100 0 0 [0, 0, 0, 0, 0, 0, 0, 0])] ++ List.replicate 255 (.mk 0 0 0 0 [0, 0, 0, 0, 0, 0, 0, 0])))]),
 (.cells true 148 [(.one (.int false .i64 (p))), (.one (.int true .i64 (-1))), (.one (.map 54))]),
 (.lmap [(0, (.ptr 55 0 0 true 0))]),
 (.cells true 212 [(.one (.int true .i64 4)), (.one (.int true .i64 0)), (.one (.val (.slice .none 0 0)))]),
 .lmap ow]
noncomputable def end1W (p : Int) (S U : List Int) (win ib bt rh rg : Blk) (ow : List (Int × A)) : List Blk := [(.cells true 89 [(.one (.int true .i64 1)), (.row true true .u8 32 ([2] ++ List.replicate 31 0)), (.row true true .u8 32 (List.replicate 32 0)), (.row true true .u8 32 ([4] ++ List.replicate 31 0)), (.one (.int false .i64 (p))), (.one (.int true .i64 2)), (.one (.int true .i64 0)), (.one (.int true .i64 0)), (.one (.ptr 37 0 0 true 0)), (.one (.vec 39)), (.one (.vec 40)), (.one (.int true .i64 0)), (.one (.int true .i64 0)), (.one (.bool true false)), (.one (.ptr 41 0 0 true 0)), (.one (.ptr 48 0 0 true 0)), (.one (.ptr 51 0 0 true 0)), (.one (.ptr 55 0 0 true 0)), (.one (.ptr 56 0 0 true 0)), (.one (.bool true true)), (.one (.bool true false)), (.one (.map 59))]),
 (.cells true 136 [(.one (.bool true false)), (.one (.int true .i64 2)), (.row true true .u8 32 ([2] ++ List.replicate 31 0)), (.row true true .u8 32 ([4] ++ List.replicate 31 0)), (.row true false .u8 32 lit0), (.row true false .u8 32 lit0), (.one (.ptr 38 0 0 true 0))]),
 (.cells true 235 [(.row true false .u8 32 lit1), (.row true false .u8 32 lit2), (.row true false .u8 32 lit3), (.one (.bool true true)), (.one (.int true .u64 1))]),
 (.cells true 5 [(.row false false .u8 96 lit4)]),
 (.cells true 5 [(.row true false .u8 48 lit5)]),
 (.cells true 189 [(.one (.int true .i64 1)), (.one (.ptr 42 0 0 true 0)), (.one (.ptr 43 0 0 true 0)), (.one (.map 44)), (.one (.map 45)), (.one (.map 47))]),
 keyB S z32,
 keyB U z32,
 (.lmap []),
 (.lmap [(0, (.ptr 46 0 0 true 0))]),
 win,
 (.lmap []),
 (.cells true 122 [(.one (.int true .i64 0)), (.one (.val (.slice .none 0 0))), (.one (.int true .i64 2048)), (.one (.int true .i64 2048)), (.one (.int true .i64 0)), (.one (.ptr 49 0 0 true 0)), (.one (.ptr 50 0 0 true 0))]),
 (.cells true 238 [(.one (.val (.slice .none 0 0)))]),
 (.cells true 238 [(.one (.val (.slice .none 0 0)))]),
 ib,
 bt,
 rh,
 rg,
 (.cells true 145 [(.lst true .pth 256 ([(.mk 2 100 0 0 [0, 0, 0, 0, 0, 0, 0, 0])] ++ List.replicate 255 (.mk 0 0 0 0 [0, 0, 0, 0, 0, 0, 0, 0])))]),
 (.cells true 148 [(.one (.int false .i64 (p))), (.one (.int true .i64 (-1))), (.one (.map 57))]),
 (.lmap [(0, (.ptr 58 0 0 true 0))]),
 (.cells true 212 [(.one (.int true .i64 4)), (.one (.int true .i64 0)), (.one (.val (.slice .none 0 0)))]),
 .lmap ow]
noncomputable def wldB (l : A) : Blk := .cells true 71 [.one (.ptr 14 0 0 true 0), .one (.ptr 36 0 0 true 0), .one l]
noncomputable def wayB (l : List Way) : Blk := .cells true 125 [.lst true .way l.length l]
noncomputable def hdN (n : Nat) : A := match n with
 | 1 => .slc true 57 0 0 1 none
 | _ => .vec 57
noncomputable def wldN (p k : Int) (S U xs : List Int) (rc : List Rec) (n : Nat) (l : List Way) : List Blk := wldB (hdN n) :: (end0 p k S U xs rc ++ (end1N p S U [] (ib0' 51) (rH (.val (.slice none 0 0))) [] ++ [wayB l]))
noncomputable def wldW (p k : Int) (S U xs : List Int) (rc : List Rec) (ws : List Int) (nx dn : Int) (bs : List Int) (rs : List Rng) (n : Nat) (l : List Way) : List Blk := wldB (.slc true 60 0 0 n none) :: (end0 p k S U xs rc ++ (end1W p S U (winB ws nx) (iBk dn (.vec 52) 53) (byB bs) (rH (.vec 54)) (rBf rs) owD ++ [wayB l]))
noncomputable def evD (n : Int) : A := .agg [.int true .i64 5, .int true .i64 0, .int true .i64 0, .int false .i64 n, .int true .i64 0, .val (.slice none 0 0)]
noncomputable abbrev kWN (p nx : Int) (S U rec ws bs' : List Int) (rs' : List Rng) : Cons := [(19, pin [.ptr 13 0 0 true 0, .fzi false .u8 rec] (conN p S U [] (ib0' 28) (rH (.val (.slice none 0 0))) []) ⟨.int true .i64 0, conN p S U [(0, .ptr 34 0 0 true 0)] (iBk 0 (.vec 35) 28) (rH (.vec 36)) owD ++ [winB ws nx, byB bs', rBf rs']⟩)]
noncomputable abbrev kWW (p dn nx nx' : Int) (S U rec ws ws' bs bs' : List Int) (rs rs' : List Rng) : Cons := [(19, pin [.ptr 13 0 0 true 0, .fzi false .u8 rec] (conW p S U (winB ws nx) (iBk dn (.vec 29) 30) (byB bs) (rH (.vec 31)) (rBf rs) owD) ⟨.int true .i64 0, conW p S U (winB ws' nx') (iBk dn (.vec 37) 30) .dead (rH (.vec 38)) .dead owD ++ [byB bs', rBf rs']⟩)]
end
section
def placeZ (n m : Int) : Int := if n < 0 then Int.tmod (0 - (n + 1)) m else Int.tmod n m
theorem plP (n m : Int) : Goes (callRun tc ((env []).fn 20) Tryz.f68 1000 [.int false .i64 n, .int false .i64 m] []) [.f] [decide (n < 0) = false, m ≠ 0] ⟨.int false .i64 (Int.tmod n m), []⟩ := by
 unfold Goes
 kernel_rfl
theorem plN (n m : Int) : Goes (callRun tc ((env []).fn 20) Tryz.f68 1000 [.int false .i64 n, .int false .i64 m] []) [.t] [decide (n < 0) = true, IntKind.i64.wrap (n + 1) = n + 1, IntKind.i64.wrap (0 - (n + 1)) = 0 - (n + 1), m ≠ 0] ⟨.int false .i64 (Int.tmod (0 - (n + 1)) m), []⟩ := by
 unfold Goes
 kernel_rfl
noncomputable def F68 : Spec := fun args mem => match args, mem with
 | [.int _ .i64 n, .int _ .i64 m], [] => .ob (m ≠ 0) (.num (placeZ n m) fun q => .leaf ⟨.int true .i64 q, []⟩)
 | _, _ => .fail
theorem f68_ok : FnOk Tryz.prog gl 68 F68 := by
 intro args mem r h
 unfold F68 at h
 split at h
 case h_2 => exact h.elim
 rename_i l n l' m
 obtain ⟨h1, h⟩ := Tr.is_ob.1 h
 have h := Tr.is_num.1 h
 have h := Tr.is_leaf.1 h
 subst h
 refine con_wf fun hw _ => ?_
 have hn : IntKind.i64.wrap n = n := hw.1
 have b1 : -9223372036854775808 ≤ n ∧ n ≤ 9223372036854775807 := by
  simp [IntKind.wrap, IntKind.bits, IntKind.signed] at hn
  omega
 unfold placeZ
 by_cases hlt : n < 0
 ·rw [if_pos hlt]
  exact con_to (con_goes cNil Tryz.func68 1000 (plN n m) ⟨decide_eq_true hlt, I64.wrap ⟨by omega, by omega⟩, I64.wrap ⟨by omega, by omega⟩, h1, trivial⟩)
 ·rw [if_neg hlt]
  exact con_to (con_goes cNil Tryz.func68 1000 (plP n m) ⟨decide_eq_false hlt, h1, trivial⟩)
end
section
noncomputable def dlvA : A := .agg [.int true .i64 0, .int true .i64 0, .val (.slice none 0 0)]
noncomputable def outN (p k : Int) (S U xs : List Int) (rc : List Rec) (ws : List Int) (nx : Int) (bs' : List Int) (rs' : List Rng) (m i : Nat) (l : List Way) : List Blk :=
 wldB (.slc true 58 0 0 (m - 1) none) :: (end0 p k S U xs rc ++ (end1N p S U [(0, .ptr 59 0 0 true 0)] (iBk 0 (.vec 60) 51) (rH (.vec 61)) owD ++ [wayB l, wayB (l.eraseIdx i ++ [⟨0, []⟩]), winB ws nx, byB bs', rBf rs']))
noncomputable def outW (p k : Int) (S U xs : List Int) (rc : List Rec) (ws : List Int) (nx dn : Int) (bs' : List Int) (rs' : List Rng) (m i : Nat) (l : List Way) : List Blk :=
 wldB (.slc true 61 0 0 (m - 1) none) :: (end0 p k S U xs rc ++ (end1W p S U (winB ws nx) (iBk dn (.vec 62) 53) .dead (rH (.vec 63)) .dead owD ++ [wayB (l ++ [⟨0, []⟩]), wayB (l.eraseIdx i ++ [⟨0, []⟩]), byB bs', rBf rs']))
theorem dwN10 (p k n nx : Int) (S U xs r0 ws bs' : List Int) (rc : List Rec) (rs' : List Rng) : Goes (callRun tc ((env ((68, F68) :: kWN p nx S U r0 ws bs' rs')).fn 20) Tryz.f11 1000 [.ptr 13 0 0 true 0, evD n] (wldN p k S U xs rc 1 [⟨1, r0⟩])) [.i 0] [(1 : Int) ≠ 0, placeZ n 1 = 0] ⟨dlvA, outN p k S U xs rc ws nx bs' rs' 1 0 [⟨1, r0⟩]⟩ := by
 unfold Goes
 kernel_rfl
theorem dwN20 (p k n nx : Int) (S U xs r0 r1 ws bs' : List Int) (rc : List Rec) (rs' : List Rng) : Goes (callRun tc ((env ((68, F68) :: kWN p nx S U r0 ws bs' rs')).fn 20) Tryz.f11 1000 [.ptr 13 0 0 true 0, evD n] (wldN p k S U xs rc 2 [⟨1, r0⟩, ⟨1, r1⟩])) [.i 0] [(2 : Int) ≠ 0, placeZ n 2 = 0] ⟨dlvA, outN p k S U xs rc ws nx bs' rs' 2 0 [⟨1, r0⟩, ⟨1, r1⟩]⟩ := by
 unfold Goes
 kernel_rfl
theorem dwN21 (p k n nx : Int) (S U xs r0 r1 ws bs' : List Int) (rc : List Rec) (rs' : List Rng) : Goes (callRun tc ((env ((68, F68) :: kWN p nx S U r1 ws bs' rs')).fn 20) Tryz.f11 1000 [.ptr 13 0 0 true 0, evD n] (wldN p k S U xs rc 2 [⟨1, r0⟩, ⟨1, r1⟩])) [.i 1] [(2 : Int) ≠ 0, placeZ n 2 = 1] ⟨dlvA, outN p k S U xs rc ws nx bs' rs' 2 1 [⟨1, r0⟩, ⟨1, r1⟩]⟩ := by
 unfold Goes
 kernel_rfl
theorem dwN30 (p k n nx : Int) (S U xs r0 r1 r2 ws bs' : List Int) (rc : List Rec) (rs' : List Rng) : Goes (callRun tc ((env ((68, F68) :: kWN p nx S U r0 ws bs' rs')).fn 20) Tryz.f11 1000 [.ptr 13 0 0 true 0, evD n] (wldN p k S U xs rc 3 [⟨1, r0⟩, ⟨1, r1⟩, ⟨1, r2⟩])) [.i 0] [(3 : Int) ≠ 0, placeZ n 3 = 0] ⟨dlvA, outN p k S U xs rc ws nx bs' rs' 3 0 [⟨1, r0⟩, ⟨1, r1⟩, ⟨1, r2⟩]⟩ := by
 unfold Goes
 kernel_rfl
theorem dwN31 (p k n nx : Int) (S U xs r0 r1 r2 ws bs' : List Int) (rc : List Rec) (rs' : List Rng) : Goes (callRun tc ((env ((68, F68) :: kWN p nx S U r1 ws bs' rs')).fn 20) Tryz.f11 1000 [.ptr 13 0 0 true 0, evD n] (wldN p k S U xs rc 3 [⟨1, r0⟩, ⟨1, r1⟩, ⟨1, r2⟩])) [.i 1] [(3 : Int) ≠ 0, placeZ n 3 = 1] ⟨dlvA, outN p k S U xs rc ws nx bs' rs' 3 1 [⟨1, r0⟩, ⟨1, r1⟩, ⟨1, r2⟩]⟩ := by
 unfold Goes
 kernel_rfl
theorem dwN32 (p k n nx : Int) (S U xs r0 r1 r2 ws bs' : List Int) (rc : List Rec) (rs' : List Rng) : Goes (callRun tc ((env ((68, F68) :: kWN p nx S U r2 ws bs' rs')).fn 20) Tryz.f11 1000 [.ptr 13 0 0 true 0, evD n] (wldN p k S U xs rc 3 [⟨1, r0⟩, ⟨1, r1⟩, ⟨1, r2⟩])) [.i 2] [(3 : Int) ≠ 0, placeZ n 3 = 2] ⟨dlvA, outN p k S U xs rc ws nx bs' rs' 3 2 [⟨1, r0⟩, ⟨1, r1⟩, ⟨1, r2⟩]⟩ := by
 unfold Goes
 kernel_rfl
theorem dwN40 (p k n nx : Int) (S U xs r0 r1 r2 r3 ws bs' : List Int) (rc : List Rec) (rs' : List Rng) : Goes (callRun tc ((env ((68, F68) :: kWN p nx S U r0 ws bs' rs')).fn 20) Tryz.f11 1000 [.ptr 13 0 0 true 0, evD n] (wldN p k S U xs rc 4 [⟨1, r0⟩, ⟨1, r1⟩, ⟨1, r2⟩, ⟨1, r3⟩])) [.i 0] [(4 : Int) ≠ 0, placeZ n 4 = 0] ⟨dlvA, outN p k S U xs rc ws nx bs' rs' 4 0 [⟨1, r0⟩, ⟨1, r1⟩, ⟨1, r2⟩, ⟨1, r3⟩]⟩ := by
 unfold Goes
 kernel_rfl
theorem dwN41 (p k n nx : Int) (S U xs r0 r1 r2 r3 ws bs' : List Int) (rc : List Rec) (rs' : List Rng) : Goes (callRun tc ((env ((68, F68) :: kWN p nx S U r1 ws bs' rs')).fn 20) Tryz.f11 1000 [.ptr 13 0 0 true 0, evD n] (wldN p k S U xs rc 4 [⟨1, r0⟩, ⟨1, r1⟩, ⟨1, r2⟩, ⟨1, r3⟩])) [.i 1] [(4 : Int) ≠ 0, placeZ n 4 = 1] ⟨dlvA, outN p k S U xs rc ws nx bs' rs' 4 1 [⟨1, r0⟩, ⟨1, r1⟩, ⟨1, r2⟩, ⟨1, r3⟩]⟩ := by
 unfold Goes
 kernel_rfl
theorem dwN42 (p k n nx : Int) (S U xs r0 r1 r2 r3 ws bs' : List Int) (rc : List Rec) (rs' : List Rng) : Goes (callRun tc ((env ((68, F68) :: kWN p nx S U r2 ws bs' rs')).fn 20) Tryz.f11 1000 [.ptr 13 0 0 true 0, evD n] (wldN p k S U xs rc 4 [⟨1, r0⟩, ⟨1, r1⟩, ⟨1, r2⟩, ⟨1, r3⟩])) [.i 2] [(4 : Int) ≠ 0, placeZ n 4 = 2] ⟨dlvA, outN p k S U xs rc ws nx bs' rs' 4 2 [⟨1, r0⟩, ⟨1, r1⟩, ⟨1, r2⟩, ⟨1, r3⟩]⟩ := by
 unfold Goes
 kernel_rfl
theorem dwN43 (p k n nx : Int) (S U xs r0 r1 r2 r3 ws bs' : List Int) (rc : List Rec) (rs' : List Rng) : Goes (callRun tc ((env ((68, F68) :: kWN p nx S U r3 ws bs' rs')).fn 20) Tryz.f11 1000 [.ptr 13 0 0 true 0, evD n] (wldN p k S U xs rc 4 [⟨1, r0⟩, ⟨1, r1⟩, ⟨1, r2⟩, ⟨1, r3⟩])) [.i 3] [(4 : Int) ≠ 0, placeZ n 4 = 3] ⟨dlvA, outN p k S U xs rc ws nx bs' rs' 4 3 [⟨1, r0⟩, ⟨1, r1⟩, ⟨1, r2⟩, ⟨1, r3⟩]⟩ := by
 unfold Goes
 kernel_rfl
theorem dwW10 (p k n nx nx' dn : Int) (S U xs r0 ws ws' bs bs' : List Int) (rc : List Rec) (rs rs' : List Rng) : Goes (callRun tc ((env ((68, F68) :: kWW p dn nx nx' S U r0 ws ws' bs bs' rs rs')).fn 20) Tryz.f11 1000 [.ptr 13 0 0 true 0, evD n] (wldW p k S U xs rc ws nx dn bs rs 1 ([⟨1, r0⟩] ++ [⟨0, []⟩]))) [.i 0] [(1 : Int) ≠ 0, placeZ n 1 = 0] ⟨dlvA, outW p k S U xs rc ws' nx' dn bs' rs' 1 0 [⟨1, r0⟩]⟩ := by
 unfold Goes
 kernel_rfl
theorem dwW20 (p k n nx nx' dn : Int) (S U xs r0 r1 ws ws' bs bs' : List Int) (rc : List Rec) (rs rs' : List Rng) : Goes (callRun tc ((env ((68, F68) :: kWW p dn nx nx' S U r0 ws ws' bs bs' rs rs')).fn 20) Tryz.f11 1000 [.ptr 13 0 0 true 0, evD n] (wldW p k S U xs rc ws nx dn bs rs 2 ([⟨1, r0⟩, ⟨1, r1⟩] ++ [⟨0, []⟩]))) [.i 0] [(2 : Int) ≠ 0, placeZ n 2 = 0] ⟨dlvA, outW p k S U xs rc ws' nx' dn bs' rs' 2 0 [⟨1, r0⟩, ⟨1, r1⟩]⟩ := by
 unfold Goes
 kernel_rfl
theorem dwW21 (p k n nx nx' dn : Int) (S U xs r0 r1 ws ws' bs bs' : List Int) (rc : List Rec) (rs rs' : List Rng) : Goes (callRun tc ((env ((68, F68) :: kWW p dn nx nx' S U r1 ws ws' bs bs' rs rs')).fn 20) Tryz.f11 1000 [.ptr 13 0 0 true 0, evD n] (wldW p k S U xs rc ws nx dn bs rs 2 ([⟨1, r0⟩, ⟨1, r1⟩] ++ [⟨0, []⟩]))) [.i 1] [(2 : Int) ≠ 0, placeZ n 2 = 1] ⟨dlvA, outW p k S U xs rc ws' nx' dn bs' rs' 2 1 [⟨1, r0⟩, ⟨1, r1⟩]⟩ := by
 unfold Goes
 kernel_rfl
theorem dwW30 (p k n nx nx' dn : Int) (S U xs r0 r1 r2 ws ws' bs bs' : List Int) (rc : List Rec) (rs rs' : List Rng) : Goes (callRun tc ((env ((68, F68) :: kWW p dn nx nx' S U r0 ws ws' bs bs' rs rs')).fn 20) Tryz.f11 1000 [.ptr 13 0 0 true 0, evD n] (wldW p k S U xs rc ws nx dn bs rs 3 ([⟨1, r0⟩, ⟨1, r1⟩, ⟨1, r2⟩] ++ [⟨0, []⟩]))) [.i 0] [(3 : Int) ≠ 0, placeZ n 3 = 0] ⟨dlvA, outW p k S U xs rc ws' nx' dn bs' rs' 3 0 [⟨1, r0⟩, ⟨1, r1⟩, ⟨1, r2⟩]⟩ := by
 unfold Goes
 kernel_rfl
theorem dwW31 (p k n nx nx' dn : Int) (S U xs r0 r1 r2 ws ws' bs bs' : List Int) (rc : List Rec) (rs rs' : List Rng) : Goes (callRun tc ((env ((68, F68) :: kWW p dn nx nx' S U r1 ws ws' bs bs' rs rs')).fn 20) Tryz.f11 1000 [.ptr 13 0 0 true 0, evD n] (wldW p k S U xs rc ws nx dn bs rs 3 ([⟨1, r0⟩, ⟨1, r1⟩, ⟨1, r2⟩] ++ [⟨0, []⟩]))) [.i 1] [(3 : Int) ≠ 0, placeZ n 3 = 1] ⟨dlvA, outW p k S U xs rc ws' nx' dn bs' rs' 3 1 [⟨1, r0⟩, ⟨1, r1⟩, ⟨1, r2⟩]⟩ := by
 unfold Goes
 kernel_rfl
theorem dwW32 (p k n nx nx' dn : Int) (S U xs r0 r1 r2 ws ws' bs bs' : List Int) (rc : List Rec) (rs rs' : List Rng) : Goes (callRun tc ((env ((68, F68) :: kWW p dn nx nx' S U r2 ws ws' bs bs' rs rs')).fn 20) Tryz.f11 1000 [.ptr 13 0 0 true 0, evD n] (wldW p k S U xs rc ws nx dn bs rs 3 ([⟨1, r0⟩, ⟨1, r1⟩, ⟨1, r2⟩] ++ [⟨0, []⟩]))) [.i 2] [(3 : Int) ≠ 0, placeZ n 3 = 2] ⟨dlvA, outW p k S U xs rc ws' nx' dn bs' rs' 3 2 [⟨1, r0⟩, ⟨1, r1⟩, ⟨1, r2⟩]⟩ := by
 unfold Goes
 kernel_rfl
end
section
def waysO (rl : List (List Int)) : List Way := rl.map fun r => ⟨1, r⟩
def DelN (p nx : Int) (S U rec ws bs' : List Int) (rs' : List Rng) : Prop := Con Tryz.prog gl 19 [.ptr 13 0 0 true 0, .fzi false .u8 rec] (conN p S U [] (ib0' 28) (rH (.val (.slice none 0 0))) []) ⟨.int true .i64 0, conN p S U [(0, .ptr 34 0 0 true 0)] (iBk 0 (.vec 35) 28) (rH (.vec 36)) owD ++ [winB ws nx, byB bs', rBf rs']⟩
def DelW (p dn nx nx' : Int) (S U rec ws ws' bs bs' : List Int) (rs rs' : List Rng) : Prop := Con Tryz.prog gl 19 [.ptr 13 0 0 true 0, .fzi false .u8 rec] (conW p S U (winB ws nx) (iBk dn (.vec 29) 30) (byB bs) (rH (.vec 31)) (rBf rs) owD) ⟨.int true .i64 0, conW p S U (winB ws' nx') (iBk dn (.vec 37) 30) .dead (rH (.vec 38)) .dead owD ++ [byB bs', rBf rs']⟩
theorem kWN_ok {p nx : Int} {S U rec ws bs' : List Int} {rs' : List Rng} (h : DelN p nx S U rec ws bs' rs') : ConsOk ((68, F68) :: kWN p nx S U rec ws bs' rs') :=
 cons_ok f68_ok (Or.inl (by decide)) (cons_ok (pin_ok h) (Or.inl (by decide)) cNil)
theorem kWW_ok {p dn nx nx' : Int} {S U rec ws ws' bs bs' : List Int} {rs rs' : List Rng} (h : DelW p dn nx nx' S U rec ws ws' bs bs' rs rs') : ConsOk ((68, F68) :: kWW p dn nx nx' S U rec ws ws' bs bs' rs rs') :=
 cons_ok f68_ok (Or.inl (by decide)) (cons_ok (pin_ok h) (Or.inl (by decide)) cNil)
set_option maxHeartbeats 1000000 in
theorem do_conN {p k n nx : Int} {S U xs rec ws bs' : List Int} {rc : List Rec} {rs' : List Rng} (rl : List (List Int)) (i : Nat) (hl : rl.length ≤ 4) (hi : rl[i]? = some rec) (hp : placeZ n (rl.length : Int) = (i : Int)) (h : DelN p nx S U rec ws bs' rs') :
  Con Tryz.prog gl 11 [.ptr 13 0 0 true 0, evD n] (wldN p k S U xs rc rl.length (waysO rl)) ⟨dlvA, outN p k S U xs rc ws nx bs' rs' rl.length i (waysO rl)⟩ := by
 have hk := kWN_ok h
 match rl, i, hl, hi, hp with
 | [r0], 0, _, hi, hp =>
  cases hi
  exact con_goes hk Tryz.func11 1000 (dwN10 p k n nx S U xs rec ws bs' rc rs') ⟨by decide, hp, trivial⟩
 | [r0, r1], 0, _, hi, hp =>
  cases hi
  exact con_goes hk Tryz.func11 1000 (dwN20 p k n nx S U xs rec r1 ws bs' rc rs') ⟨by decide, hp, trivial⟩
 | [r0, r1], 1, _, hi, hp =>
  cases hi
  exact con_goes hk Tryz.func11 1000 (dwN21 p k n nx S U xs r0 rec ws bs' rc rs') ⟨by decide, hp, trivial⟩
 | [r0, r1, r2], 0, _, hi, hp =>
  cases hi
  exact con_goes hk Tryz.func11 1000 (dwN30 p k n nx S U xs rec r1 r2 ws bs' rc rs') ⟨by decide, hp, trivial⟩
 | [r0, r1, r2], 1, _, hi, hp =>
  cases hi
  exact con_goes hk Tryz.func11 1000 (dwN31 p k n nx S U xs r0 rec r2 ws bs' rc rs') ⟨by decide, hp, trivial⟩
 | [r0, r1, r2], 2, _, hi, hp =>
  cases hi
  exact con_goes hk Tryz.func11 1000 (dwN32 p k n nx S U xs r0 r1 rec ws bs' rc rs') ⟨by decide, hp, trivial⟩
 | [r0, r1, r2, r3], 0, _, hi, hp =>
  cases hi
  exact con_goes hk Tryz.func11 1000 (dwN40 p k n nx S U xs rec r1 r2 r3 ws bs' rc rs') ⟨by decide, hp, trivial⟩
 | [r0, r1, r2, r3], 1, _, hi, hp =>
  cases hi
  exact con_goes hk Tryz.func11 1000 (dwN41 p k n nx S U xs r0 rec r2 r3 ws bs' rc rs') ⟨by decide, hp, trivial⟩
 | [r0, r1, r2, r3], 2, _, hi, hp =>
  cases hi
  exact con_goes hk Tryz.func11 1000 (dwN42 p k n nx S U xs r0 r1 rec r3 ws bs' rc rs') ⟨by decide, hp, trivial⟩
 | [r0, r1, r2, r3], 3, _, hi, hp =>
  cases hi
  exact con_goes hk Tryz.func11 1000 (dwN43 p k n nx S U xs r0 r1 r2 rec ws bs' rc rs') ⟨by decide, hp, trivial⟩
 | [], i, _, hi, _ => simp at hi
 | [_], i + 1, _, hi, _ => simp at hi
 | [_, _], i + 2, _, hi, _ => simp at hi
 | [_, _, _], i + 3, _, hi, _ => simp at hi
 | [_, _, _, _], i + 4, _, hi, _ => simp at hi
 | _ :: _ :: _ :: _ :: _ :: _, _, hl, _, _ => simp at hl
set_option maxHeartbeats 1000000 in
theorem do_conW {p k n nx nx' dn : Int} {S U xs rec ws ws' bs bs' : List Int} {rc : List Rec} {rs rs' : List Rng} (rl : List (List Int)) (i : Nat) (hl : rl.length ≤ 3) (hi : rl[i]? = some rec) (hp : placeZ n (rl.length : Int) = (i : Int)) (h : DelW p dn nx nx' S U rec ws ws' bs bs' rs rs') :
  Con Tryz.prog gl 11 [.ptr 13 0 0 true 0, evD n] (wldW p k S U xs rc ws nx dn bs rs rl.length (waysO rl ++ [⟨0, []⟩])) ⟨dlvA, outW p k S U xs rc ws' nx' dn bs' rs' rl.length i (waysO rl)⟩ := by
 have hk := kWW_ok h
 match rl, i, hl, hi, hp with
 | [r0], 0, _, hi, hp =>
  cases hi
  exact con_goes hk Tryz.func11 1000 (dwW10 p k n nx nx' dn S U xs rec ws ws' bs bs' rc rs rs') ⟨by decide, hp, trivial⟩
 | [r0, r1], 0, _, hi, hp =>
  cases hi
  exact con_goes hk Tryz.func11 1000 (dwW20 p k n nx nx' dn S U xs rec r1 ws ws' bs bs' rc rs rs') ⟨by decide, hp, trivial⟩
 | [r0, r1], 1, _, hi, hp =>
  cases hi
  exact con_goes hk Tryz.func11 1000 (dwW21 p k n nx nx' dn S U xs r0 rec ws ws' bs bs' rc rs rs') ⟨by decide, hp, trivial⟩
 | [r0, r1, r2], 0, _, hi, hp =>
  cases hi
  exact con_goes hk Tryz.func11 1000 (dwW30 p k n nx nx' dn S U xs rec r1 r2 ws ws' bs bs' rc rs rs') ⟨by decide, hp, trivial⟩
 | [r0, r1, r2], 1, _, hi, hp =>
  cases hi
  exact con_goes hk Tryz.func11 1000 (dwW31 p k n nx nx' dn S U xs r0 rec r2 ws ws' bs bs' rc rs rs') ⟨by decide, hp, trivial⟩
 | [r0, r1, r2], 2, _, hi, hp =>
  cases hi
  exact con_goes hk Tryz.func11 1000 (dwW32 p k n nx nx' dn S U xs r0 r1 rec ws ws' bs bs' rc rs rs') ⟨by decide, hp, trivial⟩
 | [], i, _, hi, _ => simp at hi
 | [_], i + 1, _, hi, _ => simp at hi
 | [_, _], i + 2, _, hi, _ => simp at hi
 | [_, _, _], i + 3, _, hi, _ => simp at hi
 | _ :: _ :: _ :: _ :: _, _, hl, _, _ => simp at hl
end
section
noncomputable def wld0 (p : Int) (S U : List Int) (ob : Blk) : List Blk := [(.cells true 71 [(.one (.ptr 14 0 0 true 0)), (.one (.ptr 34 0 0 true 0)), (.one (.slc true 55 0 0 0 .none))]),
 (.cells true 89 [(.one (.int true .i64 0)), (.row true true .u8 32 ([1] ++ List.replicate 31 0)), (.row true true .u8 32 lit0), (.row true true .u8 32 ([3] ++ List.replicate 31 0)), (.one (.int false .i64 (p))), (.one (.int true .i64 2)), (.one (.int true .i64 0)), (.one (.int true .i64 0)), (.one (.ptr 15 0 0 true 0)), (.one (.vec 17)), (.one (.val (.slice .none 0 0))), (.one (.int true .i64 200)), (.one (.int true .i64 0)), (.one (.bool true false)), (.one (.ptr 18 0 0 true 0)), (.one (.ptr 24 0 0 true 0)), (.one (.ptr 27 0 0 true 0)), (.one (.ptr 29 0 0 true 0)), (.one (.ptr 30 0 0 true 0)), (.one (.bool true true)), (.one (.bool true false)), (.one (.map 33))]),
 (.cells true 136 [(.one (.bool true true)), (.one (.int true .i64 2)), (.row true true .u8 32 ([1] ++ List.replicate 31 0)), (.row true true .u8 32 ([3] ++ List.replicate 31 0)), (.row true true .u8 32 lit0), (.row true true .u8 32 (List.replicate 32 0)), (.one (.ptr 16 0 0 true 0))]),
 (.cells true 235 [(.row true false .u8 32 lit1), (.row true false .u8 32 lit2), (.row true false .u8 32 lit3), (.one (.bool true true)), (.one (.int true .u64 1))]),
 (.cells true 5 [(.row true true .u8 96 lit4)]),
 (.cells true 189 [(.one (.int true .i64 0)), (.one (.ptr 19 0 0 true 0)), (.one (.ptr 20 0 0 true 0)), (.one (.map 21)), (.one (.map 22)), (.one (.map 23))]),
 keyB U z32,
 keyB S z32,
 (.lmap []),
 (.lmap []),
 (.lmap []),
 ob,
 (.cells true 238 [(.one (.val (.slice .none 0 0)))]),
 (.cells true 238 [(.one (.val (.slice .none 0 0)))]),
 (.cells true 140 [(.one (.int true .i64 2048)), (.one (.int true .i64 0)), (.one (.val (.slice .none 0 0))), (.one (.ptr 28 0 0 true 0))]),
 (.cells true 238 [(.one (.val (.slice .none 0 0)))]),
 (.cells true 145 [(.lst true .pth 256 ([(.mk 2 100 0 0 [0, 0, 0, 0, 0, 0, 0, 0])] ++ List.replicate 255 (.mk 0 0 0 0 [0, 0, 0, 0, 0, 0, 0, 0])))]),
 (.cells true 148 [(.one (.int false .i64 (p))), (.one (.int true .i64 (-1))), (.one (.map 31))]),
 (.lmap [(0, (.ptr 32 0 0 true 0))]),
 (.cells true 212 [(.one (.int true .i64 4)), (.one (.int true .i64 0)), (.one (.val (.slice .none 0 0)))]),
 (.lmap []),
 (.cells true 89 [(.one (.int true .i64 1)), (.row true true .u8 32 ([2] ++ List.replicate 31 0)), (.row true true .u8 32 (List.replicate 32 0)), (.row true true .u8 32 ([4] ++ List.replicate 31 0)), (.one (.int false .i64 (p))), (.one (.int true .i64 2)), (.one (.int true .i64 0)), (.one (.int true .i64 0)), (.one (.ptr 35 0 0 true 0)), (.one (.vec 37)), (.one (.vec 38)), (.one (.int true .i64 0)), (.one (.int true .i64 0)), (.one (.bool true false)), (.one (.ptr 39 0 0 true 0)), (.one (.ptr 45 0 0 true 0)), (.one (.ptr 48 0 0 true 0)), (.one (.ptr 50 0 0 true 0)), (.one (.ptr 51 0 0 true 0)), (.one (.bool true true)), (.one (.bool true false)), (.one (.map 54))]),
 (.cells true 136 [(.one (.bool true false)), (.one (.int true .i64 2)), (.row true true .u8 32 ([2] ++ List.replicate 31 0)), (.row true true .u8 32 ([4] ++ List.replicate 31 0)), (.row true false .u8 32 lit0), (.row true false .u8 32 lit0), (.one (.ptr 36 0 0 true 0))]),
 (.cells true 235 [(.row true false .u8 32 lit1), (.row true false .u8 32 lit2), (.row true false .u8 32 lit3), (.one (.bool true true)), (.one (.int true .u64 1))]),
 (.cells true 5 [(.row false false .u8 96 lit4)]),
 (.cells true 5 [(.row true false .u8 48 lit5)]),
 (.cells true 189 [(.one (.int true .i64 1)), (.one (.ptr 40 0 0 true 0)), (.one (.ptr 41 0 0 true 0)), (.one (.map 42)), (.one (.map 43)), (.one (.map 44))]),
 keyB S z32,
 keyB U z32,
 (.lmap []),
 (.lmap []),
 (.lmap []),
 (.cells true 122 [(.one (.int true .i64 0)), (.one (.val (.slice .none 0 0))), (.one (.int true .i64 2048)), (.one (.int true .i64 2048)), (.one (.int true .i64 0)), (.one (.ptr 46 0 0 true 0)), (.one (.ptr 47 0 0 true 0))]),
 (.cells true 238 [(.one (.val (.slice .none 0 0)))]),
 (.cells true 238 [(.one (.val (.slice .none 0 0)))]),
 (.cells true 140 [(.one (.int true .i64 2048)), (.one (.int true .i64 0)), (.one (.val (.slice .none 0 0))), (.one (.ptr 49 0 0 true 0))]),
 (.cells true 238 [(.one (.val (.slice .none 0 0)))]),
 (.cells true 145 [(.lst true .pth 256 ([(.mk 2 100 0 0 [0, 0, 0, 0, 0, 0, 0, 0])] ++ List.replicate 255 (.mk 0 0 0 0 [0, 0, 0, 0, 0, 0, 0, 0])))]),
 (.cells true 148 [(.one (.int false .i64 (p))), (.one (.int true .i64 (-1))), (.one (.map 52))]),
 (.lmap [(0, (.ptr 53 0 0 true 0))]),
 (.cells true 212 [(.one (.int true .i64 4)), (.one (.int true .i64 0)), (.one (.val (.slice .none 0 0)))]),
 (.lmap []),
 (.cells true 125 [(.lst true .way 1 [(.mk 0 [])])])]
noncomputable def wldP (p : Int) (S U xs : List Int) : List Blk := [(.cells true 71 [(.one (.ptr 14 0 0 true 0)), (.one (.ptr 35 0 0 true 0)), (.one (.slc true 56 0 0 0 .none))]),
 (.cells true 89 [(.one (.int true .i64 0)), (.row true true .u8 32 ([1] ++ List.replicate 31 0)), (.row true true .u8 32 lit0), (.row true true .u8 32 ([3] ++ List.replicate 31 0)), (.one (.int false .i64 (p))), (.one (.int true .i64 2)), (.one (.int true .i64 0)), (.one (.int true .i64 0)), (.one (.ptr 15 0 0 true 0)), (.one (.vec 17)), (.one (.val (.slice .none 0 0))), (.one (.int true .i64 200)), (.one (.int true .i64 0)), (.one (.bool true false)), (.one (.ptr 18 0 0 true 0)), (.one (.ptr 24 0 0 true 0)), (.one (.ptr 28 0 0 true 0)), (.one (.ptr 30 0 0 true 0)), (.one (.ptr 31 0 0 true 0)), (.one (.bool true true)), (.one (.bool true false)), (.one (.map 34))]),
 (.cells true 136 [(.one (.bool true true)), (.one (.int true .i64 2)), (.row true true .u8 32 ([1] ++ List.replicate 31 0)), (.row true true .u8 32 ([3] ++ List.replicate 31 0)), (.row true true .u8 32 lit0), (.row true true .u8 32 (List.replicate 32 0)), (.one (.ptr 16 0 0 true 0))]),
 (.cells true 235 [(.row true false .u8 32 lit1), (.row true false .u8 32 lit2), (.row true false .u8 32 lit3), (.one (.bool true true)), (.one (.int true .u64 1))]),
 (.cells true 5 [(.row true true .u8 96 lit4)]),
 (.cells true 189 [(.one (.int true .i64 0)), (.one (.ptr 19 0 0 true 0)), (.one (.ptr 20 0 0 true 0)), (.one (.map 21)), (.one (.map 22)), (.one (.map 23))]),
 keyB U z32,
 keyB S z32,
 (.lmap []),
 (.lmap []),
 (.lmap []),
 (.cells true 122 [.one (.int true .i64 0), .one (.vec 25), .one (.int true .i64 2048), .one (.int true .i64 2048), .one (.int true .i64 0), .one (.ptr 26 0 0 true 0), .one (.ptr 27 0 0 true 0)]),
 byB xs,
 (.cells true 238 [(.one (.val (.slice .none 0 0)))]),
 (.cells true 238 [(.one (.val (.slice .none 0 0)))]),
 (.cells true 140 [(.one (.int true .i64 2048)), (.one (.int true .i64 0)), (.one (.val (.slice .none 0 0))), (.one (.ptr 29 0 0 true 0))]),
 (.cells true 238 [(.one (.val (.slice .none 0 0)))]),
 (.cells true 145 [(.lst true .pth 256 ([(.mk 2 100 0 0 [0, 0, 0, 0, 0, 0, 0, 0])] ++ List.replicate 255 (.mk 0 0 0 0 [0, 0, 0, 0, 0, 0, 0, 0])))]),
 (.cells true 148 [(.one (.int false .i64 (p))), (.one (.int true .i64 (-1))), (.one (.map 32))]),
 (.lmap [(0, (.ptr 33 0 0 true 0))]),
 (.cells true 212 [(.one (.int true .i64 4)), (.one (.int true .i64 0)), (.one (.val (.slice .none 0 0)))]),
 (.lmap []),
 (.cells true 89 [(.one (.int true .i64 1)), (.row true true .u8 32 ([2] ++ List.replicate 31 0)), (.row true true .u8 32 (List.replicate 32 0)), (.row true true .u8 32 ([4] ++ List.replicate 31 0)), (.one (.int false .i64 (p))), (.one (.int true .i64 2)), (.one (.int true .i64 0)), (.one (.int true .i64 0)), (.one (.ptr 36 0 0 true 0)), (.one (.vec 38)), (.one (.vec 39)), (.one (.int true .i64 0)), (.one (.int true .i64 0)), (.one (.bool true false)), (.one (.ptr 40 0 0 true 0)), (.one (.ptr 46 0 0 true 0)), (.one (.ptr 49 0 0 true 0)), (.one (.ptr 51 0 0 true 0)), (.one (.ptr 52 0 0 true 0)), (.one (.bool true true)), (.one (.bool true false)), (.one (.map 55))]),
 (.cells true 136 [(.one (.bool true false)), (.one (.int true .i64 2)), (.row true true .u8 32 ([2] ++ List.replicate 31 0)), (.row true true .u8 32 ([4] ++ List.replicate 31 0)), (.row true false .u8 32 lit0), (.row true false .u8 32 lit0), (.one (.ptr 37 0 0 true 0))]),
 (.cells true 235 [(.row true false .u8 32 lit1), (.row true false .u8 32 lit2), (.row true false .u8 32 lit3), (.one (.bool true true)), (.one (.int true .u64 1))]),
 (.cells true 5 [(.row false false .u8 96 lit4)]),
 (.cells true 5 [(.row true false .u8 48 lit5)]),
 (.cells true 189 [(.one (.int true .i64 1)), (.one (.ptr 41 0 0 true 0)), (.one (.ptr 42 0 0 true 0)), (.one (.map 43)), (.one (.map 44)), (.one (.map 45))]),
 keyB S z32,
 keyB U z32,
 (.lmap []),
 (.lmap []),
 (.lmap []),
 (.cells true 122 [(.one (.int true .i64 0)), (.one (.val (.slice .none 0 0))), (.one (.int true .i64 2048)), (.one (.int true .i64 2048)), (.one (.int true .i64 0)), (.one (.ptr 47 0 0 true 0)), (.one (.ptr 48 0 0 true 0))]),
 (.cells true 238 [(.one (.val (.slice .none 0 0)))]),
 (.cells true 238 [(.one (.val (.slice .none 0 0)))]),
 (.cells true 140 [(.one (.int true .i64 2048)), (.one (.int true .i64 0)), (.one (.val (.slice .none 0 0))), (.one (.ptr 50 0 0 true 0))]),
 (.cells true 238 [(.one (.val (.slice .none 0 0)))]),
 (.cells true 145 [(.lst true .pth 256 ([(.mk 2 100 0 0 [0, 0, 0, 0, 0, 0, 0, 0])] ++ List.replicate 255 (.mk 0 0 0 0 [0, 0, 0, 0, 0, 0, 0, 0])))]),
 (.cells true 148 [(.one (.int false .i64 (p))), (.one (.int true .i64 (-1))), (.one (.map 53))]),
 (.lmap [(0, (.ptr 54 0 0 true 0))]),
 (.cells true 212 [(.one (.int true .i64 4)), (.one (.int true .i64 0)), (.one (.val (.slice .none 0 0)))]),
 (.lmap []),
 (.cells true 125 [(.lst true .way 1 [(.mk 0 [])])])]
noncomputable def evP (who : Int) : A := .agg [.int true .i64 4, .int true .i64 who, .int true .i64 0, .int true .i64 9, .int true .i64 0, .val (.slice none 0 0)]
noncomputable abbrev kPo : Cons := [(155, F155), (154, F154), (69, F69), (235, F235)]
noncomputable def outB (v : A) : Blk := .cells true 122 [.one (.int true .i64 0), .one v, .one (.int true .i64 2048), .one (.int true .i64 2048), .one (.int true .i64 0), .one (.ptr 25 0 0 true 0), .one (.ptr 26 0 0 true 0)]
noncomputable def evW (bs : A) : A := .agg [.int true .i64 1, .int true .i64 0, .int true .i64 0, .int true .i64 0, .int true .i64 0, bs]
def wrX (xs : List Int) : List Int := subS false 0 (Int.toNat (xs.length : Int)) false xs
theorem wrX_eq (xs : List Int) : wrX xs = xs := by
 show (xs.take (Int.toNat (xs.length : Int))).drop 0 = xs
 rw [Int.toNat_natCast, List.drop_zero, List.take_length]
theorem wr (p : Int) (S U xs : List Int) : Goes (callRun tc ((env kE).fn 20) Tryz.f11 1000 [.ptr 13 0 0 true 0, evW (.fzi false .u8 xs)] (wld0 p S U (outB (.val (.slice none 0 0))))) [.f]
  [decide ((2048 : Int) < (xs.length : Int)) = false, bdI 0 xs.length xs.length xs.length, (wrX xs).length * 1 ≤ 140737488355328 ∧ (wrX xs).length < 9223372036854775808]
  ⟨.agg [.int true .i64 0, .int false .i64 xs.length, .val (.slice none 0 0)], wld0 p S U (outB (.vec 56)) ++ [byB (wrX xs)]⟩ := by
 unfold Goes
 kernel_rfl
theorem wr_con {p : Int} {S U xs : List Int} (h : xs.length ≤ 2048) : Con Tryz.prog gl 11 [.ptr 13 0 0 true 0, evW (.fzi false .u8 xs)] (wld0 p S U (outB (.val (.slice none 0 0)))) ⟨.agg [.int true .i64 0, .int false .i64 xs.length, .val (.slice none 0 0)], wld0 p S U (outB (.vec 56)) ++ [byB xs]⟩ := by
 have con := con_goes cE Tryz.func11 1000 (wr p S U xs) ⟨decide_eq_false (by omega), by unfold bdI; omega, by rw [wrX_eq]; omega, trivial⟩
 rw [wrX_eq] at con
 exact con
end
section
def piece (xs : List Int) (j : Nat) : List Int := (xs.drop (128 * j)).take 128
def wsM (m : Nat) : List Int := (m : Int) :: List.replicate 15 0
def nxM (m : Nat) : Nat := if 8 ≤ m then 4 else if 4 ≤ m then 3 else if 2 ≤ m then 2 else if 1 ≤ m then 1 else 0
def eM (L j : Nat) : Int := min (128 * ((j : Int) + 1)) (L : Int)
def rsM (e : Nat → Int) (m : Nat) : List Rng :=
 if m = 1 then [⟨0, e 0⟩] else if m = 2 then [⟨128, e 1⟩] else if m = 3 then [⟨0, e 1⟩] else if m = 4 then [⟨256, e 2⟩]
 else if m = 5 then [⟨0, e 0⟩, ⟨256, e 2⟩] else if m = 6 then [⟨128, e 2⟩] else if m = 7 then [⟨0, e 2⟩] else if m = 8 then [⟨384, e 3⟩]
 else if m = 9 then [⟨0, e 0⟩, ⟨384, e 3⟩] else if m = 10 then [⟨128, e 1⟩, ⟨384, e 3⟩] else if m = 11 then [⟨0, e 1⟩, ⟨384, e 3⟩] else if m = 12 then [⟨256, e 3⟩]
 else if m = 13 then [⟨0, e 0⟩, ⟨256, e 3⟩] else if m = 14 then [⟨128, e 3⟩] else [⟨0, e 3⟩]
def winBit (m i : Nat) : Bool := m.testBit i || (if nxM m ≤ i then decide (putW (clrs (i : Int) (i + 1 - nxM m) 0 (wsM m)) (i : Int) = wsM (m + 2 ^ i)) && Nat.beq (nxM (m + 2 ^ i)) (i + 1)
 else !hasW (wsM m) (i : Int) && decide (putW (wsM m) (i : Int) = wsM (m + 2 ^ i)) && Nat.beq (nxM (m + 2 ^ i)) (nxM m))
theorem winBits : ((List.range 16).all fun m => (List.range 4).all fun i => winBit m i) = true := by kernel_rfl
theorem win_step {m i : Nat} (hm : m < 16) (hi : i < 4) (hb : m.testBit i = false) : WinOk (i : Int) (wsM m) (nxM m : Int) (wsM (m + 2 ^ i)) (nxM (m + 2 ^ i) : Int) := by
 have h := List.all_eq_true.1 (List.all_eq_true.1 winBits m (List.mem_range.2 hm)) i (List.mem_range.2 hi)
 unfold winBit at h
 rw [hb, Bool.false_or] at h
 by_cases hx : nxM m ≤ i
 ·rw [if_pos hx] at h
  obtain ⟨h1, h2⟩ := Bool.and_eq_true_iff.1 h
  have h1 := of_decide_eq_true h1
  have h2 := Nat.eq_of_beq_eq_true h2
  rw [← h1, h2]
  exact win_new (i + 1 - nxM m) (by omega) (by omega) (by omega) (by omega) (by omega)
 ·rw [if_neg hx] at h
  obtain ⟨h1, h2⟩ := Bool.and_eq_true_iff.1 h
  obtain ⟨h0, h1⟩ := Bool.and_eq_true_iff.1 h1
  have h1 := of_decide_eq_true h1
  have h2 := Nat.eq_of_beq_eq_true h2
  have hn : nxM m ≤ 4 := by unfold nxM; split <;> (try omega) <;> split <;> (try omega) <;> split <;> (try omega) <;> split <;> omega
  rw [← h1, h2]
  exact win_old (by omega) (by omega) (by omega) (by omega) (by cases hh : hasW (wsM m) (i : Int) with | false => rfl | true => rw [hh] at h0; cases h0)
theorem piece_length (xs : List Int) (j : Nat) (h : 128 * j < xs.length) : ((piece xs j).length : Int) = eM xs.length j - 128 * j := by
 unfold piece eM
 rw [List.length_take, List.length_drop]
 omega
theorem takeW_of {dn a : Int} {ds bs bs' : List Int} {rs rs' : List Rng} (h : Con Tryz.prog gl 125 (tkA a ds) (ibR dn bs rs) ⟨.int false .i64 ds.length, ibQ dn bs' rs'⟩) : TakeW dn a ds bs bs' rs rs' := con_to h
theorem takeW_eq {dn a : Int} {ds bs bs' : List Int} {rs rs' rs0 rs1 : List Rng} (h : Con Tryz.prog gl 125 (tkA a ds) (ibR dn bs rs0) ⟨.int false .i64 ds.length, ibQ dn bs' rs1⟩) (e0 : rs = rs0) (e1 : rs' = rs1) : TakeW dn a ds bs bs' rs rs' := by
 rw [e0, e1]
 exact takeW_of h
theorem take_first {xs : List Int} {i : Nat} (hi : i < 4) (hl : xs.length ≤ 512) (h : 128 * i < xs.length) : TakeN (128 * (i : Int)) (piece xs i) (inP 0 (128 * (i : Int)) [] (piece xs i)) (rsM (eM xs.length) (2 ^ i)) := by
 have hp := piece_length xs i h
 have e : rsM (eM xs.length) (2 ^ i) = [⟨128 * (i : Int), 128 * (i : Int) + (piece xs i).length⟩] := by
  rw [show 128 * (i : Int) + (piece xs i).length = eM xs.length i by omega]
  obtain rfl | rfl | rfl | rfl : i = 0 ∨ i = 1 ∨ i = 2 ∨ i = 3 := by omega
  all_goals rfl
 have hm : eM xs.length i ≤ 512 ∧ 128 * (i : Int) < eM xs.length i := by unfold eM; omega
 have ok : TkOk 0 (128 * (i : Int)) [] (piece xs i) := ⟨by omega, by omega, by omega, by omega, by omega, by simp⟩
 rw [e]
 exact con_to (tk0_con ok)
theorem take_step {xs bs : List Int} {m i : Nat} (hm : m < 16) (m0 : 0 < m) (hi : i < 4) (hb : m.testBit i = false) (hl : xs.length ≤ 512) (h : 128 * i < xs.length) (h2 : 128 * (nxM m - 1) < xs.length) (hbs : (bs.length : Int) = eM xs.length (nxM m - 1)) :
  TakeW 0 (128 * (i : Int)) (piece xs i) bs (inP 0 (128 * (i : Int)) bs (piece xs i)) (rsM (eM xs.length) m) (rsM (eM xs.length) (m + 2 ^ i)) := by
 have hp := piece_length xs i h
 have hm0 : ∀ j, 128 * j < xs.length → eM xs.length j ≤ 512 ∧ 128 * (j : Int) < eM xs.length j := fun j hj => by unfold eM; omega
 have hq := hm0 i h
 have hq2 := hm0 _ h2
 have ok : TkOk 0 (128 * (i : Int)) bs (piece xs i) := ⟨by omega, by omega, by omega, by omega, by omega, by omega⟩
 have n0 : nxM m ≤ 4 := by unfold nxM; split <;> (try omega) <;> split <;> (try omega) <;> split <;> (try omega) <;> split <;> omega
 have u0 : eM xs.length 0 = min 128 (xs.length : Int) := by unfold eM; omega
 have u1 : eM xs.length 1 = min 256 (xs.length : Int) := by unfold eM; omega
 have u2 : eM xs.length 2 = min 384 (xs.length : Int) := by unfold eM; omega
 have u3 : eM xs.length 3 = min 512 (xs.length : Int) := by unfold eM; omega
 clear hm0 n0
 obtain rfl | rfl | rfl | rfl : i = 0 ∨ i = 1 ∨ i = 2 ∨ i = 3 := by omega
 all_goals obtain rfl | rfl | rfl | rfl | rfl | rfl | rfl | rfl | rfl | rfl | rfl | rfl | rfl | rfl | rfl : m = 1 ∨ m = 2 ∨ m = 3 ∨ m = 4 ∨ m = 5 ∨ m = 6 ∨ m = 7 ∨ m = 8 ∨ m = 9 ∨ m = 10 ∨ m = 11 ∨ m = 12 ∨ m = 13 ∨ m = 14 ∨ m = 15 := by omega
 all_goals first | (exact absurd hb (by decide)) | skip
 ·have h2 : 128 * 1 < xs.length := h2
  have hbs : (bs.length : Int) = eM xs.length 1 := hbs
  exact takeW_eq (tk1L_con (f := 128) (t := eM xs.length 1) ok (by omega)) (by simp [rsM]) (by simp [rsM] <;> omega)
 ·have h2 : 128 * 2 < xs.length := h2
  have hbs : (bs.length : Int) = eM xs.length 2 := hbs
  exact takeW_eq (tk1l_con (f := 256) (t := eM xs.length 2) ok (by omega)) (by simp [rsM]) (by simp [rsM] <;> omega)
 ·have h2 : 128 * 2 < xs.length := h2
  have hbs : (bs.length : Int) = eM xs.length 2 := hbs
  exact takeW_eq (tk1L_con (f := 128) (t := eM xs.length 2) ok (by omega)) (by simp [rsM]) (by simp [rsM] <;> omega)
 ·have h2 : 128 * 3 < xs.length := h2
  have hbs : (bs.length : Int) = eM xs.length 3 := hbs
  exact takeW_eq (tk1l_con (f := 384) (t := eM xs.length 3) ok (by omega)) (by simp [rsM]) (by simp [rsM] <;> omega)
 ·have h2 : 128 * 3 < xs.length := h2
  have hbs : (bs.length : Int) = eM xs.length 3 := hbs
  exact takeW_eq (tk2L_con (f := 128) (t := eM xs.length 1) (f2 := 384) (t2 := eM xs.length 3) ok (by omega)) (by simp [rsM]) (by simp [rsM] <;> omega)
 ·have h2 : 128 * 3 < xs.length := h2
  have hbs : (bs.length : Int) = eM xs.length 3 := hbs
  exact takeW_eq (tk1l_con (f := 256) (t := eM xs.length 3) ok (by omega)) (by simp [rsM]) (by simp [rsM] <;> omega)
 ·have h2 : 128 * 3 < xs.length := h2
  have hbs : (bs.length : Int) = eM xs.length 3 := hbs
  exact takeW_eq (tk1L_con (f := 128) (t := eM xs.length 3) ok (by omega)) (by simp [rsM]) (by simp [rsM] <;> omega)
 ·have h2 : 128 * 0 < xs.length := h2
  have hbs : (bs.length : Int) = eM xs.length 0 := hbs
  exact takeW_eq (tk1R_con (f := 0) (t := eM xs.length 0) ok (by omega)) (by simp [rsM]) (by simp [rsM] <;> omega)
 ·have h2 : 128 * 2 < xs.length := h2
  have hbs : (bs.length : Int) = eM xs.length 2 := hbs
  exact takeW_eq (tk1L_con (f := 256) (t := eM xs.length 2) ok (by omega)) (by simp [rsM]) (by simp [rsM] <;> omega)
 ·have h2 : 128 * 2 < xs.length := h2
  have hbs : (bs.length : Int) = eM xs.length 2 := hbs
  exact takeW_eq (tk2m_con (f := 0) (t := eM xs.length 0) (f2 := 256) (t2 := eM xs.length 2) ok (by omega)) (by simp [rsM]) (by simp [rsM] <;> omega)
 ·have h2 : 128 * 3 < xs.length := h2
  have hbs : (bs.length : Int) = eM xs.length 3 := hbs
  exact takeW_eq (tk1l_con (f := 384) (t := eM xs.length 3) ok (by omega)) (by simp [rsM]) (by simp [rsM] <;> omega)
 ·have h2 : 128 * 3 < xs.length := h2
  have hbs : (bs.length : Int) = eM xs.length 3 := hbs
  exact takeW_eq (tk2a_con (f := 0) (t := eM xs.length 0) (f2 := 384) (t2 := eM xs.length 3) ok (by omega)) (by simp [rsM]) (by simp [rsM] <;> omega)
 ·have h2 : 128 * 3 < xs.length := h2
  have hbs : (bs.length : Int) = eM xs.length 3 := hbs
  exact takeW_eq (tk1L_con (f := 256) (t := eM xs.length 3) ok (by omega)) (by simp [rsM]) (by simp [rsM] <;> omega)
 ·have h2 : 128 * 3 < xs.length := h2
  have hbs : (bs.length : Int) = eM xs.length 3 := hbs
  exact takeW_eq (tk2m_con (f := 0) (t := eM xs.length 0) (f2 := 256) (t2 := eM xs.length 3) ok (by omega)) (by simp [rsM]) (by simp [rsM] <;> omega)
 ·have h2 : 128 * 0 < xs.length := h2
  have hbs : (bs.length : Int) = eM xs.length 0 := hbs
  exact takeW_eq (tk1r_con (f := 0) (t := eM xs.length 0) ok (by omega)) (by simp [rsM]) (by simp [rsM] <;> omega)
 ·have h2 : 128 * 1 < xs.length := h2
  have hbs : (bs.length : Int) = eM xs.length 1 := hbs
  exact takeW_eq (tk1R_con (f := 128) (t := eM xs.length 1) ok (by omega)) (by simp [rsM]) (by simp [rsM] <;> omega)
 ·have h2 : 128 * 1 < xs.length := h2
  have hbs : (bs.length : Int) = eM xs.length 1 := hbs
  exact takeW_eq (tk1R_con (f := 0) (t := eM xs.length 1) ok (by omega)) (by simp [rsM]) (by simp [rsM] <;> omega)
 ·have h2 : 128 * 3 < xs.length := h2
  have hbs : (bs.length : Int) = eM xs.length 3 := hbs
  exact takeW_eq (tk1L_con (f := 384) (t := eM xs.length 3) ok (by omega)) (by simp [rsM]) (by simp [rsM] <;> omega)
 ·have h2 : 128 * 3 < xs.length := h2
  have hbs : (bs.length : Int) = eM xs.length 3 := hbs
  exact takeW_eq (tk2b_con (f := 0) (t := eM xs.length 0) (f2 := 384) (t2 := eM xs.length 3) ok (by omega)) (by simp [rsM]) (by simp [rsM] <;> omega)
 ·have h2 : 128 * 3 < xs.length := h2
  have hbs : (bs.length : Int) = eM xs.length 3 := hbs
  exact takeW_eq (tk2m_con (f := 128) (t := eM xs.length 1) (f2 := 384) (t2 := eM xs.length 3) ok (by omega)) (by simp [rsM]) (by simp [rsM] <;> omega)
 ·have h2 : 128 * 3 < xs.length := h2
  have hbs : (bs.length : Int) = eM xs.length 3 := hbs
  exact takeW_eq (tk2m_con (f := 0) (t := eM xs.length 1) (f2 := 384) (t2 := eM xs.length 3) ok (by omega)) (by simp [rsM]) (by simp [rsM] <;> omega)
 ·have h2 : 128 * 0 < xs.length := h2
  have hbs : (bs.length : Int) = eM xs.length 0 := hbs
  exact takeW_eq (tk1r_con (f := 0) (t := eM xs.length 0) ok (by omega)) (by simp [rsM]) (by simp [rsM] <;> omega)
 ·have h2 : 128 * 1 < xs.length := h2
  have hbs : (bs.length : Int) = eM xs.length 1 := hbs
  exact takeW_eq (tk1r_con (f := 128) (t := eM xs.length 1) ok (by omega)) (by simp [rsM]) (by simp [rsM] <;> omega)
 ·have h2 : 128 * 1 < xs.length := h2
  have hbs : (bs.length : Int) = eM xs.length 1 := hbs
  exact takeW_eq (tk1r_con (f := 0) (t := eM xs.length 1) ok (by omega)) (by simp [rsM]) (by simp [rsM] <;> omega)
 ·have h2 : 128 * 2 < xs.length := h2
  have hbs : (bs.length : Int) = eM xs.length 2 := hbs
  exact takeW_eq (tk1R_con (f := 256) (t := eM xs.length 2) ok (by omega)) (by simp [rsM]) (by simp [rsM] <;> omega)
 ·have h2 : 128 * 2 < xs.length := h2
  have hbs : (bs.length : Int) = eM xs.length 2 := hbs
  exact takeW_eq (tk2R_con (f := 0) (t := eM xs.length 0) (f2 := 256) (t2 := eM xs.length 2) ok (by omega)) (by simp [rsM]) (by simp [rsM] <;> omega)
 ·have h2 : 128 * 2 < xs.length := h2
  have hbs : (bs.length : Int) = eM xs.length 2 := hbs
  exact takeW_eq (tk1R_con (f := 128) (t := eM xs.length 2) ok (by omega)) (by simp [rsM]) (by simp [rsM] <;> omega)
 ·have h2 : 128 * 2 < xs.length := h2
  have hbs : (bs.length : Int) = eM xs.length 2 := hbs
  exact takeW_eq (tk1R_con (f := 0) (t := eM xs.length 2) ok (by omega)) (by simp [rsM]) (by simp [rsM] <;> omega)
theorem putA_get {l ds : List Int} {k c : Nat} (h : k + ds.length ≤ l.length) : (putA l k ds)[c]? = if k ≤ c ∧ c < k + ds.length then ds[c - k]? else l[c]? := by
 unfold putA
 have hk : (l.take k).length = k := by rw [List.length_take]; omega
 by_cases h1 : c < k
 ·rw [if_neg (by omega), List.append_assoc, List.getElem?_append_left (by omega), List.getElem?_take_of_lt h1]
 ·by_cases h2 : c < k + ds.length
  ·rw [if_pos ⟨by omega, h2⟩, List.append_assoc, List.getElem?_append_right (by omega), hk, List.getElem?_append_left (by omega)]
  ·rw [if_neg (by omega), List.getElem?_append_right (by rw [List.length_append]; omega), List.length_append, hk, List.getElem?_drop]
   congr 1
   omega
def BsOk (xs bs : List Int) (m : Nat) : Prop := (bs.length : Int) = eM xs.length (nxM m - 1) ∧ 128 * (nxM m - 1) < xs.length ∧ ∀ c, m.testBit (c / 128) = true → c < xs.length → bs[c]? = xs[c]?
theorem inP_get {bs ds : List Int} {a c : Nat} : (inP 0 (128 * (a : Int)) bs ds)[c]? = if 128 * a ≤ c ∧ c < 128 * a + ds.length then ds[c - 128 * a]? else (bs ++ List.replicate (128 * a + ds.length - bs.length) 0)[c]? := by
 unfold inP
 rw [show (128 * (a : Int) - 0).toNat = 128 * a by omega, show (128 * (a : Int) + ds.length - 0 - bs.length).toNat = 128 * a + ds.length - bs.length by omega]
 exact putA_get (by rw [List.length_append, List.length_replicate]; omega)
theorem inP_len {bs ds : List Int} {a : Nat} : (inP 0 (128 * (a : Int)) bs ds).length = max bs.length (128 * a + ds.length) := by
 unfold inP
 rw [show (128 * (a : Int) - 0).toNat = 128 * a by omega, putA_length (by rw [List.length_append, List.length_replicate]; omega), List.length_append, List.length_replicate]
 omega
theorem piece_get {xs : List Int} {i c : Nat} (h : c < 128) : (piece xs i)[c]? = xs[128 * i + c]? := by
 unfold piece
 rw [List.getElem?_take_of_lt h, List.getElem?_drop]
def nxBit (m i : Nat) : Bool := m.testBit i || (Nat.beq (nxM (m + 2 ^ i)) (max (nxM m) (i + 1)) && (List.range 4).all fun j => Nat.beq j i || ((m + 2 ^ i).testBit j == m.testBit j)) && Nat.ble (nxM m) 4 && (Nat.beq m 0 || Nat.ble 1 (nxM m))
theorem nxBits : ((List.range 16).all fun m => (List.range 4).all fun i => nxBit m i) = true := by kernel_rfl
theorem nx_step {m i : Nat} (hm : m < 16) (hi : i < 4) (hb : m.testBit i = false) : nxM (m + 2 ^ i) = max (nxM m) (i + 1) ∧ (∀ j, j < 4 → j ≠ i → (m + 2 ^ i).testBit j = m.testBit j) ∧ nxM m ≤ 4 ∧ (m = 0 ∨ 1 ≤ nxM m) := by
 have h := List.all_eq_true.1 (List.all_eq_true.1 nxBits m (List.mem_range.2 hm)) i (List.mem_range.2 hi)
 unfold nxBit at h
 rw [hb, Bool.false_or] at h
 obtain ⟨h, h4⟩ := Bool.and_eq_true_iff.1 h
 obtain ⟨h, h3⟩ := Bool.and_eq_true_iff.1 h
 obtain ⟨h1, h2⟩ := Bool.and_eq_true_iff.1 h
 refine ⟨Nat.eq_of_beq_eq_true h1, fun j hj hn => ?_, Nat.le_of_ble_eq_true h3, ?_⟩
 ·rcases Bool.or_eq_true_iff.1 (List.all_eq_true.1 h2 j (List.mem_range.2 hj)) with h | h
  ·exact absurd (Nat.eq_of_beq_eq_true h) hn
  ·exact eq_of_beq h
 ·rcases Bool.or_eq_true_iff.1 h4 with h | h
  ·exact Or.inl (Nat.eq_of_beq_eq_true h)
  ·exact Or.inr (Nat.le_of_ble_eq_true h)
theorem bs_step {xs bs : List Int} {m i : Nat} (hm : m < 16) (hi : i < 4) (hb : m.testBit i = false) (hl : xs.length ≤ 512) (h : 128 * i < xs.length) (hbs : (m = 0 ∧ bs = []) ∨ (m ≠ 0 ∧ BsOk xs bs m)) : BsOk xs (inP 0 (128 * (i : Int)) bs (piece xs i)) (m + 2 ^ i) := by
 obtain ⟨n1, n2, n3, n4⟩ := nx_step hm hi hb
 have hp := piece_length xs i h
 have hu : ∀ j, eM xs.length j = min (128 * ((j : Int) + 1)) (xs.length : Int) := fun j => rfl
 have hlen : (bs.length : Int) ≤ eM xs.length (nxM m - 1) ∧ (m = 0 → bs.length = 0) ∧ (m ≠ 0 → (bs.length : Int) = eM xs.length (nxM m - 1)) ∧ 128 * (nxM m - 1) < xs.length := by
  rcases hbs with ⟨rfl, rfl⟩ | ⟨h0, h1, h2, _⟩
  ·refine ⟨?_, fun _ => rfl, fun h => absurd rfl h, ?_⟩
   ·rw [hu]; simp; omega
   ·rw [show nxM 0 = 0 from rfl]; omega
  ·exact ⟨by omega, fun h => absurd h h0, fun _ => h1, h2⟩
 obtain ⟨l1, l2, l3, l4⟩ := hlen
 refine ⟨?_, ?_, fun c hc hx => ?_⟩
 ·rw [inP_len, n1]
  have e1 := hu i
  have e2 := hu (nxM m - 1)
  have e3 := hu (max (nxM m) (i + 1) - 1)
  rw [e3]
  rcases n4 with rfl | n4
  ·have := l2 rfl
   rw [show nxM 0 = 0 from rfl]
   omega
  ·have m0 : m ≠ 0 := by rintro rfl; exact absurd n4 (by decide)
   have := l3 m0
   omega
 ·rw [n1]; omega
 ·rw [inP_get]
  have hc4 : c / 128 < 4 := by omega
  by_cases hci : c / 128 = i
  ·rw [if_pos (by have := hu i; omega), piece_get (by omega)]
   congr 1
   omega
  ·rw [if_neg (by have := hu i; omega)]
   rw [n2 _ hc4 hci] at hc
   rcases hbs with ⟨rfl, rfl⟩ | ⟨h0, h1, h2, h3⟩
   ·rw [Nat.zero_testBit] at hc; cases hc
   ·have hh := h3 c hc hx
    have hlt : c < bs.length := by
     by_cases hge : c < bs.length
     ·exact hge
     ·rw [List.getElem?_eq_none (by omega), List.getElem?_eq_getElem hx] at hh
      cases hh
    rw [List.getElem?_append_left hlt]
    exact hh
theorem bs_all {xs bs : List Int} {k : Nat} (hk : k ≤ 4) (k0 : 0 < k) (h1 : xs.length ≤ 128 * k) (h2 : 128 * (k - 1) < xs.length) (h : BsOk xs bs (2 ^ k - 1)) : bs = xs := by
 obtain ⟨a, b, c⟩ := h
 have hn : nxM (2 ^ k - 1) = k ∧ ∀ j, j < k → (2 ^ k - 1).testBit j = true := by
  obtain rfl | rfl | rfl | rfl : k = 1 ∨ k = 2 ∨ k = 3 ∨ k = 4 := by omega
  all_goals exact ⟨by decide, by decide⟩
 have hl : bs.length = xs.length := by
  rw [hn.1] at a
  have : eM xs.length (k - 1) = min (128 * (((k - 1 : Nat) : Int) + 1)) (xs.length : Int) := rfl
  omega
 apply List.ext_getElem?
 intro j
 by_cases hj : j < xs.length
 ·exact c j (hn.2 _ (by omega)) hj
 ·rw [List.getElem?_eq_none (by omega), List.getElem?_eq_none (by omega)]
def recOf (U xs : List Int) (j : Nat) : List Int := recL 0 (j : Int) U (encF (128 * (j : Int)) (piece xs j))
theorem piece_byts {xs : List Int} (h : Byts xs) (j : Nat) : Byts (piece xs j) := fun x hx => h x (List.mem_of_mem_drop (List.mem_of_mem_take hx))
theorem piece_le {xs : List Int} {j : Nat} (h : 128 * j < xs.length) : 1 ≤ (piece xs j).length ∧ (piece xs j).length ≤ 128 := by
 have := piece_length xs j h
 unfold eM at this
 omega
theorem del_first {p : Int} {S U xs : List Int} {i : Nat} (hi : i < 4) (hU : U.length = 32) (hx : Byts xs) (hl : xs.length ≤ 512) (h : 128 * i < xs.length) :
  DelN p (nxM (2 ^ i) : Int) S U (recOf U xs i) (wsM (2 ^ i)) (inP 0 (128 * (i : Int)) [] (piece xs i)) (rsM (eM xs.length) (2 ^ i)) := by
 have hw := win_step (m := 0) (by decide) hi (Nat.zero_testBit i)
 rw [Nat.zero_add] at hw
 have hp := piece_le h
 exact del_conN (by omega) (by omega) hU (by omega) (by omega) hp.1 hp.2 (piece_byts hx i) hw (take_first hi hl h)
theorem del_step {p : Int} {S U xs bs : List Int} {m i : Nat} (hm : m < 16) (m0 : m ≠ 0) (hi : i < 4) (hb : m.testBit i = false) (hU : U.length = 32) (hx : Byts xs) (hl : xs.length ≤ 512) (h : 128 * i < xs.length) (hbs : BsOk xs bs m) :
  DelW p 0 (nxM m : Int) (nxM (m + 2 ^ i) : Int) S U (recOf U xs i) (wsM m) (wsM (m + 2 ^ i)) bs (inP 0 (128 * (i : Int)) bs (piece xs i)) (rsM (eM xs.length) m) (rsM (eM xs.length) (m + 2 ^ i)) := by
 have hp := piece_le h
 exact del_conW (by omega) (by omega) hU (by omega) (by omega) hp.1 hp.2 (piece_byts hx i) (win_step hm hi hb) (take_step hm (Nat.pos_of_ne_zero m0) hi hb hl h hbs.2.1 hbs.1)
end
end Go.Proofs.YtiojkpgcmhlhnaaGreatDoor.Ty
