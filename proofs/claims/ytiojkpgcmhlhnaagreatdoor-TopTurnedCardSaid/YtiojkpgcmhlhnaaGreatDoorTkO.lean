/-
  The states of the handshake.
-/
import Derived.Test.YtiojkpgcmhlhnaaGreatDoorTkD
import Derived.Test.YtiojkpgcmhlhnaaGreatDoorTkE
import Derived.Test.YtiojkpgcmhlhnaaGreatDoorTkF
import Derived.Test.YtiojkpgcmhlhnaaGreatDoorTkH
namespace Go.Proofs.YtiojkpgcmhlhnaaGreatDoor.Ty
open Go
set_option maxRecDepth 100000
set_option linter.unusedSimpArgs false
set_option linter.unusedVariables false
section
noncomputable def stB (l1 l2 l3 l4 l5 : Bool) (xs ys zs : List Int) (b : Bool) (n : Int) : Blk := .cells true 235 [.row true l1 .u8 32 xs, .row true l2 .u8 32 ys, .row true l3 .u8 32 zs, .one (.bool l4 b), .one (.int l5 .u64 n)]
theorem cls_run (b : Bool) (n : Int) (xs ys zs : List Int) : Goes (callRun tc ((env []).fn 20) Tryz.f69 1000 [.slc true 13 0 0 32 (some 32)] [stB false false false false false (tab 32 xs) (tab 32 ys) (tab 32 zs) b n]) [] []
  ⟨.vec 14, [stB false false false false false (tab 32 xs) (tab 32 ys) (tab 32 zs) b n, .cells true 5 [.row true false .u8 32 (tab 32 xs)]]⟩ := by
 unfold Goes
 kernel_rfl
noncomputable def F69S : Spec := fun args mem => match args, mem with
 | [.slc true i 0 0 32 (some 32)], [.cells true 235 [.row true l1 .u8 32 xs, .row true l2 .u8 32 ys, .row true l3 .u8 32 zs, .one (.bool l4 b), .one (.int l5 .u64 n)]] =>
  gd (Nat.beq i 13) (.leaf ⟨.vec 14, [stB l1 l2 l3 l4 l5 xs ys zs b n, .cells true 5 [.row true l1 .u8 32 xs]]⟩)
 | a, m => F69 a m
theorem f69S_ok : FnOk Tryz.prog gl 69 F69S := by
 intro args mem r h
 unfold F69S at h
 split at h
 case h_2 => exact f69_ok _ _ _ h
 rename_i i l1 xs l2 ys l3 zs l4 b l5 n
 obtain ⟨h1, h⟩ := Tr.is_gd.1 h
 have h := Tr.is_leaf.1 h
 subst h
 rw [Nat.eq_of_beq_eq_true h1]
 refine con_wf fun _ hm => ?_
 have e1 : xs.length = 32 := hm.1.1.1
 have e2 : ys.length = 32 := hm.1.2.1.1
 have e3 : zs.length = 32 := hm.1.2.2.1.1
 have con := con_goes cons0 Tryz.func69 1000 (cls_run b n xs ys zs) trivial
 rw [tab_eq' e1, tab_eq' e2, tab_eq' e3] at con
 exact con_to con
theorem f69S_still : Still F69S := by
 intro args mem r h
 unfold F69S at h
 split at h
 case h_2 => exact f69_still _ _ _ h
 have h := Tr.is_leaf.1 (Tr.is_gd.1 h).2
 subst h
 exact ⟨[.cells true 5 [.row true _ .u8 32 _]], rfl⟩
end
section
set_option maxHeartbeats 4000000
noncomputable abbrev kOp : Cons := [(67, F67), (148, F148R), (183, F183), (234, F234V), (213, F213), (232, F232), (252, F252), (181, F181), (69, F69S)]
theorem kOp_ok : ConsOk kOp := cons_ok f67_ok (Or.inr f67_still) (cons_ok f148R_ok (Or.inr f148R_still) (cons_ok f183_ok (Or.inr f183_still) (cons_ok f234V_ok (Or.inr f234V_still) (cons_ok f213_ok (Or.inr f213_still)
 (cons_ok f232_ok (Or.inr f232_still) (cons_ok f252_ok (Or.inr f252_still) (cons_ok f181_ok (Or.inl (by decide)) (cons_ok f69S_ok (Or.inr f69S_still) cNil))))))))
noncomputable def key (n : Int) : A := .arr true .u8 32 [n, 0, 0, 0, 0, 0, 0, 0, 0, 0, 0, 0, 0, 0, 0, 0, 0, 0, 0, 0, 0, 0, 0, 0, 0, 0, 0, 0, 0, 0, 0, 0]
noncomputable def evt (k who path n m : Int) (b : A) : A := .agg [.int true .i64 k, .int true .i64 who, .int true .i64 path, .int true .i64 n, .int true .i64 m, b]
noncomputable def wp : A := .ptr 13 0 0 true 0
noncomputable def nl : A := .val (.slice none 0 0)
noncomputable abbrev oI (n : Int) : Pc := .one (.int true .i64 n)
noncomputable abbrev oP (n : Nat) : Pc := .one (.ptr n 0 0 true 0)
noncomputable abbrev oN : Pc := .one (.val (.slice none 0 0))
noncomputable abbrev oB (b : Bool) : Pc := .one (.bool true b)
noncomputable abbrev oV (n : Nat) : Pc := .one (.vec n)
noncomputable abbrev oM (n : Nat) : Pc := .one (.map n)
noncomputable abbrev oT (l : List Int) : Pc := .row true true .u8 32 l
noncomputable abbrev oF (l : List Int) : Pc := .row true false .u8 32 l
noncomputable abbrev oZ : Pc := oT z32
noncomputable abbrev oC (t : TypeId) (l : List Pc) : Blk := .cells true t l
def q1L : List Int := [1, 47, 229, 125, 163, 71, 205, 98, 67, 21, 40, 218, 172, 95, 187, 41, 7, 48, 255, 246, 132, 175, 196, 207, 194, 237, 144, 153, 95, 88, 203, 59, 116, 69, 61, 18, 243, 205, 82, 130, 103, 19, 246, 222, 170, 123, 150, 224, 209, 173, 124, 209, 88, 135, 110, 22, 230, 45, 58, 60, 189, 23, 190, 86, 175, 186, 76, 136, 183, 29, 8, 127, 156, 151, 115, 250, 126, 189, 44, 255, 169, 74, 90, 111, 71, 191, 125, 156, 79, 227, 122, 153, 192, 192, 199, 91, 100]
def q2L : List Int := [47, 229, 125, 163, 71, 205, 98, 67, 21, 40, 218, 172, 95, 187, 41, 7, 48, 255, 246, 132, 175, 196, 207, 194, 237, 144, 153, 95, 88, 203, 59, 116, 69, 61, 18, 243, 205, 82, 130, 103, 19, 246, 222, 170, 123, 150, 224, 209, 173, 124, 209, 88, 135, 110, 22, 230, 45, 58, 60, 189, 23, 190, 86, 175, 186, 76, 136, 183, 29, 8, 127, 156, 151, 115, 250, 126, 189, 44, 255, 169, 74, 90, 111, 71, 191, 125, 156, 79, 227, 122, 153, 192, 192, 199, 91, 100]
def q3L : List Int := [2, 47, 229, 125, 163, 71, 205, 98, 67, 21, 40, 218, 172, 95, 187, 41, 7, 48, 255, 246, 132, 175, 196, 207, 194, 237, 144, 153, 95, 88, 203, 59, 116, 254, 64, 22, 245, 234, 254, 103, 41, 236, 189, 82, 152, 136, 215, 1, 117]
def q4L : List Int := [47, 229, 125, 163, 71, 205, 98, 67, 21, 40, 218, 172, 95, 187, 41, 7, 48, 255, 246, 132, 175, 196, 207, 194, 237, 144, 153, 95, 88, 203, 59, 116, 254, 64, 22, 245, 234, 254, 103, 41, 236, 189, 82, 152, 136, 215, 1, 117]
def q5L : List Int := [139, 92, 181, 161, 84, 64, 200, 149, 196, 201, 195, 240, 6, 253, 77, 203, 104, 116, 93, 180, 85, 38, 93, 161, 212, 153, 251, 202, 78, 216, 37, 155]
def q6L : List Int := [37, 1, 62, 153, 180, 162, 225, 248, 208, 89, 237, 242, 54, 207, 38, 173, 38, 123, 220, 205, 43, 240, 30, 61, 181, 126, 64, 230, 249, 102, 26, 178]
def q7L : List Int := [76, 29, 44, 234, 187, 110, 43, 215, 148, 228, 164, 97, 53, 110, 190, 137, 21, 10, 124, 92, 220, 212, 181, 160, 4, 56, 245, 228, 245, 234, 13, 166]
def q8L : List Int := [101, 184, 139, 17, 145, 115, 11, 254, 135, 52, 124, 65, 83, 169, 142, 229, 0, 33, 208, 170, 159, 187, 7, 159, 90, 169, 186, 213, 234, 5, 208, 128]
def q9L : List Int := [47, 229, 125, 163, 71, 205, 98, 67, 21, 40, 218, 172, 95, 187, 41, 7, 48, 255, 246, 132, 175, 196, 207, 194, 237, 144, 153, 95, 88, 203, 59, 116]
def q10L : List Int := [207, 213, 108, 80, 194, 225, 237, 229, 108, 123, 67, 9, 62, 110, 133, 184, 84, 1, 146, 200, 71, 134, 84, 212, 130, 237, 10, 168, 3, 35, 108, 139]
def q11L : List Int := [77, 141, 96, 75, 32, 79, 249, 152, 126, 215, 193, 40, 94, 192, 112, 40, 249, 131, 55, 41, 233, 72, 150, 63, 68, 224, 162, 211, 10, 238, 254, 243]
def q12L : List Int := [130, 196, 155, 142, 112, 81, 152, 151, 93, 119, 153, 179, 177, 29, 234, 38, 15, 9, 106, 178, 16, 35, 93, 7, 175, 113, 192, 46, 187, 154, 111, 87]
def q13L : List Int := [86, 79, 219, 35, 228, 85, 80, 196, 255, 141, 138, 94, 20, 170, 237, 210, 163, 130, 25, 70, 54, 22, 121, 139, 14, 210, 108, 130, 17, 159, 71, 73]
def q14L : List Int := [61, 106, 28, 189, 131, 77, 215, 125, 124, 140, 110, 124, 151, 69, 96, 223, 93, 168, 180, 59, 186, 214, 69, 71, 104, 88, 21, 247, 58, 7, 4, 237]
def q15L : List Int := [187, 234, 2, 43, 148, 140, 243, 188, 88, 87, 215, 8, 4, 34, 145, 121, 225, 17, 107, 196, 12, 184, 204, 7, 72, 53, 52, 156, 70, 75, 202, 54]
noncomputable abbrev B1b (p : Int) : Blk := (oC 89 [(oI 0), (oT ([1] ++ List.replicate 31 0)), (oT q9L), (oT ([3] ++ List.replicate 31 0)), (.one (.int false .i64 (p))), (oI 1), (oI 0), (oI 0), (oP 15), (oV 17), oN, (oI 200), (oI 0), (oB false), (.one (.val (.pointer .none))), (oP 18), (oP 21), (oP 23), (oP 24), (oB false), (oB false), (oM 26)])
noncomputable abbrev B2b : Blk := (oC 145 [(.lst true .pth 256 (List.replicate 256 (.mk 0 0 0 0 [0, 0, 0, 0, 0, 0, 0, 0])))])
noncomputable abbrev B3b (p : Int) : Blk := (oC 89 [(oI 1), (oT ([2] ++ List.replicate 31 0)), oZ, (oT ([4] ++ List.replicate 31 0)), (.one (.int false .i64 (p))), (oI 2), (oI 0), (oI 0), (oP 28), (oV 30), (oV 31), (oI 0), (oI 0), (oB false), (oP 32), (oP 38), (oP 41), (oP 43), (oP 44), (oB true), (oB false), (oM 47)])
noncomputable abbrev B4b : Blk := (oC 136 [(oB true), (oI 1), (oT ([1] ++ List.replicate 31 0)), (oT ([3] ++ List.replicate 31 0)), (oT q9L), oZ, (oP 16)])
noncomputable abbrev B5b (p : Int) : Blk := (oC 89 [(oI 1), (oT ([2] ++ List.replicate 31 0)), oZ, (oT ([4] ++ List.replicate 31 0)), (.one (.int false .i64 (p))), (oI 0), (oI 0), (oI 0), (oP 27), oN, oN, (oI 0), (oI 0), (oB false), (.one (.val (.pointer .none))), (oP 29), (oP 32), (oP 34), (oP 35), (oB false), (oB false), (oM 37)])
noncomputable abbrev B6b : Blk := (oC 235 [(oT q14L), (oT q11L), (oT q13L), (oB true), (.one (.int true .u64 1))])
noncomputable abbrev B7b : Blk := (oC 136 [(oB false), (oI 2), (oT ([2] ++ List.replicate 31 0)), (oT ([4] ++ List.replicate 31 0)), (oF q9L), (oF q9L), (oP 29)])
noncomputable abbrev B8b (p : Int) : Blk := (oC 148 [(.one (.int false .i64 (p))), (.one (.int true .i64 (-1))), (oM 25)])
noncomputable abbrev B9b : Blk := (oC 235 [(oF q6L), (oF q7L), (oF q12L), (oB true), (.one (.int true .u64 1))])
noncomputable abbrev B10b : Blk := (oC 235 [(oT q10L), (oT q15L), oZ, (oB false), (.one (.int true .u64 0))])
noncomputable abbrev B11b : Blk := (oC 122 [(oI 0), oN, (oI 2048), (oI 0), (oI 0), (oP 19), (oP 20)])
noncomputable abbrev B12b (p : Int) : Blk := (oC 148 [(.one (.int false .i64 (p))), (.one (.int true .i64 (-1))), (oM 45)])
noncomputable abbrev B13b : Blk := (oC 122 [(oI 0), oN, (oI 2048), (oI 2048), (oI 0), (oP 39), (oP 40)])
noncomputable abbrev B14b : Blk := (oC 189 [(oI 1), (oP 33), (oP 34), (oM 35), (oM 36), (oM 37)])
noncomputable abbrev B15b : Blk := (oC 136 [(oB false), (oI 0), (oT ([2] ++ List.replicate 31 0)), (oT ([4] ++ List.replicate 31 0)), oZ, oZ, (oP 28)])
noncomputable abbrev B16b : Blk := (oC 136 [(oB false), (oI 0), (oT ([2] ++ List.replicate 31 0)), (oT ([4] ++ List.replicate 31 0)), oZ, oZ, (oP 29)])
noncomputable abbrev B17b (p : Int) : Blk := (oC 148 [(.one (.int false .i64 (p))), (.one (.int true .i64 (-1))), (oM 24)])
noncomputable abbrev B18b (p : Int) : Blk := (oC 148 [(.one (.int false .i64 (p))), (.one (.int true .i64 (-1))), (oM 36)])
noncomputable abbrev B19b (p : Int) : Blk := (oC 148 [(.one (.int false .i64 (p))), (.one (.int true .i64 (-1))), (oM 37)])
noncomputable abbrev B20b : Blk := (oC 122 [(oI 0), oN, (oI 2048), (oI 0), (oI 0), (oP 18), (oP 19)])
noncomputable abbrev B21b : Blk := (oC 122 [(oI 0), oN, (oI 2048), (oI 0), (oI 0), (oP 30), (oP 31)])
noncomputable abbrev B22b : Blk := (oC 71 [(oP 14), (oP 27), (.one (.slc true 48 0 0 1 .none))])
noncomputable def V_E00 (p : Int) : A := (.agg [(.int true .i64 0), (.arr true .u8 32 [1, 0, 0, 0, 0, 0, 0, 0, 0, 0, 0, 0, 0, 0, 0, 0, 0, 0, 0, 0, 0, 0, 0, 0, 0, 0, 0, 0, 0, 0, 0, 0]), (.arr true .u8 32 q9L), (.arr true .u8 32 [3, 0, 0, 0, 0, 0, 0, 0, 0, 0, 0, 0, 0, 0, 0, 0, 0, 0, 0, 0, 0, 0, 0, 0, 0, 0, 0, 0, 0, 0, 0, 0]), (.int false .i64 (p))])
noncomputable def V_E01 (p : Int) : A := (.agg [(.int true .i64 1), (.arr true .u8 32 [2, 0, 0, 0, 0, 0, 0, 0, 0, 0, 0, 0, 0, 0, 0, 0, 0, 0, 0, 0, 0, 0, 0, 0, 0, 0, 0, 0, 0, 0, 0, 0]), (.arr true .u8 32 [0, 0, 0, 0, 0, 0, 0, 0, 0, 0, 0, 0, 0, 0, 0, 0, 0, 0, 0, 0, 0, 0, 0, 0, 0, 0, 0, 0, 0, 0, 0, 0]), (.arr true .u8 32 [4, 0, 0, 0, 0, 0, 0, 0, 0, 0, 0, 0, 0, 0, 0, 0, 0, 0, 0, 0, 0, 0, 0, 0, 0, 0, 0, 0, 0, 0, 0, 0]), (.int false .i64 (p))])
noncomputable def V_E02 (p : Int) : A := (.ptr 13 0 0 true 0)
noncomputable def M_E02 (p : Int) : List Blk := [(oC 71 [(oP 14), (oP 26), oN]), (oC 89 [(oI 0), (oT ([1] ++ List.replicate 31 0)), (oT q9L), (oT ([3] ++ List.replicate 31 0)), (.one (.int false .i64 (p))), (oI 0), (oI 0), (oI 0), (oP 15), oN, oN, (oI 0), (oI 0), (oB false), (.one (.val (.pointer .none))), (oP 17), (oP 20), (oP 22), (oP 23), (oB false), (oB false), (oM 25)]), (oC 136 [(oB true), (oI 0), (oT ([1] ++ List.replicate 31 0)), (oT ([3] ++ List.replicate 31 0)), (oT q9L), oZ, (oP 16)]), B10b, B20b, (oC 238 [oN]), (oC 238 [oN]), (oC 140 [(oI 2048), (oI 0), oN, (oP 21)]), (oC 238 [oN]), B2b, (B17b p), (.lmap []), (.lmap []), (B5b p), B15b, B10b, B21b, (oC 238 [oN]), (oC 238 [oN]), (oC 140 [(oI 2048), (oI 0), oN, (oP 33)]), (oC 238 [oN]), B2b, (B18b p), (.lmap []), (.lmap [])]
noncomputable def V_E03 (p : Int) : A := (.agg [(.int true .i64 0), (.int true .i64 1), (.val (.slice .none 0 0))])
noncomputable def M_E03 (p : Int) : List Blk := [(oC 71 [(oP 14), (oP 26), (oV 38)]), (oC 89 [(oI 0), (oT ([1] ++ List.replicate 31 0)), (oT q9L), (oT ([3] ++ List.replicate 31 0)), (.one (.int false .i64 (p))), (oI 1), (oI 0), (oI 0), (oP 15), (oV 39), oN, (oI 200), (oI 0), (oB false), (.one (.val (.pointer .none))), (oP 17), (oP 20), (oP 22), (oP 23), (oB false), (oB false), (oM 25)]), (oC 136 [(oB true), (oI 1), (oT ([1] ++ List.replicate 31 0)), (oT ([3] ++ List.replicate 31 0)), (oT q9L), oZ, (oP 40)]), B10b, B20b, (oC 238 [oN]), (oC 238 [oN]), (oC 140 [(oI 2048), (oI 0), oN, (oP 21)]), (oC 238 [oN]), B2b, (B17b p), (.lmap []), (.lmap []), (B5b p), B15b, B10b, B21b, (oC 238 [oN]), (oC 238 [oN]), (oC 140 [(oI 2048), (oI 0), oN, (oP 33)]), (oC 238 [oN]), B2b, (B18b p), (.lmap []), (.lmap []), (oC 125 [(.lst true .way 1 [(.mk 1 q1L)])]), (oC 5 [(.row true true .u8 96 q2L)]), B6b]
noncomputable def M_C03 (p : Int) : List Blk := [(oC 71 [(oP 14), (oP 27), (oV 39)]), (B1b p), B4b, B6b, (oC 5 [(.row true true .u8 96 q2L)]), B11b, (oC 238 [oN]), (oC 238 [oN]), (oC 140 [(oI 2048), (oI 0), oN, (oP 22)]), (oC 238 [oN]), B2b, (B8b p), (.lmap []), (.lmap []), (oC 89 [(oI 1), (oT ([2] ++ List.replicate 31 0)), oZ, (oT ([4] ++ List.replicate 31 0)), (.one (.int false .i64 (p))), (oI 0), (oI 0), (oI 0), (oP 28), oN, oN, (oI 0), (oI 0), (oB false), (.one (.val (.pointer .none))), (oP 30), (oP 33), (oP 35), (oP 36), (oB false), (oB false), (oM 38)]), B16b, B10b, (oC 122 [(oI 0), oN, (oI 2048), (oI 0), (oI 0), (oP 31), (oP 32)]), (oC 238 [oN]), (oC 238 [oN]), (oC 140 [(oI 2048), (oI 0), oN, (oP 34)]), (oC 238 [oN]), B2b, (B19b p), (.lmap []), (.lmap []), (oC 125 [(.lst true .way 1 [(.mk 1 q1L)])])]
noncomputable def V_E04 (p : Int) : A := (.agg [(.int true .i64 0), (.int true .i64 0), (.val (.slice .none 0 0))])
noncomputable def M_E04 (p : Int) : List Blk := [(oC 71 [(oP 14), (oP 27), (.one (.slc true 40 0 0 0 .none))]), (B1b p), B4b, B6b, (oC 5 [(.row true true .u8 96 q2L)]), B11b, (oC 238 [oN]), (oC 238 [oN]), (oC 140 [(oI 2048), (oI 0), oN, (oP 22)]), (oC 238 [oN]), B2b, (B8b p), (.lmap []), (.lmap []), (oC 89 [(oI 1), (oT ([2] ++ List.replicate 31 0)), oZ, (oT ([4] ++ List.replicate 31 0)), (.one (.int false .i64 (p))), (oI 2), (oI 0), (oI 0), (oP 41), (oV 43), (oV 44), (oI 0), (oI 0), (oB true), (oP 45), (oP 30), (oP 33), (oP 35), (oP 36), (oB true), (oB false), (oM 38)]), B16b, B10b, (oC 122 [(oI 0), oN, (oI 2048), (oI 2048), (oI 0), (oP 31), (oP 32)]), (oC 238 [oN]), (oC 238 [oN]), (oC 140 [(oI 2048), (oI 0), oN, (oP 34)]), (oC 238 [oN]), (oC 145 [(.lst true .pth 256 ([(.mk 2 100 0 0 [0, 0, 0, 0, 0, 0, 0, 0])] ++ List.replicate 255 (.mk 0 0 0 0 [0, 0, 0, 0, 0, 0, 0, 0])))]), (B19b p), (.lmap [(0, (.ptr 51 0 0 true 0))]), (.lmap []), (oC 125 [(.lst true .way 1 [(.mk 1 q1L)])]), (oC 125 [(.lst true .way 1 [(.mk 0 [])])]), (oC 136 [(oB false), (oI 2), (oT ([2] ++ List.replicate 31 0)), (oT ([4] ++ List.replicate 31 0)), (oF q9L), (oF q9L), (oP 42)]), B9b, (oC 5 [(.row false false .u8 96 q2L)]), (oC 5 [(.row true false .u8 48 q4L)]), (oC 189 [(oI 1), (oP 46), (oP 47), (oM 48), (oM 49), (oM 50)]), (oC 270 [(oI 0), (oI 0), (oF q5L), oZ]), (oC 270 [(oI 0), (oI 0), (oF q8L), oZ]), (.lmap []), (.lmap []), (.lmap []), (oC 212 [(oI 4), (oI 0), oN])]
noncomputable def M_C04 (p : Int) : List Blk := [(oC 71 [(oP 14), (oP 27), (.one (.slc true 48 0 0 0 .none))]), (B1b p), B4b, B6b, (oC 5 [(.row true true .u8 96 q2L)]), B11b, (oC 238 [oN]), (oC 238 [oN]), (oC 140 [(oI 2048), (oI 0), oN, (oP 22)]), (oC 238 [oN]), B2b, (B8b p), (.lmap []), (.lmap []), (oC 89 [(oI 1), (oT ([2] ++ List.replicate 31 0)), oZ, (oT ([4] ++ List.replicate 31 0)), (.one (.int false .i64 (p))), (oI 2), (oI 0), (oI 0), (oP 28), (oV 30), (oV 31), (oI 0), (oI 0), (oB true), (oP 32), (oP 38), (oP 41), (oP 43), (oP 44), (oB true), (oB false), (oM 47)]), B7b, B9b, (oC 5 [(.row false false .u8 96 q2L)]), (oC 5 [(.row true false .u8 48 q4L)]), B14b, (oC 270 [(oI 0), (oI 0), (oF q5L), oZ]), (oC 270 [(oI 0), (oI 0), (oF q8L), oZ]), (.lmap []), (.lmap []), (.lmap []), B13b, (oC 238 [oN]), (oC 238 [oN]), (oC 140 [(oI 2048), (oI 0), oN, (oP 42)]), (oC 238 [oN]), (oC 145 [(.lst true .pth 256 ([(.mk 2 100 0 0 [0, 0, 0, 0, 0, 0, 0, 0])] ++ List.replicate 255 (.mk 0 0 0 0 [0, 0, 0, 0, 0, 0, 0, 0])))]), (B12b p), (.lmap [(0, (.ptr 46 0 0 true 0))]), (oC 212 [(oI 4), (oI 0), oN]), (.lmap []), (oC 125 [(.lst true .way 1 [(.mk 0 [])])])]
noncomputable def V_E05 (p : Int) : A := (.agg [(.int true .i64 0), (.int true .i64 1), (.val (.slice .none 0 0))])
noncomputable def M_E05 (p : Int) : List Blk := [B22b, (B1b p), B4b, B6b, (oC 5 [(.row true true .u8 96 q2L)]), B11b, (oC 238 [oN]), (oC 238 [oN]), (oC 140 [(oI 2048), (oI 0), oN, (oP 22)]), (oC 238 [oN]), B2b, (B8b p), (.lmap []), (.lmap []), (B3b p), B7b, B9b, (oC 5 [(.row false false .u8 96 q2L)]), (oC 5 [(.row true false .u8 48 q4L)]), B14b, (oC 270 [(oI 0), (oI 0), (oF q5L), oZ]), (oC 270 [(oI 0), (oI 0), (oF q8L), oZ]), (.lmap []), (.lmap []), (.lmap []), B13b, (oC 238 [oN]), (oC 238 [oN]), (oC 140 [(oI 2048), (oI 0), oN, (oP 42)]), (oC 238 [oN]), (oC 145 [(.lst true .pth 256 ([(.mk 2 100 0 0 [0, 0, 0, 0, 0, 0, 0, 0])] ++ List.replicate 255 (.mk 0 0 0 0 [0, 0, 0, 0, 0, 0, 0, 0])))]), (B12b p), (.lmap [(0, (.ptr 46 0 0 true 0))]), (oC 212 [(oI 4), (oI 0), oN]), (.lmap []), (oC 125 [(.lst true .way 1 [(.mk 0 q3L)])])]
noncomputable def M_C05 (p : Int) : List Blk := [B22b, (B1b p), B4b, B6b, (oC 5 [(.row true true .u8 96 q2L)]), B11b, (oC 238 [oN]), (oC 238 [oN]), (oC 140 [(oI 2048), (oI 0), oN, (oP 22)]), (oC 238 [oN]), B2b, (B8b p), (.lmap []), (.lmap []), (B3b p), B7b, B9b, (oC 5 [(.row false false .u8 96 q2L)]), (oC 5 [(.row true false .u8 48 q4L)]), B14b, (oC 270 [(oI 0), (oI 0), (oF q5L), oZ]), (oC 270 [(oI 0), (oI 0), (oF q8L), oZ]), (.lmap []), (.lmap []), (.lmap []), B13b, (oC 238 [oN]), (oC 238 [oN]), (oC 140 [(oI 2048), (oI 0), oN, (oP 42)]), (oC 238 [oN]), (oC 145 [(.lst true .pth 256 ([(.mk 2 100 0 0 [0, 0, 0, 0, 0, 0, 0, 0])] ++ List.replicate 255 (.mk 0 0 0 0 [0, 0, 0, 0, 0, 0, 0, 0])))]), (B12b p), (.lmap [(0, (.ptr 46 0 0 true 0))]), (oC 212 [(oI 4), (oI 0), oN]), (.lmap []), (oC 125 [(.lst true .way 1 [(.mk 0 q3L)])])]
noncomputable def V_E06 (p : Int) : A := (.agg [(.int true .i64 0), (.int true .i64 0), (.val (.slice .none 0 0))])
noncomputable def M_E06 (p : Int) : List Blk := [(oC 71 [(oP 14), (oP 27), (.one (.slc true 49 0 0 0 .none))]), (oC 89 [(oI 0), (oT ([1] ++ List.replicate 31 0)), (oT q9L), (oT ([3] ++ List.replicate 31 0)), (.one (.int false .i64 (p))), (oI 2), (oI 0), (oI 0), (oP 50), (oV 17), oN, (oI 200), (oI 0), (oB false), (oP 52), (oP 18), (oP 21), (oP 23), (oP 24), (oB true), (oB false), (oM 26)]), B4b, B6b, (oC 5 [(.row true true .u8 96 q2L)]), (oC 122 [(oI 0), oN, (oI 2048), (oI 2048), (oI 0), (oP 19), (oP 20)]), (oC 238 [oN]), (oC 238 [oN]), (oC 140 [(oI 2048), (oI 0), oN, (oP 22)]), (oC 238 [oN]), (oC 145 [(.lst true .pth 256 ([(.mk 2 100 0 0 [0, 0, 0, 0, 0, 0, 0, 0])] ++ List.replicate 255 (.mk 0 0 0 0 [0, 0, 0, 0, 0, 0, 0, 0])))]), (B8b p), (.lmap [(0, (.ptr 58 0 0 true 0))]), (.lmap []), (B3b p), B7b, B9b, (oC 5 [(.row false false .u8 96 q2L)]), (oC 5 [(.row true false .u8 48 q4L)]), B14b, (oC 270 [(oI 0), (oI 0), (oF q5L), oZ]), (oC 270 [(oI 0), (oI 0), (oF q8L), oZ]), (.lmap []), (.lmap []), (.lmap []), B13b, (oC 238 [oN]), (oC 238 [oN]), (oC 140 [(oI 2048), (oI 0), oN, (oP 42)]), (oC 238 [oN]), (oC 145 [(.lst true .pth 256 ([(.mk 2 100 0 0 [0, 0, 0, 0, 0, 0, 0, 0])] ++ List.replicate 255 (.mk 0 0 0 0 [0, 0, 0, 0, 0, 0, 0, 0])))]), (B12b p), (.lmap [(0, (.ptr 46 0 0 true 0))]), (oC 212 [(oI 4), (oI 0), oN]), (.lmap []), (oC 125 [(.lst true .way 1 [(.mk 0 q3L)])]), (oC 125 [(.lst true .way 1 [(.mk 0 [])])]), (oC 136 [(oB true), (oI 2), (oT ([1] ++ List.replicate 31 0)), (oT ([3] ++ List.replicate 31 0)), (oT q9L), oZ, (oP 51)]), B9b, (oC 189 [(oI 0), (oP 53), (oP 54), (oM 55), (oM 56), (oM 57)]), (oC 270 [(oI 0), (oI 0), (oF q8L), oZ]), (oC 270 [(oI 0), (oI 0), (oF q5L), oZ]), (.lmap []), (.lmap []), (.lmap []), (oC 212 [(oI 4), (oI 0), oN])]
def ps4 : List Prop := [
 (0 : Int) ≤ 0 ∧ (0 : Int) < 97,
 (0 : Int) ≤ 0 ∧ (0 : Int) < 97,
 (0 : Int) ≤ 1 ∧ (1 : Int) ≤ 97 ∧ (97 : Int) ≤ 97 ∧ (97 : Int) ≤ 97,
 (0 : Nat) < 96,
 (96 : Nat) ≤ 140737488355328,
 (0 : Int) ≤ 0 ∧ (0 : Int) ≤ 32 ∧ (32 : Int) ≤ 32 ∧ (32 : Int) ≤ 96,
 (32 : Nat) ≤ 32,
 (32 : Nat) ≤ 96,
 (0 : Int) ≤ 32 ∧ (32 : Int) ≤ 80 ∧ (80 : Int) ≤ 80 ∧ (80 : Int) ≤ 96,
 (80 : Nat) ≤ 96,
 (48 : Nat) ≤ 140737488355328,
 (32 : Int) = 32,
 (0 : Int) ≤ 0 ∧ (0 : Int) ≤ 32 ∧ (32 : Int) ≤ 32 ∧ (32 : Int) ≤ 64,
 (64 : Nat) ≤ 140737488355328 ∧ (64 : Nat) < 9223372036854775808,
 (16 : Int) ≠ 0,
 (16 : Int) = 16,
 (16 : Int) ≠ 0,
 (0 : Int) ≤ 0 ∧ (0 : Int) ≤ 281474976710656,
 (64 : Nat) ≤ 140737488355328 ∧ (64 : Nat) < 9223372036854775808,
 (0 : Int) ≤ 0,
 (65 : Nat) ≤ 140737488355328 ∧ (65 : Nat) < 9223372036854775808,
 (0 : Int) ≤ 8,
 (66 : Nat) ≤ 140737488355328 ∧ (66 : Nat) < 9223372036854775808,
 (0 : Int) ≤ 16,
 (67 : Nat) ≤ 140737488355328 ∧ (67 : Nat) < 9223372036854775808,
 (0 : Int) ≤ 24,
 (68 : Nat) ≤ 140737488355328 ∧ (68 : Nat) < 9223372036854775808,
 (0 : Int) ≤ 32,
 (69 : Nat) ≤ 140737488355328 ∧ (69 : Nat) < 9223372036854775808,
 (0 : Int) ≤ 40,
 (70 : Nat) ≤ 140737488355328 ∧ (70 : Nat) < 9223372036854775808,
 (0 : Int) ≤ 48,
 (71 : Nat) ≤ 140737488355328 ∧ (71 : Nat) < 9223372036854775808,
 (0 : Int) ≤ 56,
 (72 : Nat) ≤ 140737488355328 ∧ (72 : Nat) < 9223372036854775808,
 (0 : Int) ≤ 0,
 (73 : Nat) ≤ 140737488355328 ∧ (73 : Nat) < 9223372036854775808,
 (0 : Int) ≤ 8,
 (74 : Nat) ≤ 140737488355328 ∧ (74 : Nat) < 9223372036854775808,
 (0 : Int) ≤ 16,
 (75 : Nat) ≤ 140737488355328 ∧ (75 : Nat) < 9223372036854775808,
 (0 : Int) ≤ 24,
 (76 : Nat) ≤ 140737488355328 ∧ (76 : Nat) < 9223372036854775808,
 (0 : Int) ≤ 32,
 (77 : Nat) ≤ 140737488355328 ∧ (77 : Nat) < 9223372036854775808,
 (0 : Int) ≤ 40,
 (78 : Nat) ≤ 140737488355328 ∧ (78 : Nat) < 9223372036854775808,
 (0 : Int) ≤ 48,
 (79 : Nat) ≤ 140737488355328 ∧ (79 : Nat) < 9223372036854775808,
 (0 : Int) ≤ 56,
 (80 : Nat) ≤ 140737488355328 ∧ (80 : Nat) < 9223372036854775808,
 (0 : Int) ≤ 32 ∧ (32 : Int) ≤ 48 ∧ (48 : Int) ≤ 48 ∧ (48 : Int) ≤ 64,
 (16 : Nat) ≤ 16,
 (80 : Nat) ≤ 96,
 [(186 : Int), (76 : Int), (136 : Int), (183 : Int), (29 : Int), (8 : Int), (127 : Int), (156 : Int), (151 : Int), (115 : Int), (250 : Int), (126 : Int), (189 : Int), (44 : Int), (255 : Int), (169 : Int)] = [(186 : Int), (76 : Int), (136 : Int), (183 : Int), (29 : Int), (8 : Int), (127 : Int), (156 : Int), (151 : Int), (115 : Int), (250 : Int), (126 : Int), (189 : Int), (44 : Int), (255 : Int), (169 : Int)],
 (0 : Int) ≤ 0 ∧ (0 : Int) ≤ 32 ∧ (32 : Int) ≤ 32 ∧ (32 : Int) ≤ 64,
 (64 : Nat) ≤ 96,
 (32 : Nat) ≤ 281474976710656,
 (80 : Int) = 80,
 (80 : Int) = 80,
 (0 : Int) ≤ 80 ∧ (80 : Int) ≤ 281474976710656,
 (80 : Nat) ≤ 140737488355328 ∧ (80 : Nat) < 9223372036854775808,
 (0 : Int) ≤ 0 ∧ (0 : Int) ≤ 0 ∧ (0 : Int) ≤ 0 ∧ (0 : Int) ≤ 80,
 (32 : Nat) ≤ 80,
 (80 : Nat) ≤ 80,
 (80 : Nat) ≤ 80,
 (32 : Nat) ≤ 32,
 (0 : Int) ≤ 80 ∧ (80 : Int) ≤ 96 ∧ (96 : Int) ≤ 96 ∧ (96 : Int) ≤ 96,
 (96 : Nat) ≤ 96,
 (16 : Nat) ≤ 140737488355328,
 (0 : Int) = 0,
 (0 : Int) ≤ 0 ∧ (0 : Int) ≤ 0 ∧ (0 : Int) ≤ 0 ∧ (0 : Int) ≤ 16,
 (32 : Nat) ≤ 140737488355328 ∧ (32 : Nat) < 9223372036854775808,
 (16 : Int) ≠ 0,
 (16 : Int) = 16,
 (16 : Int) ≠ 0,
 (0 : Int) ≤ 0 ∧ (0 : Int) ≤ 281474976710656,
 (32 : Nat) ≤ 140737488355328 ∧ (32 : Nat) < 9223372036854775808,
 (0 : Int) ≤ 0,
 (33 : Nat) ≤ 140737488355328 ∧ (33 : Nat) < 9223372036854775808,
 (0 : Int) ≤ 8,
 (34 : Nat) ≤ 140737488355328 ∧ (34 : Nat) < 9223372036854775808,
 (0 : Int) ≤ 16,
 (35 : Nat) ≤ 140737488355328 ∧ (35 : Nat) < 9223372036854775808,
 (0 : Int) ≤ 24,
 (36 : Nat) ≤ 140737488355328 ∧ (36 : Nat) < 9223372036854775808,
 (0 : Int) ≤ 32,
 (37 : Nat) ≤ 140737488355328 ∧ (37 : Nat) < 9223372036854775808,
 (0 : Int) ≤ 40,
 (38 : Nat) ≤ 140737488355328 ∧ (38 : Nat) < 9223372036854775808,
 (0 : Int) ≤ 48,
 (39 : Nat) ≤ 140737488355328 ∧ (39 : Nat) < 9223372036854775808,
 (0 : Int) ≤ 56,
 (40 : Nat) ≤ 140737488355328 ∧ (40 : Nat) < 9223372036854775808,
 (0 : Int) ≤ 0,
 (41 : Nat) ≤ 140737488355328 ∧ (41 : Nat) < 9223372036854775808,
 (0 : Int) ≤ 8,
 (42 : Nat) ≤ 140737488355328 ∧ (42 : Nat) < 9223372036854775808,
 (0 : Int) ≤ 16,
 (43 : Nat) ≤ 140737488355328 ∧ (43 : Nat) < 9223372036854775808,
 (0 : Int) ≤ 24,
 (44 : Nat) ≤ 140737488355328 ∧ (44 : Nat) < 9223372036854775808,
 (0 : Int) ≤ 32,
 (45 : Nat) ≤ 140737488355328 ∧ (45 : Nat) < 9223372036854775808,
 (0 : Int) ≤ 40,
 (46 : Nat) ≤ 140737488355328 ∧ (46 : Nat) < 9223372036854775808,
 (0 : Int) ≤ 48,
 (47 : Nat) ≤ 140737488355328 ∧ (47 : Nat) < 9223372036854775808,
 (0 : Int) ≤ 56,
 (48 : Nat) ≤ 140737488355328 ∧ (48 : Nat) < 9223372036854775808,
 (0 : Int) ≤ 0 ∧ (0 : Int) ≤ 16 ∧ (16 : Int) ≤ 16 ∧ (16 : Int) ≤ 16,
 (16 : Nat) ≤ 16,
 (96 : Nat) ≤ 96,
 [(74 : Int), (90 : Int), (111 : Int), (71 : Int), (191 : Int), (125 : Int), (156 : Int), (79 : Int), (227 : Int), (122 : Int), (153 : Int), (192 : Int), (192 : Int), (199 : Int), (91 : Int), (100 : Int)] = [(74 : Int), (90 : Int), (111 : Int), (71 : Int), (191 : Int), (125 : Int), (156 : Int), (79 : Int), (227 : Int), (122 : Int), (153 : Int), (192 : Int), (192 : Int), (199 : Int), (91 : Int), (100 : Int)],
 (0 : Int) ≤ 0 ∧ (0 : Int) ≤ 0 ∧ (0 : Int) ≤ 0 ∧ (0 : Int) ≤ 16,
 (80 : Nat) ≤ 96,
 (0 : Nat) ≤ 281474976710656,
 (48 : Int) = 48,
 (48 : Int) = 48,
 (0 : Int) ≤ 48 ∧ (48 : Int) ≤ 281474976710656,
 (48 : Nat) ≤ 140737488355328 ∧ (48 : Nat) < 9223372036854775808,
 (0 : Int) ≤ 0 ∧ (0 : Int) ≤ 0 ∧ (0 : Int) ≤ 0 ∧ (0 : Int) ≤ 48,
 (32 : Nat) ≤ 48,
 (48 : Nat) ≤ 48,
 (48 : Nat) ≤ 48,
 (96 : Nat) ≤ 140737488355328]
def ps6 : List Prop := [
 (0 : Int) ≤ 0 ∧ (0 : Int) < 49,
 (0 : Int) ≤ 0 ∧ (0 : Int) < 49,
 (0 : Int) ≤ 1 ∧ (1 : Int) ≤ 49 ∧ (49 : Int) ≤ 49 ∧ (49 : Int) ≤ 49,
 (0 : Nat) < 48,
 (48 : Nat) ≤ 140737488355328,
 (0 : Int) ≤ 0 ∧ (0 : Int) ≤ 32 ∧ (32 : Int) ≤ 32 ∧ (32 : Int) ≤ 48,
 (32 : Nat) ≤ 32,
 (32 : Nat) ≤ 48,
 (0 : Int) ≤ 32 ∧ (32 : Int) ≤ 48 ∧ (48 : Int) ≤ 48 ∧ (48 : Int) ≤ 48,
 (48 : Nat) ≤ 48,
 (16 : Nat) ≤ 140737488355328,
 (0 : Int) = 0,
 (0 : Int) ≤ 0 ∧ (0 : Int) ≤ 0 ∧ (0 : Int) ≤ 0 ∧ (0 : Int) ≤ 16,
 (32 : Nat) ≤ 140737488355328 ∧ (32 : Nat) < 9223372036854775808,
 (16 : Int) ≠ 0,
 (16 : Int) = 16,
 (16 : Int) ≠ 0,
 (0 : Int) ≤ 0 ∧ (0 : Int) ≤ 281474976710656,
 (32 : Nat) ≤ 140737488355328 ∧ (32 : Nat) < 9223372036854775808,
 (0 : Int) ≤ 0,
 (33 : Nat) ≤ 140737488355328 ∧ (33 : Nat) < 9223372036854775808,
 (0 : Int) ≤ 8,
 (34 : Nat) ≤ 140737488355328 ∧ (34 : Nat) < 9223372036854775808,
 (0 : Int) ≤ 16,
 (35 : Nat) ≤ 140737488355328 ∧ (35 : Nat) < 9223372036854775808,
 (0 : Int) ≤ 24,
 (36 : Nat) ≤ 140737488355328 ∧ (36 : Nat) < 9223372036854775808,
 (0 : Int) ≤ 32,
 (37 : Nat) ≤ 140737488355328 ∧ (37 : Nat) < 9223372036854775808,
 (0 : Int) ≤ 40,
 (38 : Nat) ≤ 140737488355328 ∧ (38 : Nat) < 9223372036854775808,
 (0 : Int) ≤ 48,
 (39 : Nat) ≤ 140737488355328 ∧ (39 : Nat) < 9223372036854775808,
 (0 : Int) ≤ 56,
 (40 : Nat) ≤ 140737488355328 ∧ (40 : Nat) < 9223372036854775808,
 (0 : Int) ≤ 0,
 (41 : Nat) ≤ 140737488355328 ∧ (41 : Nat) < 9223372036854775808,
 (0 : Int) ≤ 8,
 (42 : Nat) ≤ 140737488355328 ∧ (42 : Nat) < 9223372036854775808,
 (0 : Int) ≤ 16,
 (43 : Nat) ≤ 140737488355328 ∧ (43 : Nat) < 9223372036854775808,
 (0 : Int) ≤ 24,
 (44 : Nat) ≤ 140737488355328 ∧ (44 : Nat) < 9223372036854775808,
 (0 : Int) ≤ 32,
 (45 : Nat) ≤ 140737488355328 ∧ (45 : Nat) < 9223372036854775808,
 (0 : Int) ≤ 40,
 (46 : Nat) ≤ 140737488355328 ∧ (46 : Nat) < 9223372036854775808,
 (0 : Int) ≤ 48,
 (47 : Nat) ≤ 140737488355328 ∧ (47 : Nat) < 9223372036854775808,
 (0 : Int) ≤ 56,
 (48 : Nat) ≤ 140737488355328 ∧ (48 : Nat) < 9223372036854775808,
 (0 : Int) ≤ 0 ∧ (0 : Int) ≤ 16 ∧ (16 : Int) ≤ 16 ∧ (16 : Int) ≤ 16,
 (16 : Nat) ≤ 16,
 (48 : Nat) ≤ 48,
 [(254 : Int), (64 : Int), (22 : Int), (245 : Int), (234 : Int), (254 : Int), (103 : Int), (41 : Int), (236 : Int), (189 : Int), (82 : Int), (152 : Int), (136 : Int), (215 : Int), (1 : Int), (117 : Int)] = [(254 : Int), (64 : Int), (22 : Int), (245 : Int), (234 : Int), (254 : Int), (103 : Int), (41 : Int), (236 : Int), (189 : Int), (82 : Int), (152 : Int), (136 : Int), (215 : Int), (1 : Int), (117 : Int)],
 (0 : Int) ≤ 0 ∧ (0 : Int) ≤ 0 ∧ (0 : Int) ≤ 0 ∧ (0 : Int) ≤ 16,
 (32 : Nat) ≤ 48,
 (0 : Nat) ≤ 281474976710656,
 (48 : Int) = 48,
 (48 : Int) = 48,
 (0 : Int) ≤ 48 ∧ (48 : Int) ≤ 281474976710656,
 (48 : Nat) ≤ 140737488355328 ∧ (48 : Nat) < 9223372036854775808,
 (0 : Int) ≤ 0 ∧ (0 : Int) ≤ 0 ∧ (0 : Int) ≤ 0 ∧ (0 : Int) ≤ 48,
 (32 : Nat) ≤ 48,
 (48 : Nat) ≤ 48,
 (48 : Nat) ≤ 48,
 (0 : Nat) ≤ 140737488355328]
theorem ps4_ok : Conj ps4 := by
 unfold ps4
 repeat' (first | exact trivial | refine And.intro ?_ ?_)
 all_goals decide
theorem ps6_ok : Conj ps6 := by
 unfold ps6
 repeat' (first | exact trivial | refine And.intro ?_ ?_)
 all_goals decide
end
end Go.Proofs.YtiojkpgcmhlhnaaGreatDoor.Ty
