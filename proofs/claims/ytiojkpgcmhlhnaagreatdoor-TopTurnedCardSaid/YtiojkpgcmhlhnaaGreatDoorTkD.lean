/-
  The contracts of blake, chacha and slices.Clone.
-/
import Derived.Test.YtiojkpgcmhlhnaaGreatDoorTkC
import Derived.Recover
import Derived.WalkKit
namespace Go.Proofs.YtiojkpgcmhlhnaaGreatDoor.Ty
open Go
set_option maxRecDepth 100000
set_option linter.unusedSimpArgs false
set_option linter.unusedVariables false
section
def rotL (n p q : Int) : Int := bits .or .u32 (IntKind.u32.wrap (n * p)) (Int.fdiv n q)
def wadd (a b : Int) : Int := IntKind.u32.wrap (a + b)
def mix1 (i j : Nat) (x : Int) (v : List Int) : List Int := v.set i (wadd (v.getD i 0) (wadd (v.getD j 0) x))
def mix2 (i j : Nat) (p q : Int) (v : List Int) : List Int := v.set i (rotL (bits .xor .u32 (v.getD i 0) (v.getD j 0)) p q)
def mix3 (i j : Nat) (v : List Int) : List Int := v.set i (wadd (v.getD i 0) (v.getD j 0))
def mixL (a b c d : Nat) (x y : Int) (v : List Int) : List Int :=
 mix2 b c 33554432 128 (mix3 c d (mix2 d a 16777216 256 (mix1 a b y (mix2 b c 1048576 4096 (mix3 c d (mix2 d a 65536 65536 (mix1 a b x v)))))))
theorem mix_run (a b c d : Nat) (x y : Int) (v : List Int) (t : TypeId) :
  (callRun tc ((env []).fn 20) Tryz.f281 1000 [.ptr 13 0 a false 0, .ptr 13 0 b false 0, .ptr 13 0 c false 0, .ptr 13 0 d false 0, .int false .u32 x, .int false .u32 y] [.cells true t [.row true false .u32 16 v]]).walk [] [] = some ([a < 16, b < 16, a < 16, d < 16, a < 16, (0 : Int) ≤ 16, (0 : Int) ≤ 16, d < 16, c < 16, d < 16, c < 16, b < 16, c < 16, (0 : Int) ≤ 20, (0 : Int) ≤ 12, b < 16, a < 16, b < 16, a < 16, d < 16, a < 16, (0 : Int) ≤ 24, (0 : Int) ≤ 8, d < 16, c < 16, d < 16, c < 16, b < 16, c < 16, (0 : Int) ≤ 25, (0 : Int) ≤ 7, b < 16], ⟨.tup [], [.cells true t [.row true false .u32 16 (mixL a b c d x y v)]]⟩) := by kernel_rfl
noncomputable def F281 : Spec := fun args mem => match args, mem with
 | [.ptr i1 0 a _ 0, .ptr i2 0 b _ 0, .ptr i3 0 c _ 0, .ptr i4 0 d _ 0, .int _ .u32 x, .int _ .u32 y], [.cells true t [.row _ _ .u32 n v]] =>
  gd (Nat.beq i1 13) (gd (Nat.beq i2 13) (gd (Nat.beq i3 13) (gd (Nat.beq i4 13) (gd (Nat.beq n 16) (gd (Nat.blt a 16) (gd (Nat.blt b 16) (gd (Nat.blt c 16) (gd (Nat.blt d 16)
   (.leaf ⟨.tup [], [.cells true t [.row true false .u32 16 (mixL a b c d x y v)]]⟩)))))))))
 | _, _ => .fail
theorem f281_ok : FnOk Tryz.prog gl 281 F281 := by
 intro args mem r h
 unfold F281 at h
 split at h
 case h_2 => exact h.elim
 rename_i i1 a _ i2 b _ i3 c _ i4 d _ _ x _ y t _ _ n v
 replace h := Tr.is_gd.1 h
 obtain ⟨h1, h⟩ := h
 replace h := Tr.is_gd.1 h
 obtain ⟨h2, h⟩ := h
 replace h := Tr.is_gd.1 h
 obtain ⟨h3, h⟩ := h
 replace h := Tr.is_gd.1 h
 obtain ⟨h4, h⟩ := h
 replace h := Tr.is_gd.1 h
 obtain ⟨h5, h⟩ := h
 replace h := Tr.is_gd.1 h
 obtain ⟨ha, h⟩ := h
 replace h := Tr.is_gd.1 h
 obtain ⟨hb, h⟩ := h
 replace h := Tr.is_gd.1 h
 obtain ⟨hc, h⟩ := h
 replace h := Tr.is_gd.1 h
 obtain ⟨hd, h⟩ := h
 replace h := Tr.is_leaf.1 h
 subst h
 rw [Nat.eq_of_beq_eq_true h1, Nat.eq_of_beq_eq_true h2, Nat.eq_of_beq_eq_true h3, Nat.eq_of_beq_eq_true h4, Nat.eq_of_beq_eq_true h5]
 have ha : a < 16 := Nat.le_of_ble_eq_true ha
 have hb : b < 16 := Nat.le_of_ble_eq_true hb
 have hc : c < 16 := Nat.le_of_ble_eq_true hc
 have hd : d < 16 := Nat.le_of_ble_eq_true hd
 exact con_walk cons0 Tryz.func281 1000 (mix_run a b c d x y v t) ⟨ha, hb, ha, hd, ha, by decide, by decide, hd, hc, hd, hc, hb, hc, by decide, by decide, hb, ha, hb, ha, hd, ha, by decide, by decide, hd, hc, hd, hc, hb, hc, by decide, by decide, hb, trivial⟩
def w32 (n : Int) : Int := IntKind.u32.wrap n
def wordL (xs : List Int) (o k : Nat) : Int := bits .or .u32 (bits .or .u32 (bits .or .u32 (w32 (xs.getD (o + k) 0)) (w32 (w32 (xs.getD (o + (k + 1)) 0) * 256))) (w32 (w32 (xs.getD (o + (k + 2)) 0) * 65536))) (w32 (w32 (xs.getD (o + (k + 3)) 0) * 16777216))
def words (xs : List Int) (o : Nat) : List Int := [wordL xs o 0, wordL xs o 4, wordL xs o 8, wordL xs o 12, wordL xs o 16, wordL xs o 20, wordL xs o 24, wordL xs o 28, wordL xs o 32, wordL xs o 36, wordL xs o 40, wordL xs o 44, wordL xs o 48, wordL xs o 52, wordL xs o 56, wordL xs o 60]
def rowsB : List (List Nat) := [[0, 1, 2, 3, 4, 5, 6, 7, 8, 9, 10, 11, 12, 13, 14, 15], [14, 10, 4, 8, 9, 15, 13, 6, 1, 12, 0, 2, 11, 7, 5, 3], [11, 8, 12, 0, 5, 2, 15, 13, 10, 14, 3, 6, 7, 1, 9, 4], [7, 9, 3, 1, 13, 12, 11, 14, 2, 6, 5, 10, 4, 0, 15, 8], [9, 0, 5, 7, 2, 4, 10, 15, 14, 1, 11, 12, 6, 8, 3, 13], [2, 12, 6, 10, 0, 11, 8, 3, 4, 13, 7, 5, 15, 14, 1, 9], [12, 5, 1, 15, 14, 13, 4, 10, 0, 7, 6, 3, 9, 2, 8, 11], [13, 11, 7, 14, 12, 1, 3, 9, 5, 0, 15, 4, 8, 6, 2, 10], [6, 15, 14, 9, 11, 3, 0, 8, 12, 2, 13, 7, 1, 4, 10, 5], [10, 2, 8, 4, 7, 6, 1, 5, 15, 11, 9, 14, 3, 12, 13, 0]]
def mixR (m : List Int) (v : List Int) : List Nat → List Int
 | [s0, s1, s2, s3, s4, s5, s6, s7, s8, s9, s10, s11, s12, s13, s14, s15] =>
  mixL 3 4 9 14 (m.getD s14 0) (m.getD s15 0) (mixL 2 7 8 13 (m.getD s12 0) (m.getD s13 0) (mixL 1 6 11 12 (m.getD s10 0) (m.getD s11 0) (mixL 0 5 10 15 (m.getD s8 0) (m.getD s9 0)
   (mixL 3 7 11 15 (m.getD s6 0) (m.getD s7 0) (mixL 2 6 10 14 (m.getD s4 0) (m.getD s5 0) (mixL 1 5 9 13 (m.getD s2 0) (m.getD s3 0) (mixL 0 4 8 12 (m.getD s0 0) (m.getD s1 0) v)))))))
 | _ => v
def v0L (h : List Int) (t : Int) (last : Bool) : List Int := [h.getD 0 0, h.getD 1 0, h.getD 2 0, h.getD 3 0, h.getD 4 0, h.getD 5 0, h.getD 6 0, h.getD 7 0, 1779033703, 3144134277, 1013904242, 2773480762, bits .xor .u32 1359893119 (w32 t), bits .xor .u32 2600822924 (w32 (Int.fdiv t 4294967296)), (match last with | true => 3766232660 | false => 528734635), 1541459225]
def rounds (m : List Int) (v : List Int) : List (List Nat) → List Int
 | [] => v
 | r :: l => rounds m (mixR m v r) l
def outL (h v : List Int) : List Int := [0, 1, 2, 3, 4, 5, 6, 7].foldl (fun h i => h.set i (bits .xor .u32 (h.getD i 0) (bits .xor .u32 (v.getD i 0) (v.getD (8 + i) 0)))) h
def pressL (h xs : List Int) (off : Nat) (t : Int) (last : Bool) : List Int := outL h (rounds (words xs off) (v0L h t last) rowsB)
noncomputable def rr : Code := post 7 (bodyC Tryz.f250)
noncomputable def roundB : Code := loopC (blkC (seqR (seqL rr)))
theorem code1 : seqL rr = .seq (seqL (seqL rr)) (seqR (seqL rr)) := by kernel_rfl
theorem code2 : seqR (seqL rr) = .block 4 (.loop roundB) := by kernel_rfl
def flatB : List Int := [0, 1, 2, 3, 4, 5, 6, 7, 8, 9, 10, 11, 12, 13, 14, 15, 14, 10, 4, 8, 9, 15, 13, 6, 1, 12, 0, 2, 11, 7, 5, 3, 11, 8, 12, 0, 5, 2, 15, 13, 10, 14, 3, 6, 7, 1, 9, 4, 7, 9, 3, 1, 13, 12, 11, 14, 2, 6, 5, 10, 4, 0, 15, 8, 9, 0, 5, 7, 2, 4, 10, 15, 14, 1, 11, 12, 6, 8, 3, 13, 2, 12, 6, 10, 0, 11, 8, 3, 4, 13, 7, 5, 15, 14, 1, 9, 12, 5, 1, 15, 14, 13, 4, 10, 0, 7, 6, 3, 9, 2, 8, 11, 13, 11, 7, 14, 12, 1, 3, 9, 5, 0, 15, 4, 8, 6, 2, 10, 6, 15, 14, 9, 11, 3, 0, 8, 12, 2, 13, 7, 1, 4, 10, 5, 10, 2, 8, 4, 7, 6, 1, 5, 15, 11, 9, 14, 3, 12, 13, 0]
noncomputable abbrev cxP : Cx := cxE [(281, F281)] 145
noncomputable def sRnd (b : Blk) (h m v : List Int) (i : Int) : St := stM gl [(4, .ptr 14 0 0 true 0), (8, .ptr 15 0 0 true 0), (9, .ptr 16 0 0 true 0), (10, .ptr 17 0 0 true 0), (90, .arr true .u8 160 flatB), (91, .int true .i64 i)]
 [b, .cells true 325 [.row true false .u32 8 h], .cells true 325 [.row true true .u32 8 [0, 0, 0, 0, 0, 0, 0, 0]], .cells true 337 [.row true false .u32 16 m], .cells true 337 [.row true false .u32 16 v]]
noncomputable def sPre (b : Blk) (h m v : List Int) : St := stM gl [(4, .ptr 14 0 0 true 0), (8, .ptr 15 0 0 true 0), (9, .ptr 16 0 0 true 0), (10, .ptr 17 0 0 true 0)]
 [b, .cells true 325 [.row true false .u32 8 h], .cells true 325 [.row true true .u32 8 [0, 0, 0, 0, 0, 0, 0, 0]], .cells true 337 [.row true false .u32 16 m], .cells true 337 [.row true false .u32 16 v]]
def obsP (off len n : Nat) : List Prop := [(0 : Int) ≤ 0 ∧ (0 : Int) < (len : Int), off + 0 < n, (0 : Int) ≤ 1 ∧ (1 : Int) < (len : Int), off + 1 < n, (0 : Int) ≤ 8, (0 : Int) ≤ 2 ∧ (2 : Int) < (len : Int), off + 2 < n, (0 : Int) ≤ 16, (0 : Int) ≤ 3 ∧ (3 : Int) < (len : Int), off + 3 < n, (0 : Int) ≤ 24, (0 : Int) ≤ 4 ∧ (4 : Int) < (len : Int), off + 4 < n, (0 : Int) ≤ 5 ∧ (5 : Int) < (len : Int), off + 5 < n, (0 : Int) ≤ 8, (0 : Int) ≤ 6 ∧ (6 : Int) < (len : Int), off + 6 < n, (0 : Int) ≤ 16, (0 : Int) ≤ 7 ∧ (7 : Int) < (len : Int), off + 7 < n, (0 : Int) ≤ 24, (0 : Int) ≤ 8 ∧ (8 : Int) < (len : Int), off + 8 < n, (0 : Int) ≤ 9 ∧ (9 : Int) < (len : Int), off + 9 < n, (0 : Int) ≤ 8, (0 : Int) ≤ 10 ∧ (10 : Int) < (len : Int), off + 10 < n, (0 : Int) ≤ 16, (0 : Int) ≤ 11 ∧ (11 : Int) < (len : Int), off + 11 < n, (0 : Int) ≤ 24, (0 : Int) ≤ 12 ∧ (12 : Int) < (len : Int), off + 12 < n, (0 : Int) ≤ 13 ∧ (13 : Int) < (len : Int), off + 13 < n, (0 : Int) ≤ 8, (0 : Int) ≤ 14 ∧ (14 : Int) < (len : Int), off + 14 < n, (0 : Int) ≤ 16, (0 : Int) ≤ 15 ∧ (15 : Int) < (len : Int), off + 15 < n, (0 : Int) ≤ 24, (0 : Int) ≤ 16 ∧ (16 : Int) < (len : Int), off + 16 < n, (0 : Int) ≤ 17 ∧ (17 : Int) < (len : Int), off + 17 < n, (0 : Int) ≤ 8, (0 : Int) ≤ 18 ∧ (18 : Int) < (len : Int), off + 18 < n, (0 : Int) ≤ 16, (0 : Int) ≤ 19 ∧ (19 : Int) < (len : Int), off + 19 < n, (0 : Int) ≤ 24, (0 : Int) ≤ 20 ∧ (20 : Int) < (len : Int), off + 20 < n, (0 : Int) ≤ 21 ∧ (21 : Int) < (len : Int), off + 21 < n, (0 : Int) ≤ 8, (0 : Int) ≤ 22 ∧ (22 : Int) < (len : Int), off + 22 < n, (0 : Int) ≤ 16, (0 : Int) ≤ 23 ∧ (23 : Int) < (len : Int), off + 23 < n, (0 : Int) ≤ 24, (0 : Int) ≤ 24 ∧ (24 : Int) < (len : Int), off + 24 < n, (0 : Int) ≤ 25 ∧ (25 : Int) < (len : Int), off + 25 < n, (0 : Int) ≤ 8, (0 : Int) ≤ 26 ∧ (26 : Int) < (len : Int), off + 26 < n, (0 : Int) ≤ 16, (0 : Int) ≤ 27 ∧ (27 : Int) < (len : Int), off + 27 < n, (0 : Int) ≤ 24, (0 : Int) ≤ 28 ∧ (28 : Int) < (len : Int), off + 28 < n, (0 : Int) ≤ 29 ∧ (29 : Int) < (len : Int), off + 29 < n, (0 : Int) ≤ 8, (0 : Int) ≤ 30 ∧ (30 : Int) < (len : Int), off + 30 < n, (0 : Int) ≤ 16, (0 : Int) ≤ 31 ∧ (31 : Int) < (len : Int), off + 31 < n, (0 : Int) ≤ 24, (0 : Int) ≤ 32 ∧ (32 : Int) < (len : Int), off + 32 < n, (0 : Int) ≤ 33 ∧ (33 : Int) < (len : Int), off + 33 < n, (0 : Int) ≤ 8, (0 : Int) ≤ 34 ∧ (34 : Int) < (len : Int), off + 34 < n, (0 : Int) ≤ 16, (0 : Int) ≤ 35 ∧ (35 : Int) < (len : Int), off + 35 < n, (0 : Int) ≤ 24, (0 : Int) ≤ 36 ∧ (36 : Int) < (len : Int), off + 36 < n, (0 : Int) ≤ 37 ∧ (37 : Int) < (len : Int), off + 37 < n, (0 : Int) ≤ 8, (0 : Int) ≤ 38 ∧ (38 : Int) < (len : Int), off + 38 < n, (0 : Int) ≤ 16, (0 : Int) ≤ 39 ∧ (39 : Int) < (len : Int), off + 39 < n, (0 : Int) ≤ 24, (0 : Int) ≤ 40 ∧ (40 : Int) < (len : Int), off + 40 < n, (0 : Int) ≤ 41 ∧ (41 : Int) < (len : Int), off + 41 < n, (0 : Int) ≤ 8, (0 : Int) ≤ 42 ∧ (42 : Int) < (len : Int), off + 42 < n, (0 : Int) ≤ 16, (0 : Int) ≤ 43 ∧ (43 : Int) < (len : Int), off + 43 < n, (0 : Int) ≤ 24, (0 : Int) ≤ 44 ∧ (44 : Int) < (len : Int), off + 44 < n, (0 : Int) ≤ 45 ∧ (45 : Int) < (len : Int), off + 45 < n, (0 : Int) ≤ 8, (0 : Int) ≤ 46 ∧ (46 : Int) < (len : Int), off + 46 < n, (0 : Int) ≤ 16, (0 : Int) ≤ 47 ∧ (47 : Int) < (len : Int), off + 47 < n, (0 : Int) ≤ 24, (0 : Int) ≤ 48 ∧ (48 : Int) < (len : Int), off + 48 < n, (0 : Int) ≤ 49 ∧ (49 : Int) < (len : Int), off + 49 < n, (0 : Int) ≤ 8, (0 : Int) ≤ 50 ∧ (50 : Int) < (len : Int), off + 50 < n, (0 : Int) ≤ 16, (0 : Int) ≤ 51 ∧ (51 : Int) < (len : Int), off + 51 < n, (0 : Int) ≤ 24, (0 : Int) ≤ 52 ∧ (52 : Int) < (len : Int), off + 52 < n, (0 : Int) ≤ 53 ∧ (53 : Int) < (len : Int), off + 53 < n, (0 : Int) ≤ 8, (0 : Int) ≤ 54 ∧ (54 : Int) < (len : Int), off + 54 < n, (0 : Int) ≤ 16, (0 : Int) ≤ 55 ∧ (55 : Int) < (len : Int), off + 55 < n, (0 : Int) ≤ 24, (0 : Int) ≤ 56 ∧ (56 : Int) < (len : Int), off + 56 < n, (0 : Int) ≤ 57 ∧ (57 : Int) < (len : Int), off + 57 < n, (0 : Int) ≤ 8, (0 : Int) ≤ 58 ∧ (58 : Int) < (len : Int), off + 58 < n, (0 : Int) ≤ 16, (0 : Int) ≤ 59 ∧ (59 : Int) < (len : Int), off + 59 < n, (0 : Int) ≤ 24, (0 : Int) ≤ 60 ∧ (60 : Int) < (len : Int), off + 60 < n, (0 : Int) ≤ 61 ∧ (61 : Int) < (len : Int), off + 61 < n, (0 : Int) ≤ 8, (0 : Int) ≤ 62 ∧ (62 : Int) < (len : Int), off + 62 < n, (0 : Int) ≤ 16, (0 : Int) ≤ 63 ∧ (63 : Int) < (len : Int), off + 63 < n, (0 : Int) ≤ 24, (0 : Int) ≤ 32]
theorem rnd0 (o : Bool) (tt : TypeId) (n : Nat) (xs h m v : List Int) : (execK cxP 14 10000 roundB [4, 8, 9, 10, 90, 91] (List.range 18) (sRnd (.cells o tt [.row false false .u8 n xs]) h m v ((0 : Nat) : Int))).walk [] [] = some ([], (.normal, sRnd (.cells o tt [.row false false .u8 n xs]) h m (mixR m v (rowsB.getD 0 [])) (((0 : Nat) + 1 : Nat) : Int))) := by kernel_rfl
theorem rnd1 (o : Bool) (tt : TypeId) (n : Nat) (xs h m v : List Int) : (execK cxP 14 10000 roundB [4, 8, 9, 10, 90, 91] (List.range 18) (sRnd (.cells o tt [.row false false .u8 n xs]) h m v ((1 : Nat) : Int))).walk [] [] = some ([], (.normal, sRnd (.cells o tt [.row false false .u8 n xs]) h m (mixR m v (rowsB.getD 1 [])) (((1 : Nat) + 1 : Nat) : Int))) := by kernel_rfl
theorem rnd2 (o : Bool) (tt : TypeId) (n : Nat) (xs h m v : List Int) : (execK cxP 14 10000 roundB [4, 8, 9, 10, 90, 91] (List.range 18) (sRnd (.cells o tt [.row false false .u8 n xs]) h m v ((2 : Nat) : Int))).walk [] [] = some ([], (.normal, sRnd (.cells o tt [.row false false .u8 n xs]) h m (mixR m v (rowsB.getD 2 [])) (((2 : Nat) + 1 : Nat) : Int))) := by kernel_rfl
theorem rnd3 (o : Bool) (tt : TypeId) (n : Nat) (xs h m v : List Int) : (execK cxP 14 10000 roundB [4, 8, 9, 10, 90, 91] (List.range 18) (sRnd (.cells o tt [.row false false .u8 n xs]) h m v ((3 : Nat) : Int))).walk [] [] = some ([], (.normal, sRnd (.cells o tt [.row false false .u8 n xs]) h m (mixR m v (rowsB.getD 3 [])) (((3 : Nat) + 1 : Nat) : Int))) := by kernel_rfl
theorem rnd4 (o : Bool) (tt : TypeId) (n : Nat) (xs h m v : List Int) : (execK cxP 14 10000 roundB [4, 8, 9, 10, 90, 91] (List.range 18) (sRnd (.cells o tt [.row false false .u8 n xs]) h m v ((4 : Nat) : Int))).walk [] [] = some ([], (.normal, sRnd (.cells o tt [.row false false .u8 n xs]) h m (mixR m v (rowsB.getD 4 [])) (((4 : Nat) + 1 : Nat) : Int))) := by kernel_rfl
theorem rnd5 (o : Bool) (tt : TypeId) (n : Nat) (xs h m v : List Int) : (execK cxP 14 10000 roundB [4, 8, 9, 10, 90, 91] (List.range 18) (sRnd (.cells o tt [.row false false .u8 n xs]) h m v ((5 : Nat) : Int))).walk [] [] = some ([], (.normal, sRnd (.cells o tt [.row false false .u8 n xs]) h m (mixR m v (rowsB.getD 5 [])) (((5 : Nat) + 1 : Nat) : Int))) := by kernel_rfl
theorem rnd6 (o : Bool) (tt : TypeId) (n : Nat) (xs h m v : List Int) : (execK cxP 14 10000 roundB [4, 8, 9, 10, 90, 91] (List.range 18) (sRnd (.cells o tt [.row false false .u8 n xs]) h m v ((6 : Nat) : Int))).walk [] [] = some ([], (.normal, sRnd (.cells o tt [.row false false .u8 n xs]) h m (mixR m v (rowsB.getD 6 [])) (((6 : Nat) + 1 : Nat) : Int))) := by kernel_rfl
theorem rnd7 (o : Bool) (tt : TypeId) (n : Nat) (xs h m v : List Int) : (execK cxP 14 10000 roundB [4, 8, 9, 10, 90, 91] (List.range 18) (sRnd (.cells o tt [.row false false .u8 n xs]) h m v ((7 : Nat) : Int))).walk [] [] = some ([], (.normal, sRnd (.cells o tt [.row false false .u8 n xs]) h m (mixR m v (rowsB.getD 7 [])) (((7 : Nat) + 1 : Nat) : Int))) := by kernel_rfl
theorem rnd8 (o : Bool) (tt : TypeId) (n : Nat) (xs h m v : List Int) : (execK cxP 14 10000 roundB [4, 8, 9, 10, 90, 91] (List.range 18) (sRnd (.cells o tt [.row false false .u8 n xs]) h m v ((8 : Nat) : Int))).walk [] [] = some ([], (.normal, sRnd (.cells o tt [.row false false .u8 n xs]) h m (mixR m v (rowsB.getD 8 [])) (((8 : Nat) + 1 : Nat) : Int))) := by kernel_rfl
theorem rnd9 (o : Bool) (tt : TypeId) (n : Nat) (xs h m v : List Int) : (execK cxP 14 10000 roundB [4, 8, 9, 10, 90, 91] (List.range 18) (sRnd (.cells o tt [.row false false .u8 n xs]) h m v ((9 : Nat) : Int))).walk [] [] = some ([], (.normal, sRnd (.cells o tt [.row false false .u8 n xs]) h m (mixR m v (rowsB.getD 9 [])) (((9 : Nat) + 1 : Nat) : Int))) := by kernel_rfl
theorem rnd (o : Bool) (tt : TypeId) (n : Nat) (xs h m v : List Int) : ∀ i, i < 10 → (execK cxP 14 10000 roundB [4, 8, 9, 10, 90, 91] (List.range 18) (sRnd (.cells o tt [.row false false .u8 n xs]) h m v (i : Nat))).walk [] [] = some ([], (.normal, sRnd (.cells o tt [.row false false .u8 n xs]) h m (mixR m v (rowsB.getD i [])) ((i + 1 : Nat) : Int)))
 | 0, _ => rnd0 o tt n xs h m v
 | 1, _ => rnd1 o tt n xs h m v
 | 2, _ => rnd2 o tt n xs h m v
 | 3, _ => rnd3 o tt n xs h m v
 | 4, _ => rnd4 o tt n xs h m v
 | 5, _ => rnd5 o tt n xs h m v
 | 6, _ => rnd6 o tt n xs h m v
 | 7, _ => rnd7 o tt n xs h m v
 | 8, _ => rnd8 o tt n xs h m v
 | 9, _ => rnd9 o tt n xs h m v
 | n + 10, h => absurd h (by omega)
theorem rstop (o : Bool) (tt : TypeId) (n : Nat) (xs h m v : List Int) : (execK cxP 14 10000 roundB [4, 8, 9, 10, 90, 91] (List.range 18) (sRnd (.cells o tt [.row false false .u8 n xs]) h m v ((10 : Nat) : Int))).walk [] [] = some ([], (.exit 4, sRnd (.cells o tt [.row false false .u8 n xs]) h m v ((10 : Nat) : Int))) := by kernel_rfl
theorem rend (o : Bool) (tt : TypeId) (n : Nat) (xs h m v : List Int) :
  (exec cxP 10000 (seqR rr) (sRnd (.cells o tt [.row false false .u8 n xs]) h m v ((10 : Nat) : Int)) fun ex s' => match ex with
   | .exit _ => .fail
   | _ => shutS tc Tryz.f250 1 s').walk [] [] = some ([], ⟨.arr false .u32 8 (outL h v), [.cells o tt [.row false false .u8 n xs]]⟩) := by kernel_rfl
theorem rpre_true (xs h : List Int) (off len n : Nat) (t : Int) (cap : Option Nat) (o : Bool) (tt : TypeId) :
  (execK cxP 14 10000 (pre 7 (bodyC Tryz.f250)) [4, 8, 9, 10] (List.range 18) (s0 tc [.arr false .u32 8 h, .slc false 13 0 off len cap, .int false .u64 t, .bool true true] [.cells o tt [.row false false .u8 n xs]])).walk [] [] =
   some (obsP off len n, (.normal, sPre (.cells o tt [.row false false .u8 n xs]) h (words xs off) (v0L h t true))) := by kernel_rfl
theorem rpre_false (xs h : List Int) (off len n : Nat) (t : Int) (cap : Option Nat) (o : Bool) (tt : TypeId) :
  (execK cxP 14 10000 (pre 7 (bodyC Tryz.f250)) [4, 8, 9, 10] (List.range 18) (s0 tc [.arr false .u32 8 h, .slc false 13 0 off len cap, .int false .u64 t, .bool true false] [.cells o tt [.row false false .u8 n xs]])).walk [] [] =
   some (obsP off len n, (.normal, sPre (.cells o tt [.row false false .u8 n xs]) h (words xs off) (v0L h t false))) := by kernel_rfl
theorem rini (o : Bool) (tt : TypeId) (n : Nat) (xs h m v : List Int) : (execK cxP 14 10000 (seqL (seqL rr)) [4, 8, 9, 10, 90, 91] (List.range 18) (sPre (.cells o tt [.row false false .u8 n xs]) h m v)).walk [] [] = some ([], (.normal, sRnd (.cells o tt [.row false false .u8 n xs]) h m v ((0 : Nat) : Int))) := by kernel_rfl
def vAt (m v : List Int) : Nat → List Int
 | 0 => v
 | i + 1 => mixR m (vAt m v i) (rowsB.getD i [])
theorem c281 : ConsOk [(281, F281)] := ⟨fun p hp => by
  rcases List.mem_singleton.1 hp with rfl
  exact f281_ok, fun p hp h => by
  rcases List.mem_singleton.1 hp with rfl
  exact absurd h (by decide)⟩
theorem rr_eq : post 7 (bodyC Tryz.f250) = .seq (seqL rr) (seqR rr) := by kernel_rfl
theorem press_con (o : Bool) (tt : TypeId) (xs h : List Int) (off len : Nat) (t : Int) (cap : Option Nat) (last : Bool) (h1 : 64 ≤ len) (h2 : off + len ≤ xs.length) :
  Con Tryz.prog gl 250 [.arr false .u32 8 h, .slc false 13 0 off len cap, .int false .u64 t, .bool true last] [.cells o tt [.row false false .u8 xs.length xs]] ⟨.arr false .u32 8 (pressL h xs off t last), [.cells o tt [.row false false .u8 xs.length xs]]⟩ := by
 refine con_tri c281 Tryz.func250 (by kernel_rfl) (show Tryz.f250.body = some (bodyC Tryz.f250) by kernel_rfl) (by kernel_rfl) (fun B hB => ?_)
 have hob : Conj (obsP off len xs.length) := by
  unfold obsP
  repeat' apply And.intro
  all_goals first | trivial | omega
 have hpre : (execK cxP 14 10000 (pre 7 (bodyC Tryz.f250)) [4, 8, 9, 10] (List.range 18) (s0 tc [.arr false .u32 8 h, .slc false 13 0 off len cap, .int false .u64 t, .bool true last] [.cells o tt [.row false false .u8 xs.length xs]])).walk [] [] =
   some (obsP off len xs.length, (.normal, sPre (.cells o tt [.row false false .u8 xs.length xs]) h (words xs off) (v0L h t last))) := by
  cases last with
  | true => exact rpre_true xs h off len xs.length t cap o tt
  | false => exact rpre_false xs h off len xs.length t cap o tt
 refine tri_pk (cxE_ok c281 145) hB (by kernel_rfl) 7 hpre hob ?_
 rw [rr_eq]
 refine tri_seqN (P := fun s => s = sRnd (.cells o tt [.row false false .u8 xs.length xs]) h (words xs off) (vAt (words xs off) (v0L h t last) 10) ((10 : Nat) : Int)) ?_ (fun s' h' => ?_)
 ·rw [code1, code2]
  refine tri_seqN (P := fun s => s = sRnd (.cells o tt [.row false false .u8 xs.length xs]) h (words xs off) (v0L h t last) ((0 : Nat) : Int)) ?_ (fun s' h' => ?_)
  ·exact tri_wk (cxE_ok c281 145) hB (by kernel_rfl) (rini o tt xs.length xs h _ _) conj_nil ⟨rfl, rfl⟩
  ·subst h'
   refine tri_range (fun i => sRnd (.cells o tt [.row false false .u8 xs.length xs]) h (words xs off) (vAt (words xs off) (v0L h t last) i) (i : Nat)) 10 (fun i hi => ?_) ?_
   ·exact tri_wk (cxE_ok c281 145) hB (by kernel_rfl) (rnd o tt xs.length xs h _ _ i hi) conj_nil ⟨rfl, rfl⟩
   ·exact tri_wk (cxE_ok c281 145) hB (by kernel_rfl) (rstop o tt xs.length xs h _ _) conj_nil ⟨rfl, rfl⟩
 ·subst h'
  exact tri_end (cxE_ok c281 145) (rend o tt xs.length xs h _ _) conj_nil
section
variable {β : Type}
def setK : List Int → Nat → Int → (List Int → β) → β
 | [], _, _, K => K []
 | y :: r, i, x, K => match i with
  | 0 => K (x :: r)
  | i + 1 => setK r i x fun r => K (y :: r)
theorem setK_eq : ∀ (v : List Int) (i : Nat) (x : Int) (K : List Int → β), setK v i x K = K (v.set i x)
 | [], _, _, _ => rfl
 | y :: r, 0, x, K => rfl
 | y :: r, i + 1, x, K => setK_eq r i x fun r => K (y :: r)
def mix1K (i j : Nat) (x : Int) (v : List Int) (K : List Int → β) : β := fcI (wadd (v.getD i 0) (wadd (v.getD j 0) x)) fun y => setK v i y K
def mix2K (i j : Nat) (p q : Int) (v : List Int) (K : List Int → β) : β := fcI (bits .xor .u32 (v.getD i 0) (v.getD j 0)) fun y => fcI (rotL y p q) fun y => setK v i y K
def mix3K (i j : Nat) (v : List Int) (K : List Int → β) : β := fcI (wadd (v.getD i 0) (v.getD j 0)) fun y => setK v i y K
theorem mix1K_eq (i j : Nat) (x : Int) (v : List Int) (K : List Int → β) : mix1K i j x v K = K (mix1 i j x v) := by rw [mix1K, fcI_eq, setK_eq]; rfl
theorem mix2K_eq (i j : Nat) (p q : Int) (v : List Int) (K : List Int → β) : mix2K i j p q v K = K (mix2 i j p q v) := by rw [mix2K, fcI_eq, fcI_eq, setK_eq]; rfl
theorem mix3K_eq (i j : Nat) (v : List Int) (K : List Int → β) : mix3K i j v K = K (mix3 i j v) := by rw [mix3K, fcI_eq, setK_eq]; rfl
def mixK (a b c d : Nat) (x y : Int) (v : List Int) (K : List Int → β) : β :=
 fcI x fun x => fcI y fun y =>
 mix1K a b x v fun v => mix2K d a 65536 65536 v fun v => mix3K c d v fun v => mix2K b c 1048576 4096 v fun v => mix1K a b y v fun v => mix2K d a 16777216 256 v fun v => mix3K c d v fun v => mix2K b c 33554432 128 v K
theorem mixK_eq (a b c d : Nat) (x y : Int) (v : List Int) (K : List Int → β) : mixK a b c d x y v K = K (mixL a b c d x y v) := by
 simp only [mixK, fcI_eq, mix1K_eq, mix2K_eq, mix3K_eq, mixL]
def mixRK (m : List Int) (v : List Int) (r : List Nat) (K : List Int → β) : β := match r with
 | [s0, s1, s2, s3, s4, s5, s6, s7, s8, s9, s10, s11, s12, s13, s14, s15] =>
  mixK 0 4 8 12 (m.getD s0 0) (m.getD s1 0) v fun v => mixK 1 5 9 13 (m.getD s2 0) (m.getD s3 0) v fun v => mixK 2 6 10 14 (m.getD s4 0) (m.getD s5 0) v fun v => mixK 3 7 11 15 (m.getD s6 0) (m.getD s7 0) v fun v =>
  mixK 0 5 10 15 (m.getD s8 0) (m.getD s9 0) v fun v => mixK 1 6 11 12 (m.getD s10 0) (m.getD s11 0) v fun v => mixK 2 7 8 13 (m.getD s12 0) (m.getD s13 0) v fun v => mixK 3 4 9 14 (m.getD s14 0) (m.getD s15 0) v K
 | _ => K v
theorem mixRK_eq (m v : List Int) (r : List Nat) (K : List Int → β) : mixRK m v r K = K (mixR m v r) := by
 unfold mixRK mixR
 split <;> simp only [mixK_eq]
def roundsK (m : List Int) : List (List Nat) → List Int → (List Int → β) → β
 | [], v, K => K v
 | r :: l, v, K => mixRK m v r fun v => roundsK m l v K
theorem roundsK_eq (m : List Int) : ∀ (l : List (List Nat)) (v : List Int) (K : List Int → β), roundsK m l v K = K (rounds m v l)
 | [], _, _ => rfl
 | r :: l, v, K => by rw [roundsK, mixRK_eq, roundsK_eq m l]; rfl
end
section
variable {β : Type}
def addN (a b : Nat) : Nat := Nat.mod (Nat.add a b) 4294967296
def xorN (a b : Nat) : Nat := Nat.xor (Nat.mod a 4294967296) (Nat.mod b 4294967296)
def orN (a b : Nat) : Nat := Nat.lor (Nat.mod a 4294967296) (Nat.mod b 4294967296)
def rotN (a p q : Nat) : Nat := orN (Nat.mod (Nat.mul a p) 4294967296) (Nat.div a q)
theorem wrap_cast (n : Nat) : IntKind.u32.wrap (n : Int) = ((n % 4294967296 : Nat) : Int) := by
 unfold IntKind.wrap
 simp [IntKind.signed, IntKind.bits]
theorem addN_cast (a b : Nat) : wadd (a : Int) (b : Int) = (addN a b : Int) := by
 rw [wadd, ← Int.natCast_add, wrap_cast]; rfl
theorem ofInt_cast (n : Nat) : (BitVec.ofInt IntKind.u32.bits (n : Int)).toNat = n % 4294967296 := by
 rw [BitVec.ofInt_natCast, BitVec.toNat_ofNat]; rfl
theorem xorN_cast (a b : Nat) : bits .xor .u32 (a : Int) (b : Int) = (xorN a b : Int) := by
 show IntKind.u32.wrap (((BitVec.ofInt IntKind.u32.bits (a : Int) ^^^ BitVec.ofInt IntKind.u32.bits (b : Int)).toNat : Nat) : Int) = _
 rw [BitVec.toNat_xor, ofInt_cast, ofInt_cast, wrap_cast]
 have h : (a % 4294967296) ^^^ (b % 4294967296) < 2 ^ 32 := Nat.xor_lt_two_pow (Nat.mod_lt _ (by decide)) (Nat.mod_lt _ (by decide))
 rw [Nat.mod_eq_of_lt h]
 rfl
theorem orN_cast (a b : Nat) : bits .or .u32 (a : Int) (b : Int) = (orN a b : Int) := by
 show IntKind.u32.wrap (((BitVec.ofInt IntKind.u32.bits (a : Int) ||| BitVec.ofInt IntKind.u32.bits (b : Int)).toNat : Nat) : Int) = _
 rw [BitVec.toNat_or, ofInt_cast, ofInt_cast, wrap_cast]
 have h : (a % 4294967296) ||| (b % 4294967296) < 2 ^ 32 := Nat.or_lt_two_pow (Nat.mod_lt _ (by decide)) (Nat.mod_lt _ (by decide))
 rw [Nat.mod_eq_of_lt h]
 rfl
theorem rotN_cast (a p q : Nat) : rotL (a : Int) (p : Int) (q : Int) = (rotN a p q : Int) := by
 rw [rotL, ← Int.natCast_mul, wrap_cast, show Int.fdiv (a : Int) (q : Int) = ((a / q : Nat) : Int) from by rw [Int.fdiv_eq_ediv_of_nonneg _ (by omega)]; rfl, orN_cast]
 rfl
theorem rot_a (a : Nat) : rotL (a : Int) 65536 65536 = (rotN a 65536 65536 : Int) := rotN_cast a 65536 65536
theorem rot_b (a : Nat) : rotL (a : Int) 1048576 4096 = (rotN a 1048576 4096 : Int) := rotN_cast a 1048576 4096
theorem rot_c (a : Nat) : rotL (a : Int) 16777216 256 = (rotN a 16777216 256 : Int) := rotN_cast a 16777216 256
theorem rot_d (a : Nat) : rotL (a : Int) 33554432 128 = (rotN a 33554432 128 : Int) := rotN_cast a 33554432 128
def qN (a b c d x y : Nat) (K : Nat → Nat → Nat → Nat → β) : β :=
 fcN (addN a (addN b x)) fun a => fcN (rotN (xorN d a) 65536 65536) fun d => fcN (addN c d) fun c => fcN (rotN (xorN b c) 1048576 4096) fun b =>
 fcN (addN a (addN b y)) fun a => fcN (rotN (xorN d a) 16777216 256) fun d => fcN (addN c d) fun c => fcN (rotN (xorN b c) 33554432 128) fun b => K a b c d
theorem q_0 (v0 v1 v2 v3 v4 v5 v6 v7 v8 v9 v10 v11 v12 v13 v14 v15 x y : Nat) (K : List Int → β) : qN v0 v4 v8 v12 x y (fun a b c d => K [(a : Int), (v1 : Int), (v2 : Int), (v3 : Int), (b : Int), (v5 : Int), (v6 : Int), (v7 : Int), (c : Int), (v9 : Int), (v10 : Int), (v11 : Int), (d : Int), (v13 : Int), (v14 : Int), (v15 : Int)]) = K (mixL 0 4 8 12 (x : Int) (y : Int) [(v0 : Int), (v1 : Int), (v2 : Int), (v3 : Int), (v4 : Int), (v5 : Int), (v6 : Int), (v7 : Int), (v8 : Int), (v9 : Int), (v10 : Int), (v11 : Int), (v12 : Int), (v13 : Int), (v14 : Int), (v15 : Int)]) := by
 simp only [qN, fcN_eq, mixL, mix1, mix2, mix3, List.set_cons_succ, List.set_cons_zero, List.getD_cons_succ, List.getD_cons_zero, addN_cast, xorN_cast, rot_a, rot_b, rot_c, rot_d]
theorem q_1 (v0 v1 v2 v3 v4 v5 v6 v7 v8 v9 v10 v11 v12 v13 v14 v15 x y : Nat) (K : List Int → β) : qN v1 v5 v9 v13 x y (fun a b c d => K [(v0 : Int), (a : Int), (v2 : Int), (v3 : Int), (v4 : Int), (b : Int), (v6 : Int), (v7 : Int), (v8 : Int), (c : Int), (v10 : Int), (v11 : Int), (v12 : Int), (d : Int), (v14 : Int), (v15 : Int)]) = K (mixL 1 5 9 13 (x : Int) (y : Int) [(v0 : Int), (v1 : Int), (v2 : Int), (v3 : Int), (v4 : Int), (v5 : Int), (v6 : Int), (v7 : Int), (v8 : Int), (v9 : Int), (v10 : Int), (v11 : Int), (v12 : Int), (v13 : Int), (v14 : Int), (v15 : Int)]) := by
 simp only [qN, fcN_eq, mixL, mix1, mix2, mix3, List.set_cons_succ, List.set_cons_zero, List.getD_cons_succ, List.getD_cons_zero, addN_cast, xorN_cast, rot_a, rot_b, rot_c, rot_d]
theorem q_2 (v0 v1 v2 v3 v4 v5 v6 v7 v8 v9 v10 v11 v12 v13 v14 v15 x y : Nat) (K : List Int → β) : qN v2 v6 v10 v14 x y (fun a b c d => K [(v0 : Int), (v1 : Int), (a : Int), (v3 : Int), (v4 : Int), (v5 : Int), (b : Int), (v7 : Int), (v8 : Int), (v9 : Int), (c : Int), (v11 : Int), (v12 : Int), (v13 : Int), (d : Int), (v15 : Int)]) = K (mixL 2 6 10 14 (x : Int) (y : Int) [(v0 : Int), (v1 : Int), (v2 : Int), (v3 : Int), (v4 : Int), (v5 : Int), (v6 : Int), (v7 : Int), (v8 : Int), (v9 : Int), (v10 : Int), (v11 : Int), (v12 : Int), (v13 : Int), (v14 : Int), (v15 : Int)]) := by
 simp only [qN, fcN_eq, mixL, mix1, mix2, mix3, List.set_cons_succ, List.set_cons_zero, List.getD_cons_succ, List.getD_cons_zero, addN_cast, xorN_cast, rot_a, rot_b, rot_c, rot_d]
theorem q_3 (v0 v1 v2 v3 v4 v5 v6 v7 v8 v9 v10 v11 v12 v13 v14 v15 x y : Nat) (K : List Int → β) : qN v3 v7 v11 v15 x y (fun a b c d => K [(v0 : Int), (v1 : Int), (v2 : Int), (a : Int), (v4 : Int), (v5 : Int), (v6 : Int), (b : Int), (v8 : Int), (v9 : Int), (v10 : Int), (c : Int), (v12 : Int), (v13 : Int), (v14 : Int), (d : Int)]) = K (mixL 3 7 11 15 (x : Int) (y : Int) [(v0 : Int), (v1 : Int), (v2 : Int), (v3 : Int), (v4 : Int), (v5 : Int), (v6 : Int), (v7 : Int), (v8 : Int), (v9 : Int), (v10 : Int), (v11 : Int), (v12 : Int), (v13 : Int), (v14 : Int), (v15 : Int)]) := by
 simp only [qN, fcN_eq, mixL, mix1, mix2, mix3, List.set_cons_succ, List.set_cons_zero, List.getD_cons_succ, List.getD_cons_zero, addN_cast, xorN_cast, rot_a, rot_b, rot_c, rot_d]
theorem q_4 (v0 v1 v2 v3 v4 v5 v6 v7 v8 v9 v10 v11 v12 v13 v14 v15 x y : Nat) (K : List Int → β) : qN v0 v5 v10 v15 x y (fun a b c d => K [(a : Int), (v1 : Int), (v2 : Int), (v3 : Int), (v4 : Int), (b : Int), (v6 : Int), (v7 : Int), (v8 : Int), (v9 : Int), (c : Int), (v11 : Int), (v12 : Int), (v13 : Int), (v14 : Int), (d : Int)]) = K (mixL 0 5 10 15 (x : Int) (y : Int) [(v0 : Int), (v1 : Int), (v2 : Int), (v3 : Int), (v4 : Int), (v5 : Int), (v6 : Int), (v7 : Int), (v8 : Int), (v9 : Int), (v10 : Int), (v11 : Int), (v12 : Int), (v13 : Int), (v14 : Int), (v15 : Int)]) := by
 simp only [qN, fcN_eq, mixL, mix1, mix2, mix3, List.set_cons_succ, List.set_cons_zero, List.getD_cons_succ, List.getD_cons_zero, addN_cast, xorN_cast, rot_a, rot_b, rot_c, rot_d]
theorem q_5 (v0 v1 v2 v3 v4 v5 v6 v7 v8 v9 v10 v11 v12 v13 v14 v15 x y : Nat) (K : List Int → β) : qN v1 v6 v11 v12 x y (fun a b c d => K [(v0 : Int), (a : Int), (v2 : Int), (v3 : Int), (v4 : Int), (v5 : Int), (b : Int), (v7 : Int), (v8 : Int), (v9 : Int), (v10 : Int), (c : Int), (d : Int), (v13 : Int), (v14 : Int), (v15 : Int)]) = K (mixL 1 6 11 12 (x : Int) (y : Int) [(v0 : Int), (v1 : Int), (v2 : Int), (v3 : Int), (v4 : Int), (v5 : Int), (v6 : Int), (v7 : Int), (v8 : Int), (v9 : Int), (v10 : Int), (v11 : Int), (v12 : Int), (v13 : Int), (v14 : Int), (v15 : Int)]) := by
 simp only [qN, fcN_eq, mixL, mix1, mix2, mix3, List.set_cons_succ, List.set_cons_zero, List.getD_cons_succ, List.getD_cons_zero, addN_cast, xorN_cast, rot_a, rot_b, rot_c, rot_d]
theorem q_6 (v0 v1 v2 v3 v4 v5 v6 v7 v8 v9 v10 v11 v12 v13 v14 v15 x y : Nat) (K : List Int → β) : qN v2 v7 v8 v13 x y (fun a b c d => K [(v0 : Int), (v1 : Int), (a : Int), (v3 : Int), (v4 : Int), (v5 : Int), (v6 : Int), (b : Int), (c : Int), (v9 : Int), (v10 : Int), (v11 : Int), (v12 : Int), (d : Int), (v14 : Int), (v15 : Int)]) = K (mixL 2 7 8 13 (x : Int) (y : Int) [(v0 : Int), (v1 : Int), (v2 : Int), (v3 : Int), (v4 : Int), (v5 : Int), (v6 : Int), (v7 : Int), (v8 : Int), (v9 : Int), (v10 : Int), (v11 : Int), (v12 : Int), (v13 : Int), (v14 : Int), (v15 : Int)]) := by
 simp only [qN, fcN_eq, mixL, mix1, mix2, mix3, List.set_cons_succ, List.set_cons_zero, List.getD_cons_succ, List.getD_cons_zero, addN_cast, xorN_cast, rot_a, rot_b, rot_c, rot_d]
theorem q_7 (v0 v1 v2 v3 v4 v5 v6 v7 v8 v9 v10 v11 v12 v13 v14 v15 x y : Nat) (K : List Int → β) : qN v3 v4 v9 v14 x y (fun a b c d => K [(v0 : Int), (v1 : Int), (v2 : Int), (a : Int), (b : Int), (v5 : Int), (v6 : Int), (v7 : Int), (v8 : Int), (c : Int), (v10 : Int), (v11 : Int), (v12 : Int), (v13 : Int), (d : Int), (v15 : Int)]) = K (mixL 3 4 9 14 (x : Int) (y : Int) [(v0 : Int), (v1 : Int), (v2 : Int), (v3 : Int), (v4 : Int), (v5 : Int), (v6 : Int), (v7 : Int), (v8 : Int), (v9 : Int), (v10 : Int), (v11 : Int), (v12 : Int), (v13 : Int), (v14 : Int), (v15 : Int)]) := by
 simp only [qN, fcN_eq, mixL, mix1, mix2, mix3, List.set_cons_succ, List.set_cons_zero, List.getD_cons_succ, List.getD_cons_zero, addN_cast, xorN_cast, rot_a, rot_b, rot_c, rot_d]
abbrev casts (l : List Nat) : List Int := l.map fun n => (Nat.cast n : Int)
theorem casts_getD : ∀ (l : List Nat) (i : Nat), (casts l).getD i 0 = ((l.getD i 0 : Nat) : Int)
 | [], _ => rfl
 | _ :: _, 0 => rfl
 | _ :: r, i + 1 => casts_getD r i
def rndN (m : List Nat) (r : List Nat) (v : List Nat) (K : List Nat → β) : β := match r, v with
 | [s0, s1, s2, s3, s4, s5, s6, s7, s8, s9, s10, s11, s12, s13, s14, s15], [v0, v1, v2, v3, v4, v5, v6, v7, v8, v9, v10, v11, v12, v13, v14, v15] =>
  qN v0 v4 v8 v12 (m.getD s0 0) (m.getD s1 0) fun v0 v4 v8 v12 =>
  qN v1 v5 v9 v13 (m.getD s2 0) (m.getD s3 0) fun v1 v5 v9 v13 =>
  qN v2 v6 v10 v14 (m.getD s4 0) (m.getD s5 0) fun v2 v6 v10 v14 =>
  qN v3 v7 v11 v15 (m.getD s6 0) (m.getD s7 0) fun v3 v7 v11 v15 =>
  qN v0 v5 v10 v15 (m.getD s8 0) (m.getD s9 0) fun v0 v5 v10 v15 =>
  qN v1 v6 v11 v12 (m.getD s10 0) (m.getD s11 0) fun v1 v6 v11 v12 =>
  qN v2 v7 v8 v13 (m.getD s12 0) (m.getD s13 0) fun v2 v7 v8 v13 =>
  qN v3 v4 v9 v14 (m.getD s14 0) (m.getD s15 0) fun v3 v4 v9 v14 =>
  K [v0, v1, v2, v3, v4, v5, v6, v7, v8, v9, v10, v11, v12, v13, v14, v15]
 | _, _ => K v
theorem qN_ex (a b c d x y : Nat) : ∃ a' b' c' d', ∀ {γ : Type} (K : Nat → Nat → Nat → Nat → γ), qN a b c d x y K = K a' b' c' d' :=
 ⟨qN a b c d x y fun a _ _ _ => a, qN a b c d x y fun _ b _ _ => b, qN a b c d x y fun _ _ c _ => c, qN a b c d x y fun _ _ _ d => d, fun K => by simp only [qN, fcN_eq]⟩
theorem qx_0 (v0 v1 v2 v3 v4 v5 v6 v7 v8 v9 v10 v11 v12 v13 v14 v15 x y : Nat) : ∃ a b c d : Nat, (∀ {γ : Type} (K : Nat → Nat → Nat → Nat → γ), qN v0 v4 v8 v12 x y K = K a b c d) ∧ mixL 0 4 8 12 (x : Int) (y : Int) (casts [v0, v1, v2, v3, v4, v5, v6, v7, v8, v9, v10, v11, v12, v13, v14, v15]) = casts [a, v1, v2, v3, b, v5, v6, v7, c, v9, v10, v11, d, v13, v14, v15] := by
 obtain ⟨a, b, c, d, h⟩ := qN_ex v0 v4 v8 v12 x y
 refine ⟨a, b, c, d, h, ?_⟩
 have e := q_0 v0 v1 v2 v3 v4 v5 v6 v7 v8 v9 v10 v11 v12 v13 v14 v15 x y (fun l => l)
 rw [h] at e
 exact e.symm
theorem qx_1 (v0 v1 v2 v3 v4 v5 v6 v7 v8 v9 v10 v11 v12 v13 v14 v15 x y : Nat) : ∃ a b c d : Nat, (∀ {γ : Type} (K : Nat → Nat → Nat → Nat → γ), qN v1 v5 v9 v13 x y K = K a b c d) ∧ mixL 1 5 9 13 (x : Int) (y : Int) (casts [v0, v1, v2, v3, v4, v5, v6, v7, v8, v9, v10, v11, v12, v13, v14, v15]) = casts [v0, a, v2, v3, v4, b, v6, v7, v8, c, v10, v11, v12, d, v14, v15] := by
 obtain ⟨a, b, c, d, h⟩ := qN_ex v1 v5 v9 v13 x y
 refine ⟨a, b, c, d, h, ?_⟩
 have e := q_1 v0 v1 v2 v3 v4 v5 v6 v7 v8 v9 v10 v11 v12 v13 v14 v15 x y (fun l => l)
 rw [h] at e
 exact e.symm
theorem qx_2 (v0 v1 v2 v3 v4 v5 v6 v7 v8 v9 v10 v11 v12 v13 v14 v15 x y : Nat) : ∃ a b c d : Nat, (∀ {γ : Type} (K : Nat → Nat → Nat → Nat → γ), qN v2 v6 v10 v14 x y K = K a b c d) ∧ mixL 2 6 10 14 (x : Int) (y : Int) (casts [v0, v1, v2, v3, v4, v5, v6, v7, v8, v9, v10, v11, v12, v13, v14, v15]) = casts [v0, v1, a, v3, v4, v5, b, v7, v8, v9, c, v11, v12, v13, d, v15] := by
 obtain ⟨a, b, c, d, h⟩ := qN_ex v2 v6 v10 v14 x y
 refine ⟨a, b, c, d, h, ?_⟩
 have e := q_2 v0 v1 v2 v3 v4 v5 v6 v7 v8 v9 v10 v11 v12 v13 v14 v15 x y (fun l => l)
 rw [h] at e
 exact e.symm
theorem qx_3 (v0 v1 v2 v3 v4 v5 v6 v7 v8 v9 v10 v11 v12 v13 v14 v15 x y : Nat) : ∃ a b c d : Nat, (∀ {γ : Type} (K : Nat → Nat → Nat → Nat → γ), qN v3 v7 v11 v15 x y K = K a b c d) ∧ mixL 3 7 11 15 (x : Int) (y : Int) (casts [v0, v1, v2, v3, v4, v5, v6, v7, v8, v9, v10, v11, v12, v13, v14, v15]) = casts [v0, v1, v2, a, v4, v5, v6, b, v8, v9, v10, c, v12, v13, v14, d] := by
 obtain ⟨a, b, c, d, h⟩ := qN_ex v3 v7 v11 v15 x y
 refine ⟨a, b, c, d, h, ?_⟩
 have e := q_3 v0 v1 v2 v3 v4 v5 v6 v7 v8 v9 v10 v11 v12 v13 v14 v15 x y (fun l => l)
 rw [h] at e
 exact e.symm
theorem qx_4 (v0 v1 v2 v3 v4 v5 v6 v7 v8 v9 v10 v11 v12 v13 v14 v15 x y : Nat) : ∃ a b c d : Nat, (∀ {γ : Type} (K : Nat → Nat → Nat → Nat → γ), qN v0 v5 v10 v15 x y K = K a b c d) ∧ mixL 0 5 10 15 (x : Int) (y : Int) (casts [v0, v1, v2, v3, v4, v5, v6, v7, v8, v9, v10, v11, v12, v13, v14, v15]) = casts [a, v1, v2, v3, v4, b, v6, v7, v8, v9, c, v11, v12, v13, v14, d] := by
 obtain ⟨a, b, c, d, h⟩ := qN_ex v0 v5 v10 v15 x y
 refine ⟨a, b, c, d, h, ?_⟩
 have e := q_4 v0 v1 v2 v3 v4 v5 v6 v7 v8 v9 v10 v11 v12 v13 v14 v15 x y (fun l => l)
 rw [h] at e
 exact e.symm
theorem qx_5 (v0 v1 v2 v3 v4 v5 v6 v7 v8 v9 v10 v11 v12 v13 v14 v15 x y : Nat) : ∃ a b c d : Nat, (∀ {γ : Type} (K : Nat → Nat → Nat → Nat → γ), qN v1 v6 v11 v12 x y K = K a b c d) ∧ mixL 1 6 11 12 (x : Int) (y : Int) (casts [v0, v1, v2, v3, v4, v5, v6, v7, v8, v9, v10, v11, v12, v13, v14, v15]) = casts [v0, a, v2, v3, v4, v5, b, v7, v8, v9, v10, c, d, v13, v14, v15] := by
 obtain ⟨a, b, c, d, h⟩ := qN_ex v1 v6 v11 v12 x y
 refine ⟨a, b, c, d, h, ?_⟩
 have e := q_5 v0 v1 v2 v3 v4 v5 v6 v7 v8 v9 v10 v11 v12 v13 v14 v15 x y (fun l => l)
 rw [h] at e
 exact e.symm
theorem qx_6 (v0 v1 v2 v3 v4 v5 v6 v7 v8 v9 v10 v11 v12 v13 v14 v15 x y : Nat) : ∃ a b c d : Nat, (∀ {γ : Type} (K : Nat → Nat → Nat → Nat → γ), qN v2 v7 v8 v13 x y K = K a b c d) ∧ mixL 2 7 8 13 (x : Int) (y : Int) (casts [v0, v1, v2, v3, v4, v5, v6, v7, v8, v9, v10, v11, v12, v13, v14, v15]) = casts [v0, v1, a, v3, v4, v5, v6, b, c, v9, v10, v11, v12, d, v14, v15] := by
 obtain ⟨a, b, c, d, h⟩ := qN_ex v2 v7 v8 v13 x y
 refine ⟨a, b, c, d, h, ?_⟩
 have e := q_6 v0 v1 v2 v3 v4 v5 v6 v7 v8 v9 v10 v11 v12 v13 v14 v15 x y (fun l => l)
 rw [h] at e
 exact e.symm
theorem qx_7 (v0 v1 v2 v3 v4 v5 v6 v7 v8 v9 v10 v11 v12 v13 v14 v15 x y : Nat) : ∃ a b c d : Nat, (∀ {γ : Type} (K : Nat → Nat → Nat → Nat → γ), qN v3 v4 v9 v14 x y K = K a b c d) ∧ mixL 3 4 9 14 (x : Int) (y : Int) (casts [v0, v1, v2, v3, v4, v5, v6, v7, v8, v9, v10, v11, v12, v13, v14, v15]) = casts [v0, v1, v2, a, b, v5, v6, v7, v8, c, v10, v11, v12, v13, d, v15] := by
 obtain ⟨a, b, c, d, h⟩ := qN_ex v3 v4 v9 v14 x y
 refine ⟨a, b, c, d, h, ?_⟩
 have e := q_7 v0 v1 v2 v3 v4 v5 v6 v7 v8 v9 v10 v11 v12 v13 v14 v15 x y (fun l => l)
 rw [h] at e
 exact e.symm
theorem rndN_ex (m : List Nat) (r : List Nat) (hr : r.length = 16) (v : List Nat) (hv : v.length = 16) : ∃ w : List Nat, w.length = 16 ∧ casts w = mixR (casts m) (casts v) r ∧ ∀ {γ : Type} (K : List Nat → γ), rndN m r v K = K w := by
 match r, hr, v, hv with
 | [s0, s1, s2, s3, s4, s5, s6, s7, s8, s9, s10, s11, s12, s13, s14, s15], _, [v0, v1, v2, v3, v4, v5, v6, v7, v8, v9, v10, v11, v12, v13, v14, v15], _ =>
  obtain ⟨a0, b0, c0, d0, h0, e0⟩ := qx_0 v0 v1 v2 v3 v4 v5 v6 v7 v8 v9 v10 v11 v12 v13 v14 v15 (m.getD s0 0) (m.getD s1 0)
  obtain ⟨a1, b1, c1, d1, h1, e1⟩ := qx_1 a0 v1 v2 v3 b0 v5 v6 v7 c0 v9 v10 v11 d0 v13 v14 v15 (m.getD s2 0) (m.getD s3 0)
  obtain ⟨a2, b2, c2, d2, h2, e2⟩ := qx_2 a0 a1 v2 v3 b0 b1 v6 v7 c0 c1 v10 v11 d0 d1 v14 v15 (m.getD s4 0) (m.getD s5 0)
  obtain ⟨a3, b3, c3, d3, h3, e3⟩ := qx_3 a0 a1 a2 v3 b0 b1 b2 v7 c0 c1 c2 v11 d0 d1 d2 v15 (m.getD s6 0) (m.getD s7 0)
  obtain ⟨a4, b4, c4, d4, h4, e4⟩ := qx_4 a0 a1 a2 a3 b0 b1 b2 b3 c0 c1 c2 c3 d0 d1 d2 d3 (m.getD s8 0) (m.getD s9 0)
  obtain ⟨a5, b5, c5, d5, h5, e5⟩ := qx_5 a4 a1 a2 a3 b0 b4 b2 b3 c0 c1 c4 c3 d0 d1 d2 d4 (m.getD s10 0) (m.getD s11 0)
  obtain ⟨a6, b6, c6, d6, h6, e6⟩ := qx_6 a4 a5 a2 a3 b0 b4 b5 b3 c0 c1 c4 c5 d5 d1 d2 d4 (m.getD s12 0) (m.getD s13 0)
  obtain ⟨a7, b7, c7, d7, h7, e7⟩ := qx_7 a4 a5 a6 a3 b0 b4 b5 b6 c6 c1 c4 c5 d5 d6 d2 d4 (m.getD s14 0) (m.getD s15 0)
  refine ⟨[a4, a5, a6, a7, b7, b4, b5, b6, c6, c7, c4, c5, d5, d6, d7, d4], rfl, ?_, fun K => ?_⟩
  ·simp only [mixR, casts_getD, e0, e1, e2, e3, e4, e5, e6, e7]
  ·simp only [rndN, h0, h1, h2, h3, h4, h5, h6, h7]
def roundsN (m : List Nat) : List (List Nat) → List Nat → (List Nat → β) → β
 | [], v, K => K v
 | r :: l, v, K => rndN m r v fun v => roundsN m l v K
theorem roundsN_ex (m : List Nat) : ∀ (l : List (List Nat)), (∀ r ∈ l, r.length = 16) → ∀ v : List Nat, v.length = 16 → ∃ w : List Nat, casts w = rounds (casts m) (casts v) l ∧ ∀ {γ : Type} (K : List Nat → γ), roundsN m l v K = K w
 | [], _, v, _ => ⟨v, rfl, fun _ => rfl⟩
 | r :: l, hl, v, hv => by
  obtain ⟨w, h1, h2, h3⟩ := rndN_ex m r (hl r (List.mem_cons_self ..)) v hv
  obtain ⟨z, h4, h5⟩ := roundsN_ex m l (fun r hr => hl r (List.mem_cons_of_mem _ hr)) w h1
  refine ⟨z, ?_, fun K => ?_⟩
  ·rw [h4, h2]; rfl
  ·rw [roundsN, h3, h5]
def toNats : List Int → Option (List Nat)
 | [] => some []
 | x :: r => match x with
  | .ofNat n => match toNats r with
   | some l => some (n :: l)
   | none => none
  | .negSucc _ => none
theorem toNats_ok : ∀ (l : List Int) (n : List Nat), toNats l = some n → casts n = l ∧ n.length = l.length
 | [], n, h => by cases h; exact ⟨rfl, rfl⟩
 | .negSucc _ :: _, _, h => by cases h
 | .ofNat k :: r, n, h => by
  unfold toNats at h
  split at h
  ·rename_i k' _ hk
   cases hk
   split at h
   ·rename_i l hl
    cases h
    obtain ⟨h1, h2⟩ := toNats_ok r l hl
    exact ⟨by rw [casts, List.map_cons]; exact congrArg _ h1, by rw [List.length_cons, List.length_cons, h2]⟩
   ·cases h
  ·cases h
def pressN (h xs : List Int) (off : Nat) (t : Int) (last : Bool) (K : List Int → β) : β :=
 fcL (words xs off) fun m => fcL (v0L h t last) fun v => match toNats m, toNats v with
  | some m', some v' => roundsN m' rowsB v' fun w => fcL (outL h (casts w)) K
  | _, _ => roundsK m rowsB v fun v => fcL (outL h v) K
theorem rowsB_len : ∀ r ∈ rowsB, r.length = 16 := by decide
theorem pressN_eq (h xs : List Int) (off : Nat) (t : Int) (last : Bool) (K : List Int → β) : pressN h xs off t last K = K (pressL h xs off t last) := by
 rw [pressN, fcL_eq, fcL_eq]
 split
 ·rename_i m' v' hm hv
  obtain ⟨e1, _⟩ := toNats_ok _ _ hm
  obtain ⟨e2, e3⟩ := toNats_ok _ _ hv
  obtain ⟨w, h1, h2⟩ := roundsN_ex m' rowsB rowsB_len v' (by rw [e3]; rfl)
  rw [h2, fcL_eq, h1, e1, e2]
  rfl
 ·rw [roundsK_eq, fcL_eq]; rfl
end
noncomputable def F250L : Spec := fun args mem => match args, mem with
 | [.arr _ .u32 8 h, .slc _ i 0 off len _, .int _ .u64 t, .bool true last], [.cells o tt [.row ln lc .u8 n xs]] =>
  gd (Nat.beq i 13) (leT false 64 len (leT false (off + len) n (.leaf ⟨.arr false .u32 8 (pressL h xs off t last), [.cells o tt [.row ln lc .u8 n xs]]⟩)))
 | [.arr _ .u32 8 h, .vec i, .int _ .u64 t, .bool true last], [.cells o tt [.row ln lc .u8 n xs]] =>
  gd (Nat.beq i 13) (leT false 64 n (.leaf ⟨.arr false .u32 8 (pressL h xs 0 t last), [.cells o tt [.row ln lc .u8 n xs]]⟩))
 | _, _ => .fail
theorem f250L_still : Still F250L := by
 intro args mem r h
 unfold F250L at h
 split at h
 case h_3 => exact h.elim
 ·replace h := Tr.is_leaf.1 (Tr.is_ob.1 (Tr.is_ob.1 (Tr.is_gd.1 h).2).2).2
  subst h
  exact ⟨[], rfl⟩
 ·replace h := Tr.is_leaf.1 (Tr.is_ob.1 (Tr.is_gd.1 h).2).2
  subst h
  exact ⟨[], rfl⟩
theorem f250L_ok : FnOk Tryz.prog gl 250 F250L := by
 intro args mem r h
 unfold F250L at h
 split at h
 case h_3 => exact h.elim
 ·rename_i _ h' _ i off len cap _ t last o tt _ _ n xs
  replace h := Tr.is_gd.1 h
  obtain ⟨h1, h⟩ := h
  replace h := Tr.is_ob.1 h
  obtain ⟨h2, h⟩ := h
  replace h := Tr.is_ob.1 h
  obtain ⟨h3, h⟩ := h
  replace h := Tr.is_leaf.1 h
  subst h
  rw [Nat.eq_of_beq_eq_true h1]
  refine con_wf fun _ hm => ?_
  have e : xs.length = n := hm.1.1.1
  subst e
  exact con_er (args' := [.arr false .u32 8 h', .slc false 13 0 off len cap, .int false .u64 t, .bool true last]) (mem' := [.cells o tt [.row false false .u8 xs.length xs]]) (r' := ⟨.arr false .u32 8 (pressL h' xs off t last), [.cells o tt [.row false false .u8 xs.length xs]]⟩) rfl rfl rfl rfl (press_con o tt xs h' off len t cap last h2 h3)
 ·rename_i _ h' i _ t last o tt _ _ n xs
  replace h := Tr.is_gd.1 h
  obtain ⟨h1, h⟩ := h
  replace h := Tr.is_ob.1 h
  obtain ⟨h2, h⟩ := h
  replace h := Tr.is_leaf.1 h
  subst h
  rw [Nat.eq_of_beq_eq_true h1]
  refine con_wf fun _ hm => ?_
  have e : xs.length = n := hm.1.1.1
  subst e
  refine con_er (args' := [.arr false .u32 8 h', .vec 13, .int false .u64 t, .bool true last]) (mem' := [.cells o tt [.row false false .u8 xs.length xs]]) (r' := ⟨.arr false .u32 8 (pressL h' xs 0 t last), [.cells o tt [.row false false .u8 xs.length xs]]⟩) rfl rfl rfl rfl ?_
  refine con_part (.keep _ (.turn (o := o) (t := tt) (p := .row false false .u8 xs.length xs) false rfl (.keep _ (.keep _ .nil)))) (press_con o tt xs h' 0 xs.length t none last h2 (by omega))
end
section
theorem c2 : ConsOk [(250, F250L)] := ⟨fun p hp => by
  rcases List.mem_singleton.1 hp with rfl
  exact f250L_ok, fun p hp h => by
  rcases List.mem_singleton.1 hp with rfl
  exact f250L_still⟩
noncomputable abbrev cxS : Cx := cxE [(250, F250L)] 92
noncomputable def sumB : Code := bodyC Tryz.f211
noncomputable def nilA : A := .val (.slice none 0 0)
noncomputable def sS (b : Blk) (h : List Int) (off len : Nat) (t : Int) : St := stM gl [(1, .int true .i64 32), (8, .ptr 14 0 0 true 0), (9, .slc false 13 0 off len none), (10, .int false .u64 t)] [b, .cells true 325 [.row true false .u32 8 h]]
noncomputable def roundS : Code := loopC (blkC (seqL (post 7 sumB)))
def z64 : List Int := [0, 0, 0, 0, 0, 0, 0, 0, 0, 0, 0, 0, 0, 0, 0, 0, 0, 0, 0, 0, 0, 0, 0, 0, 0, 0, 0, 0, 0, 0, 0, 0, 0, 0, 0, 0, 0, 0, 0, 0, 0, 0, 0, 0, 0, 0, 0, 0, 0, 0, 0, 0, 0, 0, 0, 0, 0, 0, 0, 0, 0, 0, 0, 0]
def lastB (off len n : Nat) (xs : List Int) : List Int := z64.take 0 ++ (subL false off len n xs).take (min (subL false off len n xs).length 64) ++ z64.drop (0 + min (subL false off len n xs).length 64)
def byteH (h : List Int) (i : Nat) (q : Int) : Int := IntKind.u8.wrap (Int.fdiv (h.getD i 0) q)
def bytesH (h : List Int) : List Int := [byteH h 0 1, byteH h 0 256, byteH h 0 65536, byteH h 0 16777216, byteH h 1 1, byteH h 1 256, byteH h 1 65536, byteH h 1 16777216, byteH h 2 1, byteH h 2 256, byteH h 2 65536, byteH h 2 16777216, byteH h 3 1, byteH h 3 256, byteH h 3 65536, byteH h 3 16777216, byteH h 4 1, byteH h 4 256, byteH h 4 65536, byteH h 4 16777216, byteH h 5 1, byteH h 5 256, byteH h 5 65536, byteH h 5 16777216, byteH h 6 1, byteH h 6 256, byteH h 6 65536, byteH h 6 16777216, byteH h 7 1, byteH h 7 256, byteH h 7 65536, byteH h 7 16777216]
def obsE : List Prop := [64 ≤ 64, 64 ≤ 64, (0 : Int) ≤ 0, (0 : Int) ≤ 8, (0 : Int) ≤ 16, (0 : Int) ≤ 24, (0 : Int) ≤ 0, (0 : Int) ≤ 8, (0 : Int) ≤ 16, (0 : Int) ≤ 24, (0 : Int) ≤ 0, (0 : Int) ≤ 8, (0 : Int) ≤ 16, (0 : Int) ≤ 24, (0 : Int) ≤ 0, (0 : Int) ≤ 8, (0 : Int) ≤ 16, (0 : Int) ≤ 24, (0 : Int) ≤ 0, (0 : Int) ≤ 8, (0 : Int) ≤ 16, (0 : Int) ≤ 24, (0 : Int) ≤ 0, (0 : Int) ≤ 8, (0 : Int) ≤ 16, (0 : Int) ≤ 24, (0 : Int) ≤ 0, (0 : Int) ≤ 8, (0 : Int) ≤ 16, (0 : Int) ≤ 24, (0 : Int) ≤ 0, (0 : Int) ≤ 8, (0 : Int) ≤ 16, (0 : Int) ≤ 24]
theorem sum_round (o : Bool) (tt : TypeId) (n off len : Nat) (t : Int) (xs h : List Int) :
  (execK cxS 14 10000 roundS [1, 8, 9, 10] (List.range 15) (sS (.cells o tt [.row false false .u8 n xs]) h off len t)).walk [.t] [] =
   some ([decide ((len : Int) > 64) = true, 64 ≤ len, off + len ≤ n, (0 : Int) ≤ 64 ∧ (64 : Int) ≤ (len : Int) ∧ (len : Int) ≤ (len : Int) ∧ (len : Int) ≤ ((n - off : Nat) : Int)],
    (.normal, sS (.cells o tt [.row false false .u8 n xs]) (pressL h xs off (IntKind.u64.wrap (t + 64)) false) (off + 64) ((len : Int).toNat - 64) (IntKind.u64.wrap (t + 64)))) := by kernel_rfl
theorem sum_stop (o : Bool) (tt : TypeId) (n off len : Nat) (t : Int) (xs h : List Int) :
  (execK cxS 14 10000 roundS [1, 8, 9, 10] (List.range 15) (sS (.cells o tt [.row false false .u8 n xs]) h off len t)).walk [.f] [] =
   some ([decide ((len : Int) > 64) = false], (.exit 0, sS (.cells o tt [.row false false .u8 n xs]) h off len t)) := by kernel_rfl
theorem sum_end (o : Bool) (tt : TypeId) (n off len : Nat) (t : Int) (xs h : List Int) :
  (exec cxS 10000 (seqR (post 7 sumB)) (sS (.cells o tt [.row false false .u8 n xs]) h off len t) fun ex s' => match ex with
   | .exit _ => .fail
   | _ => shutS tc Tryz.f211 1 s').walk [] [] = some (obsE, ⟨.tup [.slc true 14 0 0 32 (some 32), .int true .i64 0], [.cells o tt [.row false false .u8 n xs], .cells true 26 [.row true false .u8 32 (bytesH (pressL h (lastB off len n xs) 0 (IntKind.u64.wrap (t + IntKind.u64.wrap (len : Int))) true))]]⟩) := by kernel_rfl
def h0B : List Int := [1795745351, 3144134277, 1013904242, 2773480762, 1359893119, 2600822924, 528734635, 1541459225]
theorem sum_pre (o : Bool) (tt : TypeId) (n : Nat) (xs : List Int) :
  (execK cxS 14 10000 (pre 7 sumB) [1, 8, 9, 10] (List.range 15) (s0 tc [nilA, .int true .i64 32, .slc false 13 0 0 n none] [.cells o tt [.row false false .u8 n xs]])).walk [] [] =
   some ([], (.normal, stM gl [(1, .int true .i64 32), (8, .ptr 14 0 0 true 0), (9, .slc false 13 0 0 n none), (10, .int true .u64 0)] [.cells o tt [.row false false .u8 n xs], .cells true 325 [.row true true .u32 8 h0B]])) := by kernel_rfl
theorem sum_code : post 7 sumB = .seq (.block 0 (.loop roundS)) (seqR (post 7 sumB)) := by kernel_rfl
def tAt : Nat → Int
 | 0 => 0
 | i + 1 => IntKind.u64.wrap (tAt i + 64)
def hAt (xs : List Int) : Nat → List Int
 | 0 => h0B
 | i + 1 => pressL (hAt xs i) xs (64 * i) (tAt (i + 1)) false
def hashL (xs : List Int) : List Int :=
 bytesH (pressL (hAt xs ((xs.length - 1) / 64)) (lastB (64 * ((xs.length - 1) / 64)) (xs.length - 64 * ((xs.length - 1) / 64)) xs.length xs) 0 (IntKind.u64.wrap (tAt ((xs.length - 1) / 64) + IntKind.u64.wrap ((xs.length - 64 * ((xs.length - 1) / 64) : Nat) : Int))) true)
theorem sum_con (o : Bool) (tt : TypeId) (xs : List Int) :
  Con Tryz.prog gl 211 [nilA, .int true .i64 32, .slc false 13 0 0 xs.length none] [.cells o tt [.row false false .u8 xs.length xs]] ⟨.tup [.slc true 14 0 0 32 (some 32), .int true .i64 0], [.cells o tt [.row false false .u8 xs.length xs], .cells true 26 [.row true false .u8 32 (hashL xs)]]⟩ := by
 refine con_tri c2 Tryz.func211 (by kernel_rfl) (show Tryz.f211.body = some sumB by kernel_rfl) (by kernel_rfl) (fun B hB => ?_)
 refine tri_pk (cxE_ok c2 92) hB (by kernel_rfl) 7 (sum_pre o tt xs.length xs) conj_nil ?_
 rw [sum_code]
 refine tri_seqN (P := fun s => s = sS (.cells o tt [.row false false .u8 xs.length xs]) (hAt xs ((xs.length - 1) / 64)) (64 * ((xs.length - 1) / 64)) (xs.length - 64 * ((xs.length - 1) / 64)) (tAt ((xs.length - 1) / 64))) ?_ (fun s' h => ?_)
 ·refine tri_pre (s' := sS (.cells o tt [.row false false .u8 xs.length xs]) (hAt xs 0) (64 * 0) (xs.length - 64 * 0) (tAt 0)) (less_stM rfl rfl) (tri_range (fun i => sS (.cells o tt [.row false false .u8 xs.length xs]) (hAt xs i) (64 * i) (xs.length - 64 * i) (tAt i)) ((xs.length - 1) / 64) (fun i hi => ?_) ?_)
  ·have run := sum_round o tt xs.length (64 * i) (xs.length - 64 * i) (tAt i) xs (hAt xs i)
   rw [Int.toNat_natCast, show xs.length - 64 * i - 64 = xs.length - 64 * (i + 1) from by omega] at run
   exact tri_wk (cxE_ok c2 92) hB (by kernel_rfl) run ⟨decide_eq_true (by omega), by omega, by omega, by omega, trivial⟩ ⟨rfl, rfl⟩
  ·exact tri_wk (cxE_ok c2 92) hB (by kernel_rfl) (sum_stop o tt xs.length _ _ _ xs _) ⟨decide_eq_false (by omega), trivial⟩ ⟨rfl, rfl⟩
 ·subst h
  exact tri_end (cxE_ok c2 92) (sum_end o tt xs.length _ _ _ xs _) (by
   unfold obsE
   repeat' apply And.intro
   all_goals first | trivial | omega)
noncomputable def sC (b : Blk) (h : List Int) (off len c : Nat) (t : Int) : St := stM gl [(1, .int true .i64 32), (8, .ptr 14 0 0 true 0), (9, .slc false 13 0 off len (some c)), (10, .int false .u64 t)] [b, .cells true 325 [.row true false .u32 8 h]]
theorem sumc_round (o : Bool) (tt : TypeId) (n off len c : Nat) (t : Int) (xs h : List Int) :
  (execK cxS 14 10000 roundS [1, 8, 9, 10] (List.range 15) (sC (.cells o tt [.row false false .u8 n xs]) h off len c t)).walk [.t] [] =
   some ([decide ((len : Int) > 64) = true, 64 ≤ len, off + len ≤ n, (0 : Int) ≤ 64 ∧ (64 : Int) ≤ (len : Int) ∧ (len : Int) ≤ (len : Int) ∧ (len : Int) ≤ (c : Int)],
    (.normal, sC (.cells o tt [.row false false .u8 n xs]) (pressL h xs off (IntKind.u64.wrap (t + 64)) false) (off + 64) ((len : Int).toNat - 64) (c - 64) (IntKind.u64.wrap (t + 64)))) := by kernel_rfl
theorem sumc_stop (o : Bool) (tt : TypeId) (n off len c : Nat) (t : Int) (xs h : List Int) :
  (execK cxS 14 10000 roundS [1, 8, 9, 10] (List.range 15) (sC (.cells o tt [.row false false .u8 n xs]) h off len c t)).walk [.f] [] =
   some ([decide ((len : Int) > 64) = false], (.exit 0, sC (.cells o tt [.row false false .u8 n xs]) h off len c t)) := by kernel_rfl
theorem sumc_end (o : Bool) (tt : TypeId) (n off len c : Nat) (t : Int) (xs h : List Int) :
  (exec cxS 10000 (seqR (post 7 sumB)) (sC (.cells o tt [.row false false .u8 n xs]) h off len c t) fun ex s' => match ex with
   | .exit _ => .fail
   | _ => shutS tc Tryz.f211 1 s').walk [] [] = some (obsE, ⟨.tup [.slc true 14 0 0 32 (some 32), .int true .i64 0], [.cells o tt [.row false false .u8 n xs], .cells true 26 [.row true false .u8 32 (bytesH (pressL h (lastB off len n xs) 0 (IntKind.u64.wrap (t + IntKind.u64.wrap (len : Int))) true))]]⟩) := by kernel_rfl
theorem sumc_pre (o : Bool) (tt : TypeId) (n a m c : Nat) (xs : List Int) :
  (execK cxS 14 10000 (pre 7 sumB) [1, 8, 9, 10] (List.range 15) (s0 tc [nilA, .int true .i64 32, .slc false 13 0 a m (some c)] [.cells o tt [.row false false .u8 n xs]])).walk [] [] =
   some ([], (.normal, stM gl [(1, .int true .i64 32), (8, .ptr 14 0 0 true 0), (9, .slc false 13 0 a m (some c)), (10, .int true .u64 0)] [.cells o tt [.row false false .u8 n xs], .cells true 325 [.row true true .u32 8 h0B]])) := by kernel_rfl
def hAtO (xs : List Int) (a : Nat) : Nat → List Int
 | 0 => h0B
 | i + 1 => pressL (hAtO xs a i) xs (a + 64 * i) (tAt (i + 1)) false
def hashO (xs : List Int) (a m : Nat) : List Int :=
 bytesH (pressL (hAtO xs a ((m - 1) / 64)) (lastB (a + 64 * ((m - 1) / 64)) (m - 64 * ((m - 1) / 64)) xs.length xs) 0 (IntKind.u64.wrap (tAt ((m - 1) / 64) + IntKind.u64.wrap ((m - 64 * ((m - 1) / 64) : Nat) : Int))) true)
theorem sumc_con (o : Bool) (tt : TypeId) (xs : List Int) (a m c : Nat) (h1 : a + m ≤ xs.length) (h2 : m ≤ c) :
  Con Tryz.prog gl 211 [nilA, .int true .i64 32, .slc false 13 0 a m (some c)] [.cells o tt [.row false false .u8 xs.length xs]] ⟨.tup [.slc true 14 0 0 32 (some 32), .int true .i64 0], [.cells o tt [.row false false .u8 xs.length xs], .cells true 26 [.row true false .u8 32 (hashO xs a m)]]⟩ := by
 refine con_tri c2 Tryz.func211 (by kernel_rfl) (show Tryz.f211.body = some sumB by kernel_rfl) (by kernel_rfl) (fun B hB => ?_)
 refine tri_pk (cxE_ok c2 92) hB (by kernel_rfl) 7 (sumc_pre o tt xs.length a m c xs) conj_nil ?_
 rw [sum_code]
 refine tri_seqN (P := fun s => s = sC (.cells o tt [.row false false .u8 xs.length xs]) (hAtO xs a ((m - 1) / 64)) (a + 64 * ((m - 1) / 64)) (m - 64 * ((m - 1) / 64)) (c - 64 * ((m - 1) / 64)) (tAt ((m - 1) / 64))) ?_ (fun s' h => ?_)
 ·refine tri_pre (s' := sC (.cells o tt [.row false false .u8 xs.length xs]) (hAtO xs a 0) (a + 64 * 0) (m - 64 * 0) (c - 64 * 0) (tAt 0)) (less_stM rfl rfl) (tri_range (fun i => sC (.cells o tt [.row false false .u8 xs.length xs]) (hAtO xs a i) (a + 64 * i) (m - 64 * i) (c - 64 * i) (tAt i)) ((m - 1) / 64) (fun i hi => ?_) ?_)
  ·have run := sumc_round o tt xs.length (a + 64 * i) (m - 64 * i) (c - 64 * i) (tAt i) xs (hAtO xs a i)
   rw [Int.toNat_natCast, show m - 64 * i - 64 = m - 64 * (i + 1) from by omega, show c - 64 * i - 64 = c - 64 * (i + 1) from by omega, show a + 64 * i + 64 = a + 64 * (i + 1) from by omega] at run
   exact tri_wk (cxE_ok c2 92) hB (by kernel_rfl) run ⟨decide_eq_true (by omega), by omega, by omega, by omega, trivial⟩ ⟨rfl, rfl⟩
  ·exact tri_wk (cxE_ok c2 92) hB (by kernel_rfl) (sumc_stop o tt xs.length _ _ _ _ xs _) ⟨decide_eq_false (by omega), trivial⟩ ⟨rfl, rfl⟩
 ·subst h
  exact tri_end (cxE_ok c2 92) (sumc_end o tt xs.length _ _ _ _ xs _) (by
   unfold obsE
   repeat' apply And.intro
   all_goals first | trivial | omega)
theorem sumn_pre (o : Bool) (tt : TypeId) (n a m : Nat) (xs : List Int) :
  (execK cxS 14 10000 (pre 7 sumB) [1, 8, 9, 10] (List.range 15) (s0 tc [nilA, .int true .i64 32, .slc false 13 0 a m none] [.cells o tt [.row false false .u8 n xs]])).walk [] [] =
   some ([], (.normal, stM gl [(1, .int true .i64 32), (8, .ptr 14 0 0 true 0), (9, .slc false 13 0 a m none), (10, .int true .u64 0)] [.cells o tt [.row false false .u8 n xs], .cells true 325 [.row true true .u32 8 h0B]])) := by kernel_rfl
theorem sumn_con (o : Bool) (tt : TypeId) (xs : List Int) (a m : Nat) (h1 : a + m ≤ xs.length) :
  Con Tryz.prog gl 211 [nilA, .int true .i64 32, .slc false 13 0 a m none] [.cells o tt [.row false false .u8 xs.length xs]] ⟨.tup [.slc true 14 0 0 32 (some 32), .int true .i64 0], [.cells o tt [.row false false .u8 xs.length xs], .cells true 26 [.row true false .u8 32 (hashO xs a m)]]⟩ := by
 refine con_tri c2 Tryz.func211 (by kernel_rfl) (show Tryz.f211.body = some sumB by kernel_rfl) (by kernel_rfl) (fun B hB => ?_)
 refine tri_pk (cxE_ok c2 92) hB (by kernel_rfl) 7 (sumn_pre o tt xs.length a m xs) conj_nil ?_
 rw [sum_code]
 refine tri_seqN (P := fun s => s = sS (.cells o tt [.row false false .u8 xs.length xs]) (hAtO xs a ((m - 1) / 64)) (a + 64 * ((m - 1) / 64)) (m - 64 * ((m - 1) / 64)) (tAt ((m - 1) / 64))) ?_ (fun s' h => ?_)
 ·refine tri_pre (s' := sS (.cells o tt [.row false false .u8 xs.length xs]) (hAtO xs a 0) (a + 64 * 0) (m - 64 * 0) (tAt 0)) (less_stM rfl rfl) (tri_range (fun i => sS (.cells o tt [.row false false .u8 xs.length xs]) (hAtO xs a i) (a + 64 * i) (m - 64 * i) (tAt i)) ((m - 1) / 64) (fun i hi => ?_) ?_)
  ·have run := sum_round o tt xs.length (a + 64 * i) (m - 64 * i) (tAt i) xs (hAtO xs a i)
   rw [Int.toNat_natCast, show m - 64 * i - 64 = m - 64 * (i + 1) from by omega, show a + 64 * i + 64 = a + 64 * (i + 1) from by omega] at run
   exact tri_wk (cxE_ok c2 92) hB (by kernel_rfl) run ⟨decide_eq_true (by omega), by omega, by omega, by omega, trivial⟩ ⟨rfl, rfl⟩
  ·exact tri_wk (cxE_ok c2 92) hB (by kernel_rfl) (sum_stop o tt xs.length _ _ _ xs _) ⟨decide_eq_false (by omega), trivial⟩ ⟨rfl, rfl⟩
 ·subst h
  exact tri_end (cxE_ok c2 92) (sum_end o tt xs.length _ _ _ xs _) (by
   unfold obsE
   repeat' apply And.intro
   all_goals first | trivial | omega)
section
variable {β : Type}
def hAtK (xs : List Int) : Nat → (List Int → Int → β) → β
 | 0, K => K h0B 0
 | i + 1, K => hAtK xs i fun h t => fcI (IntKind.u64.wrap (t + 64)) fun t => pressN h xs (64 * i) t false fun h => K h t
theorem hAtK_eq (xs : List Int) : ∀ (i : Nat) (K : List Int → Int → β), hAtK xs i K = K (hAt xs i) (tAt i)
 | 0, _ => rfl
 | i + 1, K => by
  rw [hAtK, hAtK_eq xs i, fcI_eq, pressN_eq]
  rfl
def hashK (xs : List Int) (K : List Int → β) : β :=
 fcL xs fun xs => fcN xs.length fun n => fcN ((n - 1) / 64) fun r => hAtK xs r fun h t => fcL (lastB (64 * r) (n - 64 * r) n xs) fun l =>
  fcI (IntKind.u64.wrap (t + IntKind.u64.wrap ((n - 64 * r : Nat) : Int))) fun t => pressN h l 0 t true fun h => fcL (bytesH h) K
theorem hashK_eq (xs : List Int) (K : List Int → β) : hashK xs K = K (hashL xs) := by
 unfold hashK
 rw [fcL_eq, fcN_eq, fcN_eq, hAtK_eq, fcL_eq, fcI_eq, pressN_eq, fcL_eq]
 rfl
def hAtOK (xs : List Int) (a : Nat) : Nat → (List Int → Int → β) → β
 | 0, K => K h0B 0
 | i + 1, K => hAtOK xs a i fun h t => fcI (IntKind.u64.wrap (t + 64)) fun t => pressN h xs (a + 64 * i) t false fun h => K h t
theorem hAtOK_eq (xs : List Int) (a : Nat) : ∀ (i : Nat) (K : List Int → Int → β), hAtOK xs a i K = K (hAtO xs a i) (tAt i)
 | 0, _ => rfl
 | i + 1, K => by
  rw [hAtOK, hAtOK_eq xs a i, fcI_eq, pressN_eq]
  rfl
def hashOK (xs : List Int) (a m : Nat) (K : List Int → β) : β :=
 fcL xs fun xs => fcN xs.length fun n => fcN ((m - 1) / 64) fun r => hAtOK xs a r fun h t => fcL (lastB (a + 64 * r) (m - 64 * r) n xs) fun l =>
  fcI (IntKind.u64.wrap (t + IntKind.u64.wrap ((m - 64 * r : Nat) : Int))) fun t => pressN h l 0 t true fun h => fcL (bytesH h) K
theorem hashOK_eq (xs : List Int) (a m : Nat) (K : List Int → β) : hashOK xs a m K = K (hashO xs a m) := by
 unfold hashOK
 rw [fcL_eq, fcN_eq, fcN_eq, hAtOK_eq, fcL_eq, fcI_eq, pressN_eq, fcL_eq]
 rfl
end
noncomputable def F211L : Spec := fun args mem => match args, mem with
 | [.val (.slice none 0 0), .int _ .i64 s, .vec i], [.cells o tt [.row ln lc .u8 n xs]] =>
  gd (Nat.beq i 13) (gd (decide (s = 32)) (.leaf ⟨.tup [.slc true 14 0 0 32 (some 32), .int true .i64 0], [.cells o tt [.row ln lc .u8 n xs], .cells true 26 [.row true false .u8 32 (hashL xs)]]⟩))
 | [.val (.slice none 0 0), .int _ .i64 s, .slc _ i 0 a m (some c)], [.cells o tt [.row ln lc .u8 n xs]] =>
  gd (Nat.beq i 13) (gd (decide (s = 32)) (leT false (a + m) n (leT false m c (.leaf ⟨.tup [.slc true 14 0 0 32 (some 32), .int true .i64 0], [.cells o tt [.row ln lc .u8 n xs], .cells true 26 [.row true false .u8 32 (hashO xs a m)]]⟩))))
 | [.val (.slice none 0 0), .int _ .i64 s, .slc _ i 0 a m none], [.cells o tt [.row ln lc .u8 n xs]] =>
  gd (Nat.beq i 13) (gd (decide (s = 32)) (leT false (a + m) n (.leaf ⟨.tup [.slc true 14 0 0 32 (some 32), .int true .i64 0], [.cells o tt [.row ln lc .u8 n xs], .cells true 26 [.row true false .u8 32 (hashO xs a m)]]⟩)))
 | _, _ => .fail
theorem f211L_ok : FnOk Tryz.prog gl 211 F211L := by
 intro args mem r h
 unfold F211L at h
 split at h
 case h_4 => exact h.elim
 case h_3 =>
  rename_i _ s _ i a m o tt _ _ n xs
  obtain ⟨h1, h⟩ := Tr.is_gd.1 h
  obtain ⟨h2, h⟩ := Tr.is_gd.1 h
  obtain ⟨h3, h⟩ := Tr.is_ob.1 h
  have h := Tr.is_leaf.1 h
  subst h
  rw [Nat.eq_of_beq_eq_true h1, of_decide_eq_true h2]
  refine con_wf fun _ hm => ?_
  have e : xs.length = n := hm.1.1.1
  subst e
  exact con_er (args' := [nilA, .int true .i64 32, .slc false 13 0 a m none]) (mem' := [.cells o tt [.row false false .u8 xs.length xs]]) (r' := ⟨.tup [.slc true 14 0 0 32 (some 32), .int true .i64 0], [.cells o tt [.row false false .u8 xs.length xs], .cells true 26 [.row true false .u8 32 (hashO xs a m)]]⟩) rfl rfl rfl rfl (sumn_con o tt xs a m h3)
 case h_2 =>
  rename_i _ s _ i a m c o tt _ _ n xs
  replace h := Tr.is_gd.1 h
  obtain ⟨h1, h⟩ := h
  replace h := Tr.is_gd.1 h
  obtain ⟨h2, h⟩ := h
  replace h := Tr.is_ob.1 h
  obtain ⟨h3, h⟩ := h
  replace h := Tr.is_ob.1 h
  obtain ⟨h4, h⟩ := h
  replace h := Tr.is_leaf.1 h
  subst h
  rw [Nat.eq_of_beq_eq_true h1, of_decide_eq_true h2]
  refine con_wf fun _ hm => ?_
  have e : xs.length = n := hm.1.1.1
  subst e
  exact con_er (args' := [nilA, .int true .i64 32, .slc false 13 0 a m (some c)]) (mem' := [.cells o tt [.row false false .u8 xs.length xs]]) (r' := ⟨.tup [.slc true 14 0 0 32 (some 32), .int true .i64 0], [.cells o tt [.row false false .u8 xs.length xs], .cells true 26 [.row true false .u8 32 (hashO xs a m)]]⟩) rfl rfl rfl rfl (sumc_con o tt xs a m c h3 h4)
 rename_i _ s i o tt _ _ n xs
 replace h := Tr.is_gd.1 h
 obtain ⟨h1, h⟩ := h
 replace h := Tr.is_gd.1 h
 obtain ⟨h2, h⟩ := h
 replace h := Tr.is_leaf.1 h
 subst h
 rw [Nat.eq_of_beq_eq_true h1, of_decide_eq_true h2]
 refine con_wf fun _ hm => ?_
 have e : xs.length = n := hm.1.1.1
 subst e
 refine con_er (args' := [nilA, .int true .i64 32, .vec 13]) (mem' := [.cells o tt [.row false false .u8 xs.length xs]]) (r' := ⟨.tup [.slc true 14 0 0 32 (some 32), .int true .i64 0], [.cells o tt [.row false false .u8 xs.length xs], .cells true 26 [.row true false .u8 32 (hashL xs)]]⟩) rfl rfl rfl rfl ?_
 exact con_part (.keep _ (.keep _ (.turn (o := o) (t := tt) (p := .row false false .u8 xs.length xs) false rfl .nil))) (sum_con o tt xs)
theorem f211L_still : Still F211L := by
 intro args mem r h
 unfold F211L at h
 split at h
 case h_4 => exact h.elim
 ·replace h := Tr.is_leaf.1 (Tr.is_gd.1 (Tr.is_gd.1 h).2).2
  subst h
  exact ⟨_, rfl⟩
 ·replace h := Tr.is_leaf.1 (Tr.is_ob.1 (Tr.is_ob.1 (Tr.is_gd.1 (Tr.is_gd.1 h).2).2).2).2
  subst h
  exact ⟨_, rfl⟩
 ·replace h := Tr.is_leaf.1 (Tr.is_ob.1 (Tr.is_gd.1 (Tr.is_gd.1 h).2).2).2
  subst h
  exact ⟨_, rfl⟩
theorem c211 : ConsOk [(211, F211L)] := ⟨fun p hp => by
  rcases List.mem_singleton.1 hp with rfl
  exact f211L_ok, fun p hp h => by
  rcases List.mem_singleton.1 hp with rfl
  exact f211L_still⟩
theorem hash_run (o : Bool) (tt : TypeId) (n : Nat) (xs : List Int) :
  (callRun tc ((env [(211, F211L)]).fn 20) Tryz.f148 1000 [.vec 13] [.cells o tt [.row false false .u8 n xs]]).walk [] [] = some ([], ⟨.arr false .u8 32 (hashL xs), [.cells o tt [.row false false .u8 n xs]]⟩) := by kernel_rfl
theorem hash_runc (o : Bool) (tt : TypeId) (n a m c : Nat) (xs : List Int) :
  (callRun tc ((env [(211, F211L)]).fn 20) Tryz.f148 1000 [.slc false 13 0 a m (some c)] [.cells o tt [.row false false .u8 n xs]]).walk [] [] = some ([a + m ≤ n, m ≤ c], ⟨.arr false .u8 32 (hashO xs a m), [.cells o tt [.row false false .u8 n xs]]⟩) := by kernel_rfl
theorem hash_runn (o : Bool) (tt : TypeId) (n a m : Nat) (xs : List Int) :
  (callRun tc ((env [(211, F211L)]).fn 20) Tryz.f148 1000 [.slc false 13 0 a m none] [.cells o tt [.row false false .u8 n xs]]).walk [] [] = some ([a + m ≤ n], ⟨.arr false .u8 32 (hashO xs a m), [.cells o tt [.row false false .u8 n xs]]⟩) := by kernel_rfl
noncomputable def F148L : Spec := fun args mem => match args, mem with
 | [.vec i], [.cells o tt [.row ln lc .u8 n xs]] => gd (Nat.beq i 13) (.leaf ⟨.arr false .u8 32 (hashL xs), [.cells o tt [.row ln lc .u8 n xs]]⟩)
 | [.slc _ i 0 a m (some c)], [.cells o tt [.row ln lc .u8 n xs]] => gd (Nat.beq i 13) (leT false (a + m) n (leT false m c (.leaf ⟨.arr false .u8 32 (hashO xs a m), [.cells o tt [.row ln lc .u8 n xs]]⟩)))
 | [.slc _ i 0 a m none], [.cells o tt [.row ln lc .u8 n xs]] => gd (Nat.beq i 13) (leT false (a + m) n (.leaf ⟨.arr false .u8 32 (hashO xs a m), [.cells o tt [.row ln lc .u8 n xs]]⟩))
 | _, _ => .fail
theorem f148L_ok : FnOk Tryz.prog gl 148 F148L := by
 intro args mem r h
 unfold F148L at h
 split at h
 case h_4 => exact h.elim
 case h_3 =>
  rename_i _ i a m o tt _ _ n xs
  obtain ⟨h1, h⟩ := Tr.is_gd.1 h
  obtain ⟨h3, h⟩ := Tr.is_ob.1 h
  have h := Tr.is_leaf.1 h
  subst h
  rw [Nat.eq_of_beq_eq_true h1]
  exact con_walk c211 Tryz.func148 1000 (hash_runn o tt n a m xs) ⟨h3, trivial⟩
 case h_2 =>
  rename_i _ i a m c o tt _ _ n xs
  replace h := Tr.is_gd.1 h
  obtain ⟨h1, h⟩ := h
  replace h := Tr.is_ob.1 h
  obtain ⟨h3, h⟩ := h
  replace h := Tr.is_ob.1 h
  obtain ⟨h4, h⟩ := h
  replace h := Tr.is_leaf.1 h
  subst h
  rw [Nat.eq_of_beq_eq_true h1]
  exact con_walk c211 Tryz.func148 1000 (hash_runc o tt n a m c xs) ⟨h3, h4, trivial⟩
 rename_i i o tt _ _ n xs
 replace h := Tr.is_gd.1 h
 obtain ⟨h1, h⟩ := h
 replace h := Tr.is_leaf.1 h
 subst h
 rw [Nat.eq_of_beq_eq_true h1]
 exact con_walk c211 Tryz.func148 1000 (hash_run o tt n xs) conj_nil
theorem f148L_still : Still F148L := by
 intro args mem r h
 unfold F148L at h
 split at h
 case h_4 => exact h.elim
 ·replace h := Tr.is_leaf.1 (Tr.is_gd.1 h).2
  subst h
  exact ⟨[], rfl⟩
 ·replace h := Tr.is_leaf.1 (Tr.is_ob.1 (Tr.is_ob.1 (Tr.is_gd.1 h).2).2).2
  subst h
  exact ⟨[], rfl⟩
 ·replace h := Tr.is_leaf.1 (Tr.is_ob.1 (Tr.is_gd.1 h).2).2
  subst h
  exact ⟨[], rfl⟩
end
section
theorem con_to {f : FuncId} {args args' : List A} {mem mem' : List Blk} {r r' : Res} (h : Con Tryz.prog gl f args' mem' r') (h1 : erL args = erL args' := by rfl) (h2 : mem.map erB = mem'.map erB := by rfl) (h3 : erA r'.val = erA r.val := by rfl) (h4 : r'.mem.map erB = r.mem.map erB := by rfl) : Con Tryz.prog gl f args mem r := con_er h1 h2 h3 h4 h
def tab (n : Nat) (l : List Int) : List Int := (List.range n).map fun i => l.getD i 0
theorem tab_eq : ∀ (l : List Int), tab l.length l = l := fun l => by
 unfold tab
 apply List.ext_getElem
 ·simp
 ·intro i h1 h2
  simp only [List.getElem_map, List.getElem_range]
  rw [List.getD_eq_getElem?_getD, List.getElem?_eq_getElem h2]
  rfl
theorem tab_eq' {n : Nat} {l : List Int} (h : l.length = n) : tab n l = l := by subst h; exact tab_eq l
def padL (c : Int) (ks : List Int) : List Int := (ks ++ List.replicate 32 0).map fun x => bits .xor .u8 x c
theorem padL_length {c : Int} {ks : List Int} (h : ks.length = 32) : (padL c ks).length = 64 := by simp [padL, h]
def macL (ks xs : List Int) : List Int := hashL (padL 92 ks ++ hashL (padL 54 ks ++ xs))
def mac0 (ks : List Int) : List Int := hashL (padL 92 ks ++ hashO (padL 54 ks) 0 64)
theorem mac_runv (ok ob : Bool) (tk tb : TypeId) (n : Nat) (ks xs : List Int) :
  (callRun tc ((env [(148, F148L)]).fn 20) Tryz.f252 10000 [.slc true 13 0 0 32 (some 32), .vec 14] [.cells ok tk [.row true false .u8 32 (tab 32 ks)], .cells ob tb [.row false false .u8 n xs]]).walk [.f] [] =
   some ([Nat.ble (64 + xs.length) 64 = false, (padL 54 (tab 32 ks) ++ xs).length * 1 ≤ 140737488355328 ∧ (padL 54 (tab 32 ks) ++ xs).length < lim63],
    ⟨.arr false .u8 32 (macL (tab 32 ks) xs), [.cells ok tk [.row true false .u8 32 (tab 32 ks)], .cells ob tb [.row false false .u8 n xs]]⟩) := by kernel_rfl
theorem mac_runs (ok ob : Bool) (tk tb : TypeId) (n off m : Nat) (cap : Option Nat) (ks xs : List Int) :
  (callRun tc ((env [(148, F148L)]).fn 20) Tryz.f252 10000 [.slc true 13 0 0 32 (some 32), .slc false 14 0 off m cap] [.cells ok tk [.row true false .u8 32 (tab 32 ks)], .cells ob tb [.row false false .u8 n xs]]).walk [.f] [] =
   some ([Nat.ble (64 + ((xs.drop off).take m).length) 64 = false, (padL 54 (tab 32 ks) ++ (xs.drop off).take m).length * 1 ≤ 140737488355328 ∧ (padL 54 (tab 32 ks) ++ (xs.drop off).take m).length < lim63],
    ⟨.arr false .u8 32 (macL (tab 32 ks) ((xs.drop off).take m)), [.cells ok tk [.row true false .u8 32 (tab 32 ks)], .cells ob tb [.row false false .u8 n xs]]⟩) := by kernel_rfl
theorem mac_run0 (ok : Bool) (tk : TypeId) (ks : List Int) :
  (callRun tc ((env [(148, F148L)]).fn 20) Tryz.f252 10000 [.slc true 13 0 0 32 (some 32), nilA] [.cells ok tk [.row true false .u8 32 (tab 32 ks)]]).walk [] [] =
   some ([0 + 64 ≤ 64, 64 ≤ 64], ⟨.arr false .u8 32 (mac0 (tab 32 ks)), [.cells ok tk [.row true false .u8 32 (tab 32 ks)]]⟩) := by kernel_rfl
section
variable {β : Type}
def macK (ks xs : List Int) (K : List Int → β) : β :=
 fcL (padL 54 ks ++ xs) fun a => hashK a fun h => fcL (padL 92 ks ++ h) fun b => hashK b K
def mac0K (ks : List Int) (K : List Int → β) : β :=
 fcL (padL 54 ks) fun a => hashOK a 0 64 fun h => fcL (padL 92 ks ++ h) fun b => hashK b K
theorem macK_eq (ks xs : List Int) (K : List Int → β) : macK ks xs K = K (macL ks xs) := by
 rw [macK, fcL_eq, hashK_eq, fcL_eq, hashK_eq]; rfl
theorem mac0K_eq (ks : List Int) (K : List Int → β) : mac0K ks K = K (mac0 ks) := by
 rw [mac0K, fcL_eq, hashOK_eq, fcL_eq, hashK_eq]; rfl
end
def obT {α : Type} (l : Bool) (c : Bool) (t : Tr α) : Tr α :=
 match l with
 | true => gd c t
 | false => .ob (c = true) t
theorem is_obT {α : Type} {l c : Bool} {t : Tr α} {b : α} : (obT l c t).is b ↔ c = true ∧ t.is b := by
 cases l with
 | true => exact Tr.is_gd
 | false => exact Iff.rfl
noncomputable def F252 : Spec := fun args mem => match args, mem with
 | [.slc _ i 0 0 32 (some 32), .vec j], [.cells ok tk [.row lm lk .u8 32 ks], .cells ob tb [.row ln lx .u8 n xs]] =>
  gd (Nat.beq i 13) (gd (Nat.beq j 14) (obT ln (Nat.ble 1 n && Nat.ble n 1000000) (macK ks xs fun l => .leaf ⟨.arr (lk && lx) .u8 32 l, [.cells ok tk [.row lm lk .u8 32 ks], .cells ob tb [.row ln lx .u8 n xs]]⟩)))
 | [.slc _ i 0 0 32 (some 32), .slc l j 0 off m _], [.cells ok tk [.row lm lk .u8 32 ks], .cells ob tb [.row ln lx .u8 n xs]] =>
  gd (Nat.beq i 13) (gd (Nat.beq j 14) (obT (l && ln) (Nat.ble 1 m && Nat.ble (off + m) n && Nat.ble n 1000000) (macK ks ((xs.drop off).take m) fun l => .leaf ⟨.arr (lk && lx) .u8 32 l, [.cells ok tk [.row lm lk .u8 32 ks], .cells ob tb [.row ln lx .u8 n xs]]⟩)))
 | [.slc _ i 0 0 32 (some 32), .val (.slice none 0 0)], [.cells ok tk [.row lm lk .u8 32 ks]] =>
  gd (Nat.beq i 13) (mac0K ks fun l => .leaf ⟨.arr lk .u8 32 l, [.cells ok tk [.row lm lk .u8 32 ks]]⟩)
 | _, _ => .fail
theorem c148L : ConsOk [(148, F148L)] := ⟨fun p hp => by
  rcases List.mem_singleton.1 hp with rfl
  exact f148L_ok, fun p hp h => by
  rcases List.mem_singleton.1 hp with rfl
  exact f148L_still⟩
theorem f252_ok : FnOk Tryz.prog gl 252 F252 := by
 intro args mem r h
 unfold F252 at h
 split at h
 case h_4 => exact h.elim
 ·rename_i _ i j ok tk lm lk ks ob tb ln lx n xs
  obtain ⟨h1, h⟩ := Tr.is_gd.1 h
  obtain ⟨h2, h⟩ := Tr.is_gd.1 h
  obtain ⟨h3, h⟩ := is_obT.1 h
  rw [macK_eq] at h
  have h := Tr.is_leaf.1 h
  subst h
  rw [Nat.eq_of_beq_eq_true h1, Nat.eq_of_beq_eq_true h2]
  refine con_wf fun _ hm => ?_
  have e : xs.length = n := hm.2.1.1.1
  have ek : ks.length = 32 := hm.1.1.1
  simp only [Bool.and_eq_true, Nat.ble_eq] at h3
  subst e
  have run := mac_runv ok ob tk tb xs.length ks xs
  rw [tab_eq' ek] at run
  refine con_walk c148L Tryz.func252 10000 run ⟨?_, ⟨?_, ?_⟩, trivial⟩
  ·cases hb : Nat.ble (64 + xs.length) 64 with
   | false => rfl
   | true => have := Nat.le_of_ble_eq_true hb; omega
  ·rw [List.length_append, padL_length ek]; omega
  ·rw [List.length_append, padL_length ek]; show _ < 9223372036854775808; omega
 ·rename_i _ i l j off m cap ok tk lm lk ks ob tb ln lx n xs
  obtain ⟨h1, h⟩ := Tr.is_gd.1 h
  obtain ⟨h2, h⟩ := Tr.is_gd.1 h
  obtain ⟨h3, h⟩ := is_obT.1 h
  rw [macK_eq] at h
  have h := Tr.is_leaf.1 h
  subst h
  rw [Nat.eq_of_beq_eq_true h1, Nat.eq_of_beq_eq_true h2]
  refine con_wf fun _ hm => ?_
  have e : xs.length = n := hm.2.1.1.1
  have ek : ks.length = 32 := hm.1.1.1
  simp only [Bool.and_eq_true, Nat.ble_eq] at h3
  subst e
  have run := mac_runs ok ob tk tb xs.length off m cap ks xs
  rw [tab_eq' ek] at run
  have el : ((xs.drop off).take m).length = m := by simp; omega
  refine con_walk c148L Tryz.func252 10000 run ⟨?_, ⟨?_, ?_⟩, trivial⟩
  ·cases hb : Nat.ble (64 + ((xs.drop off).take m).length) 64 with
   | false => rfl
   | true => have := Nat.le_of_ble_eq_true hb; omega
  ·rw [List.length_append, padL_length ek]; omega
  ·rw [List.length_append, padL_length ek]; show _ < 9223372036854775808; omega
 ·rename_i _ i ok tk lm lk ks
  obtain ⟨h1, h⟩ := Tr.is_gd.1 h
  rw [mac0K_eq] at h
  have h := Tr.is_leaf.1 h
  subst h
  rw [Nat.eq_of_beq_eq_true h1]
  refine con_wf fun _ hm => ?_
  have ek : ks.length = 32 := hm.1.1.1
  have run := mac_run0 ok tk ks
  rw [tab_eq' ek] at run
  exact con_walk c148L Tryz.func252 10000 run ⟨by omega, by omega, trivial⟩
theorem f252_still : Still F252 := by
 intro args mem r h
 unfold F252 at h
 split at h
 case h_4 => exact h.elim
 ·have h := (is_obT.1 (Tr.is_gd.1 (Tr.is_gd.1 h).2).2).2
  rw [macK_eq] at h
  have h := Tr.is_leaf.1 h
  subst h
  exact ⟨[], rfl⟩
 ·have h := (is_obT.1 (Tr.is_gd.1 (Tr.is_gd.1 h).2).2).2
  rw [macK_eq] at h
  have h := Tr.is_leaf.1 h
  subst h
  exact ⟨[], rfl⟩
 ·have h := (Tr.is_gd.1 h).2
  rw [mac0K_eq] at h
  have h := Tr.is_leaf.1 h
  subst h
  exact ⟨[], rfl⟩
noncomputable def F148R : Spec := fun args mem => match args, mem with
 | [.vec i], [.cells o tt [.row ln lc .u8 n xs]] => gd (Nat.beq i 13) (hashK xs fun l => .leaf ⟨.arr lc .u8 32 l, [.cells o tt [.row ln lc .u8 n xs]]⟩)
 | [.slc l i 0 a m (some c)], [.cells o tt [.row ln lc .u8 n xs]] => gd (Nat.beq i 13) (leT (l && ln) (a + m) n (leT l m c (hashOK xs a m fun l => .leaf ⟨.arr lc .u8 32 l, [.cells o tt [.row ln lc .u8 n xs]]⟩)))
 | [.slc l i 0 a m none], [.cells o tt [.row ln lc .u8 n xs]] => gd (Nat.beq i 13) (leT (l && ln) (a + m) n (hashOK xs a m fun l => .leaf ⟨.arr lc .u8 32 l, [.cells o tt [.row ln lc .u8 n xs]]⟩))
 | _, _ => .fail
theorem f148R_ok : FnOk Tryz.prog gl 148 F148R := by
 intro args mem r h
 unfold F148R at h
 split at h
 case h_4 => exact h.elim
 case h_3 =>
  rename_i l i a m o tt ln lc n xs
  obtain ⟨h1, h⟩ := Tr.is_gd.1 h
  obtain ⟨h2, h⟩ := Tr.is_le.1 h
  rw [hashOK_eq] at h
  have h := Tr.is_leaf.1 h
  subst h
  exact con_to (f148L_ok [.slc l i 0 a m none] [.cells o tt [.row ln lc .u8 n xs]] ⟨.arr false .u8 32 (hashO xs a m), [.cells o tt [.row ln lc .u8 n xs]]⟩ (Tr.is_gd.2 ⟨h1, Tr.is_le.2 ⟨h2, rfl⟩⟩))
 ·rename_i i o tt ln lc n xs
  obtain ⟨h1, h⟩ := Tr.is_gd.1 h
  rw [hashK_eq] at h
  have h := Tr.is_leaf.1 h
  subst h
  exact con_to (f148L_ok [.vec i] [.cells o tt [.row ln lc .u8 n xs]] ⟨.arr false .u8 32 (hashL xs), [.cells o tt [.row ln lc .u8 n xs]]⟩ (Tr.is_gd.2 ⟨h1, rfl⟩))
 ·rename_i l i a m c o tt ln lc n xs
  obtain ⟨h1, h⟩ := Tr.is_gd.1 h
  obtain ⟨h2, h⟩ := Tr.is_le.1 h
  obtain ⟨h3, h⟩ := Tr.is_le.1 h
  rw [hashOK_eq] at h
  have h := Tr.is_leaf.1 h
  subst h
  exact con_to (f148L_ok [.slc l i 0 a m (some c)] [.cells o tt [.row ln lc .u8 n xs]] ⟨.arr false .u8 32 (hashO xs a m), [.cells o tt [.row ln lc .u8 n xs]]⟩ (Tr.is_gd.2 ⟨h1, Tr.is_le.2 ⟨h2, Tr.is_le.2 ⟨h3, rfl⟩⟩⟩))
theorem f148R_still : Still F148R := by
 intro args mem r h
 unfold F148R at h
 split at h
 case h_4 => exact h.elim
 case h_3 =>
  have h := (Tr.is_le.1 (Tr.is_gd.1 h).2).2
  rw [hashOK_eq] at h
  have h := Tr.is_leaf.1 h
  subst h
  exact ⟨[], rfl⟩
 ·have h := (Tr.is_gd.1 h).2
  rw [hashK_eq] at h
  have h := Tr.is_leaf.1 h
  subst h
  exact ⟨[], rfl⟩
 ·have h := (Tr.is_le.1 (Tr.is_le.1 (Tr.is_gd.1 h).2).2).2
  rw [hashOK_eq] at h
  have h := Tr.is_leaf.1 h
  subst h
  exact ⟨[], rfl⟩
end
section
def xr32 (a b : Int) : Int := bits .xor .u32 a b
def quarterF (a b c d : Int) : List Int :=
 let a1 := wadd a b
 let d1 := rotL (xr32 d a1) 65536 65536
 let c1 := wadd c d1
 let b1 := rotL (xr32 b c1) 4096 1048576
 let a2 := wadd a1 b1
 let d2 := rotL (xr32 d1 a2) 256 16777216
 let c2 := wadd c1 d2
 [a2, rotL (xr32 b1 c2) 128 33554432, c2, d2]
def quarterI (xs : List Int) : List Int := quarterF (xs.getD 0 0) (xs.getD 1 0) (xs.getD 2 0) (xs.getD 3 0)
theorem quarter_run (xs : List Int) : (callRun tc ((env []).fn 20) Tryz.f265 1000 [.arr false .u32 4 xs] []).walk [] [] =
  some ([(0 : Int) ≤ 16, (0 : Int) ≤ 16, (0 : Int) ≤ 12, (0 : Int) ≤ 20, (0 : Int) ≤ 8, (0 : Int) ≤ 24, (0 : Int) ≤ 7, (0 : Int) ≤ 25], ⟨.arr false .u32 4 (quarterI xs), []⟩) := by kernel_rfl
noncomputable def F265 : Spec := fun args mem => match args, mem with
 | [.arr _ .u32 4 xs], [] => .leaf ⟨.arr false .u32 4 (quarterI xs), []⟩
 | _, _ => .fail
theorem f265_ok : FnOk Tryz.prog gl 265 F265 := by
 intro args mem r h
 unfold F265 at h
 split at h
 case h_2 => exact h.elim
 rename_i _ xs
 replace h := Tr.is_leaf.1 h
 subst h
 exact con_walk cons0 Tryz.func265 1000 (quarter_run xs) ⟨by decide, by decide, by decide, by decide, by decide, by decide, by decide, by decide, trivial⟩
theorem c265 : ConsOk [(265, F265)] := ⟨fun p hp => by
  rcases List.mem_singleton.1 hp with rfl
  exact f265_ok, fun p hp h => by
  rcases List.mem_singleton.1 hp with rfl
  exact absurd h (by decide)⟩
noncomputable def blockB : Code := bodyC Tryz.f232
noncomputable abbrev cxC : Cx := cxE [(265, F265)] 119
def qS (a b c d : Nat) (x : List Int) : List Int :=
 let q := quarterI [x.getD a 0, x.getD b 0, x.getD c 0, x.getD d 0]
 (((x.set a (q.getD 0 0)).set b (q.getD 1 0)).set c (q.getD 2 0)).set d (q.getD 3 0)
def dblI (x : List Int) : List Int := qS 3 4 9 14 (qS 2 7 8 13 (qS 1 6 11 12 (qS 0 5 10 15 (qS 3 7 11 15 (qS 2 6 10 14 (qS 1 5 9 13 (qS 0 4 8 12 x)))))))
def stateW (ks : List Int) (c : Int) (ns : List Int) : List Int := [1634760805, 857760878, 2036477234, 1797285236, wordL ks 0 0, wordL ks 0 4, wordL ks 0 8, wordL ks 0 12, wordL ks 0 16, wordL ks 0 20, wordL ks 0 24, wordL ks 0 28, c, wordL ns 0 0, wordL ns 0 4, wordL ns 0 8]
def z64' : List Int := List.replicate 64 0
noncomputable def sB (fl : Bool) (ks ns s x : List Int) (i : Int) : St := stM gl [(6, .ptr 15 0 0 true 0), (7, .ptr 16 0 0 true 0), (12, .ptr 17 0 0 true 0), (56, .int fl .i64 i)]
 [.cells true 27 [.row true false .u8 32 ks], .cells true 197 [.row true false .u8 12 ns], .cells true 309 [.row true true .u8 64 z64'], .cells true 337 [.row true false .u32 16 s], .cells true 337 [.row true false .u32 16 x]]
noncomputable def lpC : Code := post 7 blockB
noncomputable def roundC : Code := loopC (blkC (seqR (seqL lpC)))
def obW : List Prop := [(0 : Int) ≤ 8, (0 : Int) ≤ 16, (0 : Int) ≤ 24, (0 : Int) ≤ 8, (0 : Int) ≤ 16, (0 : Int) ≤ 24, (0 : Int) ≤ 8, (0 : Int) ≤ 16, (0 : Int) ≤ 24, (0 : Int) ≤ 8, (0 : Int) ≤ 16, (0 : Int) ≤ 24, (0 : Int) ≤ 8, (0 : Int) ≤ 16, (0 : Int) ≤ 24, (0 : Int) ≤ 8, (0 : Int) ≤ 16, (0 : Int) ≤ 24, (0 : Int) ≤ 8, (0 : Int) ≤ 16, (0 : Int) ≤ 24, (0 : Int) ≤ 8, (0 : Int) ≤ 16, (0 : Int) ≤ 24, (0 : Int) ≤ 8, (0 : Int) ≤ 16, (0 : Int) ≤ 24, (0 : Int) ≤ 8, (0 : Int) ≤ 16, (0 : Int) ≤ 24, (0 : Int) ≤ 8, (0 : Int) ≤ 16, (0 : Int) ≤ 24]
theorem block_pre (ks ns : List Int) (c : Int) : (execK cxC 13 10000 (pre 7 blockB) [6, 7, 12] (List.range 18) (s0 tc [.arr false .u8 32 ks, .int false .u32 c, .arr false .u8 12 ns] [])).walk [] [] =
  some (obW, (.normal, stM gl [(6, .ptr 15 0 0 true 0), (7, .ptr 16 0 0 true 0), (12, .ptr 17 0 0 true 0)] [.cells true 27 [.row true false .u8 32 ks], .cells true 197 [.row true false .u8 12 ns], .cells true 309 [.row true true .u8 64 z64'], .cells true 337 [.row true false .u32 16 (stateW ks c ns)], .cells true 337 [.row true false .u32 16 (stateW ks c ns)]])) := by kernel_rfl
theorem block_ini (ks ns s x : List Int) : (execK cxC 13 10000 (seqL (seqL lpC)) [6, 7, 12, 56] (List.range 18) (stM gl [(6, .ptr 15 0 0 true 0), (7, .ptr 16 0 0 true 0), (12, .ptr 17 0 0 true 0)] [.cells true 27 [.row true false .u8 32 ks], .cells true 197 [.row true false .u8 12 ns], .cells true 309 [.row true true .u8 64 z64'], .cells true 337 [.row true false .u32 16 s], .cells true 337 [.row true false .u32 16 x]])).walk [] [] =
  some ([], (.normal, sB true ks ns s x 0)) := by kernel_rfl
theorem block_stop (ks ns s x : List Int) (i : Int) : (execK cxC 13 10000 roundC [6, 7, 12, 56] (List.range 18) (sB false ks ns s x i)).walk [.f] [] = some ([decide (i < 10) = false], (.exit 6, sB false ks ns s x i)) := by kernel_rfl
theorem block_round (ks ns s x : List Int) (i : Int) : (execK cxC 13 10000 roundC [6, 7, 12, 56] (List.range 18) (sB false ks ns s x i)).walk [.t] [] = some ([decide (i < 10) = true, IntKind.i64.wrap (i + 1) = i + 1], (.normal, sB false ks ns s (dblI x) (i + 1))) := by kernel_rfl
def byteX (w q : Int) : Int := IntKind.u8.wrap (Int.fdiv w q)
def outX (x s : List Int) : List Int := (List.range 16).flatMap fun i => [byteX (wadd (x.getD i 0) (s.getD i 0)) 1, byteX (wadd (x.getD i 0) (s.getD i 0)) 256, byteX (wadd (x.getD i 0) (s.getD i 0)) 65536, byteX (wadd (x.getD i 0) (s.getD i 0)) 16777216]
def obX : List Prop := [(0 : Int) ≤ 0, (0 : Int) ≤ 8, (0 : Int) ≤ 16, (0 : Int) ≤ 24, (0 : Int) ≤ 0, (0 : Int) ≤ 8, (0 : Int) ≤ 16, (0 : Int) ≤ 24, (0 : Int) ≤ 0, (0 : Int) ≤ 8, (0 : Int) ≤ 16, (0 : Int) ≤ 24, (0 : Int) ≤ 0, (0 : Int) ≤ 8, (0 : Int) ≤ 16, (0 : Int) ≤ 24, (0 : Int) ≤ 0, (0 : Int) ≤ 8, (0 : Int) ≤ 16, (0 : Int) ≤ 24, (0 : Int) ≤ 0, (0 : Int) ≤ 8, (0 : Int) ≤ 16, (0 : Int) ≤ 24, (0 : Int) ≤ 0, (0 : Int) ≤ 8, (0 : Int) ≤ 16, (0 : Int) ≤ 24, (0 : Int) ≤ 0, (0 : Int) ≤ 8, (0 : Int) ≤ 16, (0 : Int) ≤ 24, (0 : Int) ≤ 0, (0 : Int) ≤ 8, (0 : Int) ≤ 16, (0 : Int) ≤ 24, (0 : Int) ≤ 0, (0 : Int) ≤ 8, (0 : Int) ≤ 16, (0 : Int) ≤ 24, (0 : Int) ≤ 0, (0 : Int) ≤ 8, (0 : Int) ≤ 16, (0 : Int) ≤ 24, (0 : Int) ≤ 0, (0 : Int) ≤ 8, (0 : Int) ≤ 16, (0 : Int) ≤ 24, (0 : Int) ≤ 0, (0 : Int) ≤ 8, (0 : Int) ≤ 16, (0 : Int) ≤ 24, (0 : Int) ≤ 0, (0 : Int) ≤ 8, (0 : Int) ≤ 16, (0 : Int) ≤ 24, (0 : Int) ≤ 0, (0 : Int) ≤ 8, (0 : Int) ≤ 16, (0 : Int) ≤ 24, (0 : Int) ≤ 0, (0 : Int) ≤ 8, (0 : Int) ≤ 16, (0 : Int) ≤ 24]
theorem block_end (ks ns s x : List Int) (i : Int) : (exec cxC 10000 (seqR lpC) (sB false ks ns s x i) fun ex s' => match ex with
   | .exit _ => .fail
   | _ => shutS tc Tryz.f232 0 s').walk [] [] = some (obX, ⟨.arr false .u8 64 (outX x s), []⟩) := by kernel_rfl
theorem block_code : post 7 blockB = .seq (seqL lpC) (seqR lpC) := by kernel_rfl
theorem block_code2 : seqL lpC = .seq (seqL (seqL lpC)) (.block 6 (.loop roundC)) := by kernel_rfl
def dblN (s : List Int) : Nat → List Int
 | 0 => s
 | i + 1 => dblI (dblN s i)
def blockL (ks : List Int) (c : Int) (ns : List Int) : List Int := outX (dblN (stateW ks c ns) 10) (stateW ks c ns)
theorem obW_ok : Conj obW := by simp [obW, Conj]
theorem obX_ok : Conj obX := by simp [obX, Conj]
theorem block_con (ks ns : List Int) (c : Int) : Con Tryz.prog gl 232 [.arr false .u8 32 ks, .int false .u32 c, .arr false .u8 12 ns] [] ⟨.arr false .u8 64 (blockL ks c ns), []⟩ := by
 refine con_tri c265 Tryz.func232 (by kernel_rfl) (show Tryz.f232.body = some blockB by kernel_rfl) (by kernel_rfl) (fun B hB => ?_)
 refine tri_pk (cxE_ok c265 119) hB (by kernel_rfl) 7 (block_pre ks ns c) obW_ok ?_
 rw [block_code]
 refine tri_seqN (P := fun s' => s' = sB false ks ns (stateW ks c ns) (dblN (stateW ks c ns) 10) (10 : Nat)) ?_ (fun s' h => ?_)
 ·rw [block_code2]
  refine tri_seqN (P := fun s' => s' = sB true ks ns (stateW ks c ns) (stateW ks c ns) 0) ?_ (fun s' h => ?_)
  ·exact tri_wk (cxE_ok c265 119) hB (by kernel_rfl) (block_ini ks ns _ _) conj_nil ⟨rfl, rfl⟩
  ·subst h
   refine tri_pre (s' := sB false ks ns (stateW ks c ns) (dblN (stateW ks c ns) 0) (0 : Nat)) (less_stM rfl rfl) (tri_range (fun i => sB false ks ns (stateW ks c ns) (dblN (stateW ks c ns) i) (i : Nat)) 10 (fun i hi => ?_) ?_)
   ·exact tri_wk (cxE_ok c265 119) hB (by kernel_rfl) (block_round ks ns _ _ (i : Nat)) ⟨decide_eq_true (by omega), I64.wrap ⟨by omega, by omega⟩, trivial⟩ ⟨rfl, rfl⟩
   ·exact tri_wk (cxE_ok c265 119) hB (by kernel_rfl) (block_stop ks ns _ _ _) ⟨rfl, trivial⟩ ⟨rfl, rfl⟩
 ·subst h
  exact tri_end (cxE_ok c265 119) (block_end ks ns _ _ _) obX_ok
section
variable {β : Type}
def quarterK (a b c d : Int) (K : Int → Int → Int → Int → β) : β :=
 fcI (wadd a b) fun a1 => fcI (rotL (xr32 d a1) 65536 65536) fun d1 => fcI (wadd c d1) fun c1 => fcI (rotL (xr32 b c1) 4096 1048576) fun b1 =>
 fcI (wadd a1 b1) fun a2 => fcI (rotL (xr32 d1 a2) 256 16777216) fun d2 => fcI (wadd c1 d2) fun c2 => fcI (rotL (xr32 b1 c2) 128 33554432) fun b2 => K a2 b2 c2 d2
def qSK (a b c d : Nat) (x : List Int) (K : List Int → β) : β :=
 quarterK (x.getD a 0) (x.getD b 0) (x.getD c 0) (x.getD d 0) fun p q r s => setK x a p fun x => setK x b q fun x => setK x c r fun x => setK x d s K
theorem qSK_eq (a b c d : Nat) (x : List Int) (K : List Int → β) : qSK a b c d x K = K (qS a b c d x) := by
 unfold qSK quarterK
 simp only [fcI_eq, setK_eq]
 rfl
def dblK (x : List Int) (K : List Int → β) : β :=
 qSK 0 4 8 12 x fun x => qSK 1 5 9 13 x fun x => qSK 2 6 10 14 x fun x => qSK 3 7 11 15 x fun x => qSK 0 5 10 15 x fun x => qSK 1 6 11 12 x fun x => qSK 2 7 8 13 x fun x => qSK 3 4 9 14 x K
theorem dblK_eq (x : List Int) (K : List Int → β) : dblK x K = K (dblI x) := by
 unfold dblK
 simp only [qSK_eq]
 rfl
def dblNK (s : List Int) : Nat → (List Int → β) → β
 | 0, K => K s
 | i + 1, K => dblNK s i fun x => dblK x K
theorem dblNK_eq (s : List Int) : ∀ (i : Nat) (K : List Int → β), dblNK s i K = K (dblN s i)
 | 0, _ => rfl
 | i + 1, K => by rw [dblNK, dblNK_eq s i, dblK_eq]; rfl
def blockK (ks : List Int) (c : Int) (ns : List Int) (K : List Int → β) : β :=
 fcL ks fun ks => fcL ns fun ns => fcI c fun c => fcL (stateW ks c ns) fun s => dblNK s 10 fun x => fcL (outX x s) K
theorem blockK_eq (ks : List Int) (c : Int) (ns : List Int) (K : List Int → β) : blockK ks c ns K = K (blockL ks c ns) := by
 rw [blockK, fcL_eq, fcL_eq, fcI_eq, fcL_eq, dblNK_eq, fcL_eq]
 rfl
end
noncomputable def F232L : Spec := fun args mem => match args, mem with
 | [.arr _ .u8 32 ks, .int _ .u32 c, .arr _ .u8 12 ns], [] => .leaf ⟨.arr false .u8 64 (blockL ks c ns), []⟩
 | _, _ => .fail
noncomputable def F232 : Spec := fun args mem => match args, mem with
 | [.arr l1 .u8 32 ks, .int l2 .u32 c, .arr l3 .u8 12 ns], [] => blockK ks c ns fun l => .leaf ⟨.arr (l1 && l2 && l3) .u8 64 l, []⟩
 | _, _ => .fail
theorem f232L_ok : FnOk Tryz.prog gl 232 F232L := by
 intro args mem r h
 unfold F232L at h
 split at h
 case h_2 => exact h.elim
 replace h := Tr.is_leaf.1 h
 subst h
 exact con_er rfl rfl rfl rfl (block_con _ _ _)
theorem f232_ok : FnOk Tryz.prog gl 232 F232 := by
 intro args mem r h
 unfold F232 at h
 split at h
 case h_2 => exact h.elim
 rw [blockK_eq] at h
 replace h := Tr.is_leaf.1 h
 subst h
 exact con_er rfl rfl rfl rfl (block_con _ _ _)
theorem f232L_still : Still F232L := by
 intro args mem r h
 unfold F232L at h
 split at h
 case h_2 => exact h.elim
 replace h := Tr.is_leaf.1 h
 subst h
 exact ⟨[], rfl⟩
theorem f232_still : Still F232 := by
 intro args mem r h
 unfold F232 at h
 split at h
 case h_2 => exact h.elim
 rw [blockK_eq] at h
 replace h := Tr.is_leaf.1 h
 subst h
 exact ⟨[], rfl⟩
end
section
noncomputable def xorB : Code := bodyC Tryz.f183
theorem c232L : ConsOk [(232, F232L)] := ⟨fun p hp => by
  rcases List.mem_singleton.1 hp with rfl
  exact f232L_ok, fun p hp h => by
  rcases List.mem_singleton.1 hp with rfl
  exact f232L_still⟩
noncomputable abbrev cxX : Cx := cxE [(232, F232L)] 43
noncomputable def sXo (fl : Bool) (o : Bool) (t : TypeId) (off len n : Nat) (cap : Option Nat) (xs ks ns ys ss : List Int) (c i : Int) : St := stM gl [(1, .int false .u32 c), (3, .slc false 13 0 off len cap), (4, .ptr 14 0 0 true 0), (6, .ptr 15 0 0 true 0), (8, nilA), (9, .vec 16), (10, .ptr 17 0 0 true 0), (16, .slc false 13 0 off len cap), (17, .int false .i64 len), (18, .int fl .i64 i)] [.cells o t [.row false false .u8 n xs], .cells true 27 [.row true false .u8 32 ks], .cells true 197 [.row true false .u8 12 ns], .cells true 5 [.row false false .u8 len ys], .cells true 309 [.row true false .u8 64 ss]]
noncomputable def sXp (o : Bool) (t : TypeId) (off len n : Nat) (cap : Option Nat) (xs ks ns : List Int) (c : Int) : St := stM gl [(1, .int false .u32 c), (3, .slc false 13 0 off len cap), (4, .ptr 14 0 0 true 0), (6, .ptr 15 0 0 true 0), (8, nilA), (9, .vec 16), (10, .ptr 17 0 0 true 0)] [.cells o t [.row false false .u8 n xs], .cells true 27 [.row true false .u8 32 ks], .cells true 197 [.row true false .u8 12 ns], .cells true 5 [.row false false .u8 (Int.toNat (len : Int)) (List.replicate (Int.toNat (len : Int)) 0)], .cells true 309 [.row true true .u8 64 z64']]
noncomputable def roundX : Code := loopC (blkC (seqR (seqL (post 3 xorB))))
theorem xor_pre (o : Bool) (t : TypeId) (off len n : Nat) (cap : Option Nat) (xs ks ns : List Int) (c : Int) :
  (execK cxX 14 10000 (pre 3 xorB) [1, 3, 4, 6, 8, 9, 10] (List.range 18) (s0 tc [.arr false .u8 32 ks, .int false .u32 c, .arr false .u8 12 ns, .slc false 13 0 off len cap] [.cells o t [.row false false .u8 n xs]])).walk [] [] =
   some ([0 ≤ (len : Int) ∧ (len : Int) ≤ (len : Int) ∧ ((1 : Nat) : Int) * (len : Int) ≤ 281474976710656], (.normal, sXp o t off len n cap xs ks ns c)) := by kernel_rfl
theorem xor_ini (o : Bool) (t : TypeId) (off len n : Nat) (cap : Option Nat) (xs ks ns ys ss : List Int) (c : Int) :
  (execK cxX 14 10000 (pre 1 (seqL (post 3 xorB))) [1, 3, 4, 6, 8, 9, 10, 16, 17, 18] (List.range 18) (stM gl [(1, .int false .u32 c), (3, .slc false 13 0 off len cap), (4, .ptr 14 0 0 true 0), (6, .ptr 15 0 0 true 0), (8, nilA), (9, .vec 16), (10, .ptr 17 0 0 true 0)] [.cells o t [.row false false .u8 n xs], .cells true 27 [.row true false .u8 32 ks], .cells true 197 [.row true false .u8 12 ns], .cells true 5 [.row false false .u8 len ys], .cells true 309 [.row true false .u8 64 ss]])).walk [] [] =
   some ([], (.normal, sXo true o t off len n cap xs ks ns ys ss c 0)) := by kernel_rfl
theorem xor_t (o : Bool) (t : TypeId) (off len n : Nat) (cap : Option Nat) (xs ks ns ys ss : List Int) (c i : Int) :
  (execK cxX 14 10000 roundX [1, 3, 4, 6, 8, 9, 10, 16, 17, 18] (List.range 18) (sXo false o t off len n cap xs ks ns ys ss c i)).walk [.t, .t] [] =
   some ([decide (i < (len : Int)) = true, 0 ≤ i ∧ i < (len : Int), off + i.toNat < n, (64 : Int) ≠ 0, (Int.tmod i 64 == 0) = true, (64 : Int) ≠ 0, 0 ≤ Int.tmod i 64 ∧ Int.tmod i 64 < 64, 0 + (Int.tmod i 64).toNat * 1 < 64, 0 ≤ i ∧ i < (len : Int), i.toNat < len, IntKind.i64.wrap (i + 1) = i + 1],
    (.normal, sXo false o t off len n cap xs ks ns (ys.set i.toNat (bits .xor .u8 (xs.getD (off + i.toNat) 0) ((blockL ks c ns).getD (0 + (Int.tmod i 64).toNat * 1) 0))) (blockL ks c ns) (IntKind.u32.wrap (c + 1)) (i + 1))) := by kernel_rfl
theorem xor_f (o : Bool) (t : TypeId) (off len n : Nat) (cap : Option Nat) (xs ks ns ys ss : List Int) (c i : Int) :
  (execK cxX 14 10000 roundX [1, 3, 4, 6, 8, 9, 10, 16, 17, 18] (List.range 18) (sXo false o t off len n cap xs ks ns ys ss c i)).walk [.t, .f] [] =
   some ([decide (i < (len : Int)) = true, 0 ≤ i ∧ i < (len : Int), off + i.toNat < n, (64 : Int) ≠ 0, (Int.tmod i 64 == 0) = false, (64 : Int) ≠ 0, 0 ≤ Int.tmod i 64 ∧ Int.tmod i 64 < 64, 0 + (Int.tmod i 64).toNat * 1 < 64, 0 ≤ i ∧ i < (len : Int), i.toNat < len, IntKind.i64.wrap (i + 1) = i + 1],
    (.normal, sXo false o t off len n cap xs ks ns (ys.set i.toNat (bits .xor .u8 (xs.getD (off + i.toNat) 0) (ss.getD (0 + (Int.tmod i 64).toNat * 1) 0))) ss c (i + 1))) := by kernel_rfl
theorem xor_stop (o : Bool) (t : TypeId) (off len n : Nat) (cap : Option Nat) (xs ks ns ys ss : List Int) (c i : Int) :
  (execK cxX 14 10000 roundX [1, 3, 4, 6, 8, 9, 10, 16, 17, 18] (List.range 18) (sXo false o t off len n cap xs ks ns ys ss c i)).walk [.f] [] =
   some ([decide (i < (len : Int)) = false], (.exit 0, sXo false o t off len n cap xs ks ns ys ss c i)) := by kernel_rfl
theorem xor_end (o : Bool) (t : TypeId) (off len n : Nat) (cap : Option Nat) (xs ks ns ys ss : List Int) (c i : Int) :
  (exec cxX 10000 (seqR (post 3 xorB)) (sXo false o t off len n cap xs ks ns ys ss c i) fun ex s' => match ex with
   | .exit _ => .fail
   | _ => shutS tc Tryz.f183 1 s').walk [] [] = some ([], ⟨.vec 14, [.cells o t [.row false false .u8 n xs], .cells true 5 [.row false false .u8 len ys]]⟩) := by kernel_rfl
theorem xor_code : post 3 xorB = .seq (seqL (post 3 xorB)) (seqR (post 3 xorB)) := by kernel_rfl
theorem xor_code2 : post 1 (seqL (post 3 xorB)) = .block 0 (.loop roundX) := by kernel_rfl
def kAt (c : Int) : Nat → Int
 | 0 => c
 | j + 1 => IntKind.u32.wrap (kAt c j + 1)
def strB (ks : List Int) (c : Int) (ns : List Int) (j : Nat) : Int := (blockL ks (kAt c (j / 64)) ns).getD (j % 64) 0
def xorC (ks : List Int) (c : Int) (ns bs : List Int) : List Int := (List.range bs.length).map fun j => bits .xor .u8 (bs.getD j 0) (strB ks c ns j)
def ysAt (ks : List Int) (c : Int) (ns xs : List Int) (off len i : Nat) : List Int := (List.range len).map fun j => if j < i then bits .xor .u8 (xs.getD (off + j) 0) (strB ks c ns j) else 0
def ssAt (ks : List Int) (c : Int) (ns : List Int) : Nat → List Int
 | 0 => z64'
 | i + 1 => blockL ks (kAt c (i / 64)) ns
theorem ssAt_succ (ks : List Int) (c : Int) (ns : List Int) (j : Nat) : ssAt ks c ns (j + 1) = blockL ks (kAt c (j / 64)) ns := rfl
theorem ysAt_set (ks : List Int) (c : Int) (ns xs : List Int) (off len i : Nat) : (ysAt ks c ns xs off len i).set i (bits .xor .u8 (xs.getD (off + i) 0) (strB ks c ns i)) = ysAt ks c ns xs off len (i + 1) := by
 unfold ysAt
 apply List.ext_getElem
 ·simp
 ·intro j h1 h2
  simp only [List.getElem_set, List.getElem_map, List.getElem_range]
  by_cases h : i = j
  ·subst h; simp
  ·simp only [h, if_false]
   by_cases h' : j < i
   ·simp [h', Nat.lt_succ_of_lt h']
   ·rw [if_neg h', if_neg (by omega)]
theorem ysAt_len (ks : List Int) (c : Int) (ns xs : List Int) (off len : Nat) (h : off + len ≤ xs.length) : ysAt ks c ns xs off len len = xorC ks c ns ((xs.drop off).take len) := by
 unfold ysAt xorC
 have hl : ((xs.drop off).take len).length = len := by simp; omega
 rw [hl]
 apply List.map_congr_left
 intro j hj
 have hj := List.mem_range.1 hj
 rw [if_pos hj]
 congr 1
 simp [List.getD_eq_getElem?_getD, hj]
theorem ysAt_0 (ks : List Int) (c : Int) (ns xs : List Int) (off len : Nat) : ysAt ks c ns xs off len 0 = List.replicate len 0 := by
 unfold ysAt
 apply List.ext_getElem <;> simp
theorem tmod64 (i : Nat) : Int.tmod (i : Int) 64 = ((i % 64 : Nat) : Int) := by
 rw [Int.tmod_eq_emod_of_nonneg (by omega)]; rfl
theorem xor_con (o : Bool) (t : TypeId) (off len : Nat) (cap : Option Nat) (xs ks ns : List Int) (c : Int) (h1 : off + len ≤ xs.length) (h2 : len ≤ 281474976710656) :
  Con Tryz.prog gl 183 [.arr false .u8 32 ks, .int false .u32 c, .arr false .u8 12 ns, .slc false 13 0 off len cap] [.cells o t [.row false false .u8 xs.length xs]]
   ⟨.vec 14, [.cells o t [.row false false .u8 xs.length xs], .cells true 5 [.row false false .u8 len (xorC ks c ns ((xs.drop off).take len))]]⟩ := by
 refine con_tri c232L Tryz.func183 (by kernel_rfl) (show Tryz.f183.body = some xorB by kernel_rfl) (by kernel_rfl) (fun B hB => ?_)
 refine tri_pk (cxE_ok c232L 43) hB (by kernel_rfl) 3 (xor_pre o t off len xs.length cap xs ks ns c) ⟨⟨by omega, by omega, by omega⟩, trivial⟩ ?_
 rw [xor_code]
 refine tri_seqN (P := fun s' => s' = sXo false o t off len xs.length cap xs ks ns (ysAt ks c ns xs off len len) (ssAt ks c ns len) (kAt c ((len + 63) / 64)) (len : Nat)) ?_ (fun s' h => ?_)
 ·refine tri_pre (s' := stM gl [(1, .int false .u32 c), (3, .slc false 13 0 off len cap), (4, .ptr 14 0 0 true 0), (6, .ptr 15 0 0 true 0), (8, nilA), (9, .vec 16), (10, .ptr 17 0 0 true 0)] [.cells o t [.row false false .u8 xs.length xs], .cells true 27 [.row true false .u8 32 ks], .cells true 197 [.row true false .u8 12 ns], .cells true 5 [.row false false .u8 len (List.replicate len 0)], .cells true 309 [.row true false .u8 64 z64']]) (less_stM rfl rfl) ?_
  refine tri_pk (cxE_ok c232L 43) hB (by kernel_rfl) 1 (xor_ini o t off len xs.length cap xs ks ns _ _ c) conj_nil ?_
  rw [xor_code2, ← ysAt_0 ks c ns xs off len]
  refine tri_pre (s' := sXo false o t off len xs.length cap xs ks ns (ysAt ks c ns xs off len 0) (ssAt ks c ns 0) (kAt c ((0 + 63) / 64)) (0 : Nat)) (less_stM rfl rfl) (tri_range (fun i => sXo false o t off len xs.length cap xs ks ns (ysAt ks c ns xs off len i) (ssAt ks c ns i) (kAt c ((i + 63) / 64)) (i : Nat)) len (fun i hi => ?_) ?_)
  ·have hm : i % 64 < 64 := Nat.mod_lt _ (by decide)
   have ew : IntKind.i64.wrap ((i : Int) + 1) = ((i + 1 : Nat) : Int) := I64.wrap (n := (i : Int) + 1) ⟨by omega, by omega⟩
   by_cases h0 : i % 64 = 0
   ·have run := xor_t o t off len xs.length cap xs ks ns (ysAt ks c ns xs off len i) (ssAt ks c ns i) (kAt c ((i + 63) / 64)) (i : Nat)
    rw [tmod64, Int.toNat_natCast, Int.toNat_natCast] at run
    have e1 : (i + 63) / 64 = i / 64 := by omega
    have e2 : ((blockL ks (kAt c ((i + 63) / 64)) ns).getD (0 + i % 64 * 1) 0) = strB ks c ns i := by
     unfold strB
     rw [e1, Nat.zero_add, Nat.mul_one]
    rw [e2, ysAt_set] at run
    have e3 : kAt c ((i + 1 + 63) / 64) = IntKind.u32.wrap (kAt c ((i + 63) / 64) + 1) := by
     rw [e1, show (i + 1 + 63) / 64 = i / 64 + 1 by omega]
     rfl
    refine tri_wk (cxE_ok c232L 43) hB (by kernel_rfl) run ⟨decide_eq_true (by omega), ⟨by omega, by omega⟩, by omega, by decide, ?_, by decide, ⟨by omega, by omega⟩, by omega, ⟨by omega, by omega⟩, by omega, ew, trivial⟩ ⟨rfl, ?_⟩
    ·rw [h0]; rfl
    ·rw [← e3, e1]
     rfl
   ·have run := xor_f o t off len xs.length cap xs ks ns (ysAt ks c ns xs off len i) (ssAt ks c ns i) (kAt c ((i + 63) / 64)) (i : Nat)
    rw [tmod64, Int.toNat_natCast, Int.toNat_natCast] at run
    obtain ⟨j, rfl⟩ : ∃ j, i = j + 1 := ⟨i - 1, by omega⟩
    have e1 : j / 64 = (j + 1) / 64 := by omega
    have e2 : (ssAt ks c ns (j + 1)).getD (0 + (j + 1) % 64 * 1) 0 = strB ks c ns (j + 1) := by
     unfold strB
     rw [ssAt_succ, e1, Nat.zero_add, Nat.mul_one]
    rw [e2, ysAt_set] at run
    refine tri_wk (cxE_ok c232L 43) hB (by kernel_rfl) run ⟨decide_eq_true (by omega), ⟨by omega, by omega⟩, by omega, by decide, ?_, by decide, ⟨by omega, by omega⟩, by omega, ⟨by omega, by omega⟩, by omega, ew, trivial⟩ ⟨rfl, ?_⟩
    ·have : ¬ (((j + 1) % 64 : Nat) : Int) = 0 := by omega
     simp only [beq_eq_false_iff_ne, ne_eq]
     exact this
    ·rw [show (j + 1 + 1 + 63) / 64 = (j + 1 + 63) / 64 by omega]
     rw [ssAt_succ, ssAt_succ, e1]
     rfl
  ·exact tri_wk (cxE_ok c232L 43) hB (by kernel_rfl) (xor_stop o t off len xs.length cap xs ks ns _ _ _ _) ⟨decide_eq_false (by omega), trivial⟩ ⟨rfl, rfl⟩
 ·subst h
  rw [← ysAt_len ks c ns xs off len h1]
  exact tri_end (cxE_ok c232L 43) (xor_end o t off len xs.length cap xs ks ns _ _ _ _) conj_nil
theorem xor_nil (ks ns : List Int) (c : Int) : (callRun tc ((env [(232, F232L)]).fn 20) Tryz.f183 10000 [.arr false .u8 32 ks, .int false .u32 c, .arr false .u8 12 ns, nilA] []).walk [] [] =
  some ([], ⟨.vec 13, [.cells true 5 [.row true true .u8 0 []]]⟩) := by kernel_rfl
section
variable {β : Type}
def xorZ : List Int → List Int → (List Int → β) → β
 | a :: r, b :: s, K => fcI (bits .xor .u8 a b) fun x => xorZ r s fun t => K (x :: t)
 | _, _, K => K []
def xorZL : List Int → List Int → List Int
 | a :: r, b :: s => bits .xor .u8 a b :: xorZL r s
 | _, _ => []
theorem xorZ_eq : ∀ (a b : List Int) (K : List Int → β), xorZ a b K = K (xorZL a b)
 | a :: r, b :: s, K => by rw [xorZ, fcI_eq, xorZ_eq r s]; rfl
 | [], _, _ => by rw [xorZ]; rfl; intro _ _ _ _ h; cases h
 | _ :: _, [], _ => by rw [xorZ]; rfl; intro _ _ _ _ _ h; cases h
def xorGoK (ks ns : List Int) : Nat → Int → List Int → (List Int → β) → β
 | 0, _, _, K => K []
 | m + 1, c, l, K => match l with
  | [] => K []
  | a :: r => blockK ks c ns fun s => xorZ ((a :: r).take 64) s fun h => fcI (IntKind.u32.wrap (c + 1)) fun c => fcL ((a :: r).drop 64) fun l => xorGoK ks ns m c l fun t => K (h ++ t)
def xorGo (ks ns : List Int) : Nat → Int → List Int → List Int
 | 0, _, _ => []
 | m + 1, c, l => xorZL (l.take 64) (blockL ks c ns) ++ xorGo ks ns m (IntKind.u32.wrap (c + 1)) (l.drop 64)
theorem xorGo_nil (ks ns : List Int) : ∀ (m : Nat) (c : Int), xorGo ks ns m c [] = []
 | 0, _ => rfl
 | m + 1, c => by
  rw [xorGo, List.take_nil, List.drop_nil, xorGo_nil ks ns m]
  cases blockL ks c ns <;> rfl
theorem xorGoK_eq (ks ns : List Int) : ∀ (m : Nat) (c : Int) (l : List Int) (K : List Int → β), xorGoK ks ns m c l K = K (xorGo ks ns m c l)
 | 0, _, _, _ => rfl
 | m + 1, c, [], K => by rw [xorGo_nil]; rfl
 | m + 1, c, a :: r, K => by
  rw [xorGoK, blockK_eq, xorZ_eq, fcI_eq, fcL_eq, xorGoK_eq ks ns m]
  rfl
end
theorem blockL_length (ks ns : List Int) (c : Int) : (blockL ks c ns).length = 64 := by
 unfold blockL outX
 rfl
theorem xorZL_nr (a : Int) (r : List Int) : xorZL (a :: r) [] = [] := rfl
theorem xorZL_get : ∀ (a b : List Int) (j : Nat), (xorZL a b)[j]? = (match a[j]?, b[j]? with | some x, some y => some (bits .xor .u8 x y) | _, _ => none)
 | a :: r, b :: s, 0 => rfl
 | a :: r, b :: s, j + 1 => by
  rw [xorZL, List.getElem?_cons_succ, xorZL_get r s j]
  rfl
 | [], _, j => by simp [xorZL]
 | _ :: _, [], j => by
  rw [xorZL_nr]
  simp
theorem xorZL_length : ∀ (a b : List Int), (xorZL a b).length = min a.length b.length
 | a :: r, b :: s => by simp [xorZL, xorZL_length r s]
 | [], _ => by simp [xorZL]
 | _ :: _, [] => by rw [xorZL_nr]; simp
theorem kAt_succ (c : Int) : ∀ j : Nat, kAt (IntKind.u32.wrap (c + 1)) j = kAt c (j + 1)
 | 0 => rfl
 | j + 1 => by rw [kAt, kAt_succ c j]; rfl
theorem xorGo_eq (ks ns : List Int) : ∀ (m : Nat) (c : Int) (l : List Int), l.length ≤ 64 * m → xorGo ks ns m c l = xorC ks c ns l
 | 0, c, l, h => by
  have : l = [] := List.length_eq_zero_iff.1 (by omega)
  subst this
  rfl
 | m + 1, c, l, h => by
  rw [xorGo, xorGo_eq ks ns m _ _ (by simp; omega)]
  apply List.ext_getElem?
  intro j
  have h1 : (xorZL (l.take 64) (blockL ks c ns)).length = min 64 l.length := by
   rw [xorZL_length, blockL_length, List.length_take]; omega
  have hx : ∀ i, (xorC ks c ns l)[i]? = (l[i]?).map fun x => bits .xor .u8 x (strB ks c ns i) := by
   intro i
   unfold xorC
   rw [List.getElem?_map]
   by_cases hi : i < l.length
   ·rw [List.getElem?_range hi, List.getElem?_eq_getElem hi]
    simp [List.getD_eq_getElem?_getD, hi]
   ·rw [List.getElem?_eq_none (by simp; omega), List.getElem?_eq_none (by omega)]
    rfl
  rw [hx]
  by_cases hj : j < min 64 l.length
  ·rw [List.getElem?_append_left (by omega), xorZL_get, List.getElem?_take, if_pos (by omega), List.getElem?_eq_getElem (by omega : j < l.length), List.getElem?_eq_getElem (by rw [blockL_length]; omega : j < (blockL ks c ns).length)]
   simp only [Option.map_some]
   unfold strB
   have e1 : j / 64 = 0 := by omega
   have e2 : j % 64 = j := by omega
   rw [e1, e2]
   simp [kAt, List.getD_eq_getElem?_getD, List.getElem?_eq_getElem (by rw [blockL_length]; omega : j < (blockL ks c ns).length)]
  ·rw [List.getElem?_append_right (by omega), h1]
   by_cases hl : l.length ≤ 64
   ·have e : l.drop 64 = [] := List.drop_eq_nil_of_le hl
    rw [e]
    rw [List.getElem?_eq_none (by omega : l.length ≤ j)]
    rfl
   ·have e64 : min 64 l.length = 64 := by omega
    rw [e64] at hj ⊢
    have hx2 : ∀ i, (xorC ks (IntKind.u32.wrap (c + 1)) ns (l.drop 64))[i]? = ((l.drop 64)[i]?).map fun x => bits .xor .u8 x (strB ks (IntKind.u32.wrap (c + 1)) ns i) := by
     intro i
     unfold xorC
     rw [List.getElem?_map]
     by_cases hi : i < (l.drop 64).length
     ·rw [List.getElem?_range hi, List.getElem?_eq_getElem hi]
      simp [List.getD_eq_getElem?_getD, List.getElem?_eq_getElem (by simp at hi; omega : 64 + i < l.length)]
     ·rw [List.getElem?_eq_none (by simp only [List.length_range]; omega), List.getElem?_eq_none (by omega)]
      rfl
    rw [hx2, List.getElem?_drop, show 64 + (j - 64) = j by omega]
    refine congrArg (fun f : Int → Int => (l[j]?).map f) (funext fun x => ?_)
    unfold strB
    rw [kAt_succ, show (j - 64) / 64 + 1 = j / 64 by omega, show (j - 64) % 64 = j % 64 by omega]
theorem xorC_length (ks : List Int) (c : Int) (ns l : List Int) : (xorC ks c ns l).length = l.length := by simp [xorC]
noncomputable def F183L : Spec := fun args mem => match args, mem with
 | [.arr _ .u8 32 ks, .int _ .u32 c, .arr _ .u8 12 ns, .slc l i 0 off len _], [.cells o t [.row ln lc .u8 n xs]] =>
  gd (Nat.beq i 13) (leT (l && ln) (off + len) n (leT l len 281474976710656 (.leaf ⟨.vec 14, [.cells o t [.row ln lc .u8 n xs], .cells true 5 [.row l false .u8 len (xorC ks c ns ((xs.drop off).take len))]]⟩)))
 | [.arr _ .u8 32 ks, .int _ .u32 c, .arr _ .u8 12 ns, .vec i], [.cells o t [.row ln lc .u8 n xs]] =>
  gd (Nat.beq i 13) (leT ln n 281474976710656 (.leaf ⟨.vec 14, [.cells o t [.row ln lc .u8 n xs], .cells true 5 [.row ln false .u8 n (xorC ks c ns xs)]]⟩))
 | [.arr _ .u8 32 _, .int _ .u32 _, .arr _ .u8 12 _, .val (.slice none 0 0)], [] => .leaf ⟨.vec 13, [.cells true 5 [.row true true .u8 0 []]]⟩
 | _, _ => .fail
noncomputable def F183 : Spec := fun args mem => match args, mem with
 | [.arr _ .u8 32 ks, .int _ .u32 c, .arr _ .u8 12 ns, .slc l i 0 off len _], [.cells o t [.row ln lc .u8 n xs]] =>
  gd (Nat.beq i 13) (leT (l && ln) (off + len) n (leT l len 281474976710656 (fcL ((xs.drop off).take len) fun ys => xorGoK ks ns (ys.length / 64 + 1) c ys fun zs => .leaf ⟨.vec 14, [.cells o t [.row ln lc .u8 n xs], .cells true 5 [.row l lc .u8 len zs]]⟩)))
 | [.arr _ .u8 32 ks, .int _ .u32 c, .arr _ .u8 12 ns, .vec i], [.cells o t [.row ln lc .u8 n xs]] =>
  gd (Nat.beq i 13) (leT ln n 281474976710656 (fcL xs fun ys => xorGoK ks ns (ys.length / 64 + 1) c ys fun zs => .leaf ⟨.vec 14, [.cells o t [.row ln lc .u8 n xs], .cells true 5 [.row ln lc .u8 n zs]]⟩))
 | [.arr _ .u8 32 _, .int _ .u32 _, .arr _ .u8 12 _, .val (.slice none 0 0)], [] => .leaf ⟨.vec 13, [.cells true 5 [.row true true .u8 0 []]]⟩
 | _, _ => .fail
theorem xorGo_all (ks ns : List Int) (c : Int) (l : List Int) : xorGo ks ns (l.length / 64 + 1) c l = xorC ks c ns l := xorGo_eq ks ns _ c l (by omega)
theorem xor_conv (o : Bool) (t : TypeId) (xs ks ns : List Int) (c : Int) (h2 : xs.length ≤ 281474976710656) :
  Con Tryz.prog gl 183 [.arr false .u8 32 ks, .int false .u32 c, .arr false .u8 12 ns, .vec 13] [.cells o t [.row false false .u8 xs.length xs]]
   ⟨.vec 14, [.cells o t [.row false false .u8 xs.length xs], .cells true 5 [.row false false .u8 xs.length (xorC ks c ns xs)]]⟩ := by
 refine con_part (.keep _ (.keep _ (.keep _ (.turn (o := o) (t := t) (p := .row false false .u8 xs.length xs) false rfl .nil)))) ?_
 have := xor_con o t 0 xs.length none xs ks ns c (by omega) h2
 rw [List.drop_zero, List.take_length] at this
 exact this
theorem f183L_ok : FnOk Tryz.prog gl 183 F183L := by
 intro args mem r h
 unfold F183L at h
 split at h
 case h_4 => exact h.elim
 ·rename_i _ ks _ c _ ns l i off len cap o t ln lc n xs
  obtain ⟨h1, h⟩ := Tr.is_gd.1 h
  obtain ⟨h2, h⟩ := Tr.is_le.1 h
  obtain ⟨h3, h⟩ := Tr.is_le.1 h
  have h := Tr.is_leaf.1 h
  subst h
  rw [Nat.eq_of_beq_eq_true h1]
  refine con_wf fun _ hm => ?_
  have e : xs.length = n := hm.1.1.1
  subst e
  exact con_to (xor_con o t off len cap xs ks ns c h2 h3)
 ·rename_i _ ks _ c _ ns i o t ln lc n xs
  obtain ⟨h1, h⟩ := Tr.is_gd.1 h
  obtain ⟨h3, h⟩ := Tr.is_le.1 h
  have h := Tr.is_leaf.1 h
  subst h
  rw [Nat.eq_of_beq_eq_true h1]
  refine con_wf fun _ hm => ?_
  have e : xs.length = n := hm.1.1.1
  subst e
  exact con_to (xor_conv o t xs ks ns c h3)
 ·have h := Tr.is_leaf.1 h
  subst h
  exact con_walk c232L Tryz.func183 10000 (xor_nil _ _ _) conj_nil
theorem f183_ok : FnOk Tryz.prog gl 183 F183 := by
 intro args mem r h
 unfold F183 at h
 split at h
 case h_4 => exact h.elim
 ·rename_i _ ks _ c _ ns l i off len cap o t ln lc n xs
  obtain ⟨h1, h⟩ := Tr.is_gd.1 h
  obtain ⟨h2, h⟩ := Tr.is_le.1 h
  obtain ⟨h3, h⟩ := Tr.is_le.1 h
  rw [fcL_eq, xorGoK_eq, xorGo_all] at h
  have h := Tr.is_leaf.1 h
  subst h
  rw [Nat.eq_of_beq_eq_true h1]
  refine con_wf fun _ hm => ?_
  have e : xs.length = n := hm.1.1.1
  subst e
  exact con_to (xor_con o t off len cap xs ks ns c h2 h3)
 ·rename_i _ ks _ c _ ns i o t ln lc n xs
  obtain ⟨h1, h⟩ := Tr.is_gd.1 h
  obtain ⟨h3, h⟩ := Tr.is_le.1 h
  rw [fcL_eq, xorGoK_eq, xorGo_all] at h
  have h := Tr.is_leaf.1 h
  subst h
  rw [Nat.eq_of_beq_eq_true h1]
  refine con_wf fun _ hm => ?_
  have e : xs.length = n := hm.1.1.1
  subst e
  exact con_to (xor_conv o t xs ks ns c h3)
 ·have h := Tr.is_leaf.1 h
  subst h
  exact con_walk c232L Tryz.func183 10000 (xor_nil _ _ _) conj_nil
theorem f183L_still : Still F183L := by
 intro args mem r h
 unfold F183L at h
 split at h
 case h_4 => exact h.elim
 ·have h := Tr.is_leaf.1 (Tr.is_le.1 (Tr.is_le.1 (Tr.is_gd.1 h).2).2).2
  subst h
  exact ⟨_, rfl⟩
 ·have h := Tr.is_leaf.1 (Tr.is_le.1 (Tr.is_gd.1 h).2).2
  subst h
  exact ⟨_, rfl⟩
 ·have h := Tr.is_leaf.1 h
  subst h
  exact ⟨_, rfl⟩
theorem f183_still : Still F183 := by
 intro args mem r h
 unfold F183 at h
 split at h
 case h_4 => exact h.elim
 ·have h := (Tr.is_le.1 (Tr.is_le.1 (Tr.is_gd.1 h).2).2).2
  rw [fcL_eq, xorGoK_eq] at h
  have h := Tr.is_leaf.1 h
  subst h
  exact ⟨_, rfl⟩
 ·have h := (Tr.is_le.1 (Tr.is_gd.1 h).2).2
  rw [fcL_eq, xorGoK_eq] at h
  have h := Tr.is_leaf.1 h
  subst h
  exact ⟨_, rfl⟩
 ·have h := Tr.is_leaf.1 h
  subst h
  exact ⟨_, rfl⟩
end
section
section
variable {β : Type}
abbrev pN : Nat := 57896044618658097711785492504343953926634992332820282019728792003956564819949
abbrev qP : Nat := 1361129467683753853853498429727072845819
def numN : List Int → Nat
 | [] => 0
 | x :: r => x.toNat + 256 * numN r
def numK : List Int → (Nat → β) → β
 | [], K => K 0
 | x :: r, K => numK r fun n => fcN (x.toNat + 256 * n) K
theorem numK_eq : ∀ (l : List Int) (K : Nat → β), numK l K = K (numN l)
 | [], _ => rfl
 | x :: r, K => by rw [numK, numK_eq r, fcN_eq]; rfl
def bytsN : Nat → Nat → List Int
 | 0, _ => []
 | m + 1, n => ((n % 256 : Nat) : Int) :: bytsN m (n / 256)
def bytsK : Nat → Nat → (List Int → β) → β
 | 0, _, K => K []
 | m + 1, n, K => fcN (n % 256) fun b => fcN (n / 256) fun n => bytsK m n fun l => K ((b : Int) :: l)
theorem bytsK_eq : ∀ (m n : Nat) (K : List Int → β), bytsK m n K = K (bytsN m n)
 | 0, _, _ => rfl
 | m + 1, n, K => by rw [bytsK, fcN_eq, fcN_eq, bytsK_eq m]; rfl
structure LN where
 x2 : Nat
 z2 : Nat
 x3 : Nat
 z3 : Nat
def stepNK (u : Nat) (s : LN) (K : LN → β) : β :=
 fcN ((s.x2 + s.z2) % pN) fun a => fcN (a * a % pN) fun aa => fcN ((s.x2 + pN - s.z2) % pN) fun b => fcN (b * b % pN) fun bb =>
 fcN ((aa + pN - bb) % pN) fun e => fcN ((s.x3 + s.z3) % pN) fun c => fcN ((s.x3 + pN - s.z3) % pN) fun d =>
 fcN (d * a % pN) fun da => fcN (c * b % pN) fun cb => fcN ((da + cb) % pN) fun x => fcN ((da + pN - cb) % pN) fun z =>
 fcN (aa * bb % pN) fun x2 => fcN (e * ((aa + 121665 * e) % pN) % pN) fun z2 => fcN (x * x % pN) fun x3 => fcN (u * (z * z % pN) % pN) fun z3 => K ⟨x2, z2, x3, z3⟩
def stepN (u : Nat) (s : LN) : LN :=
 let a := (s.x2 + s.z2) % pN
 let aa := a * a % pN
 let b := (s.x2 + pN - s.z2) % pN
 let bb := b * b % pN
 let e := (aa + pN - bb) % pN
 let c := (s.x3 + s.z3) % pN
 let d := (s.x3 + pN - s.z3) % pN
 let da := d * a % pN
 let cb := c * b % pN
 let x := (da + cb) % pN
 let z := (da + pN - cb) % pN
 ⟨aa * bb % pN, e * ((aa + 121665 * e) % pN) % pN, x * x % pN, u * (z * z % pN) % pN⟩
theorem stepNK_eq (u : Nat) (s : LN) (K : LN → β) : stepNK u s K = K (stepN u s) := by simp only [stepNK, fcN_eq, stepN]
def swapN (b : Nat) (s : LN) : LN :=
 match b with
 | 0 => s
 | _ + 1 => ⟨s.x3, s.z3, s.x2, s.z2⟩
def goN (k u : Nat) : Nat → LN
 | 0 => ⟨1, 0, u, 1⟩
 | n + 1 => swapN (k / 2 ^ (254 - n) % 2) (stepN u (swapN (k / 2 ^ (254 - n) % 2) (goN k u n)))
def goNK (k u : Nat) : Nat → (LN → β) → β
 | 0, K => K ⟨1, 0, u, 1⟩
 | n + 1, K => goNK k u n fun s => fcN (k / 2 ^ (254 - n) % 2) fun b => stepNK u (swapN b s) fun s => K (swapN b s)
theorem goNK_eq (k u : Nat) : ∀ (n : Nat) (K : LN → β), goNK k u n K = K (goN k u n)
 | 0, _ => rfl
 | n + 1, K => by rw [goNK, goNK_eq k u n, fcN_eq, stepNK_eq]; rfl
def powN (z : Nat) : Nat → Nat → Nat → Nat
 | 0, _, a => a
 | m + 1, e, a => powN (z * z % pN) m (e / 2) (match e % 2 with | 0 => a | _ + 1 => a * z % pN)
def powNK (z : Nat) : Nat → Nat → Nat → (Nat → β) → β
 | 0, _, a, K => K a
 | m + 1, e, a, K => fcN (z * z % pN) fun z' => fcN (e / 2) fun e' => fcN (match e % 2 with | 0 => a | _ + 1 => a * z % pN) fun a' => powNK z' m e' a' K
theorem powNK_eq : ∀ (m z e a : Nat) (K : Nat → β), powNK z m e a K = K (powN z m e a)
 | 0, _, _, _, _ => rfl
 | m + 1, z, e, a, K => by rw [powNK, fcN_eq, fcN_eq, fcN_eq, powNK_eq m]; rfl
def invN (z : Nat) : Nat := powN z 255 (pN - 2) 1
def trimN (k : Nat) : Nat := k % 28948022309329048855892746252171976963317496166410141009864396001978282409984 - k % 8 + 28948022309329048855892746252171976963317496166410141009864396001978282409984
def timesL (ks us : List Int) : List Int :=
 let s := goN (trimN (numN ks)) (numN us % 57896044618658097711785492504343953926634992332820282019728792003956564819968) 255
 bytsN 32 (s.x2 * invN s.z2 % pN)
def timesK (ks us : List Int) (K : List Int → β) : β :=
 numK ks fun k => numK us fun u => fcN (trimN k) fun k => fcN (u % 57896044618658097711785492504343953926634992332820282019728792003956564819968) fun u => goNK k u 255 fun s =>
  powNK s.z2 255 (pN - 2) 1 fun i => fcN (s.x2 * i % pN) fun n => bytsK 32 n K
theorem timesK_eq (ks us : List Int) (K : List Int → β) : timesK ks us K = K (timesL ks us) := by
 rw [timesK, numK_eq, numK_eq, fcN_eq, fcN_eq, goNK_eq, powNK_eq, fcN_eq, bytsK_eq]
 rfl
def polyGo (r : Nat) : Nat → List Int → Nat → Nat
 | 0, _, a => a
 | m + 1, l, a => match l with
  | [] => a
  | x :: l => polyGo r m ((x :: l).drop 16) ((a + (numN ((x :: l).take 16) + 256 ^ ((x :: l).take 16).length)) % qP * r % qP)
def polyGoK (r : Nat) : Nat → List Int → Nat → (Nat → β) → β
 | 0, _, a, K => K a
 | m + 1, l, a, K => match l with
  | [] => K a
  | x :: l => fcL ((x :: l).drop 16) fun l' => numK ((x :: l).take 16) fun n => fcN ((a + (n + 256 ^ ((x :: l).take 16).length)) % qP * r % qP) fun a => polyGoK r m l' a K
theorem polyGoK_eq (r : Nat) : ∀ (m : Nat) (l : List Int) (a : Nat) (K : Nat → β), polyGoK r m l a K = K (polyGo r m l a)
 | 0, _, _, _ => rfl
 | m + 1, [], _, _ => rfl
 | m + 1, x :: l, a, K => by
  rw [polyGoK, fcL_eq, numK_eq, fcN_eq, polyGoK_eq r m]
  rfl
def clampN (r : Nat) : Nat := Nat.land r 21267647620597763993911028882763415551
def sumPL (ks bs : List Int) : List Int :=
 bytsN 16 (polyGo (clampN (numN (ks.take 16))) (bs.length / 16 + 1) bs 0 + numN (ks.drop 16))
def sumPK (ks bs : List Int) (K : List Int → β) : β :=
 fcL ks fun ks => fcL bs fun bs => numK (ks.take 16) fun r => fcN (clampN r) fun r => polyGoK r (bs.length / 16 + 1) bs 0 fun a => numK (ks.drop 16) fun s => fcN (a + s) fun n => bytsK 16 n K
theorem sumPK_eq (ks bs : List Int) (K : List Int → β) : sumPK ks bs K = K (sumPL ks bs) := by
 rw [sumPK, fcL_eq, fcL_eq, numK_eq, fcN_eq, polyGoK_eq, numK_eq, fcN_eq, bytsK_eq]
 rfl
end
noncomputable def F67 : Spec := fun args mem => match args, mem with
 | [.arr l1 .u8 32 ks, .arr l2 .u8 32 us], [] => timesK ks us fun l => .leaf ⟨.arr (l1 && l2) .u8 32 l, []⟩
 | _, _ => .fail
noncomputable def F213 : Spec := fun args mem => match args, mem with
 | [.arr l1 .u8 32 ks, .arr l2 .u8 32 us], [] => numK ks fun k => numK us fun u => .leaf ⟨.bool (l1 && l2) (Nat.beq (k % pN) (u % pN)), []⟩
 | _, _ => .fail
noncomputable def F234L : Spec := fun args mem => match args, mem with
 | [.arr _ .u8 32 ks, .vec i], [.cells o t [.row ln lc .u8 n xs]] =>
  gd (Nat.beq i 13) (leT ln n 281474976710656 (.leaf ⟨.arr false .u8 16 (sumPL ks xs), [.cells o t [.row ln lc .u8 n xs]]⟩))
 | _, _ => .fail
end
section
def condE : Code → Code
 | .cond _ _ y => y
 | c => c
theorem dec_closure (v0 v1 : Value) (w : World) : CallsD Tryz.prog 122 #[v0, v1] .returning w (fun e u' w' => (∃ v, e = .returned v) ∧ u' = .returning ∧ w' = w) := by
 refine callsD_of_wpS Tryz.func122 (c := bodyC Tryz.f122) (by kernel_rfl) (fun c₀ cs hm => ?_)
 have e : bodyC Tryz.f122 = .seq (seqL (bodyC Tryz.f122)) (seqR (bodyC Tryz.f122)) := by kernel_rfl
 rw [e]
 refine wpS_seq ?_
 have e1 : seqL (bodyC Tryz.f122) = .region 0 #[{ dst := some 5, op := .call { callee := .builtin .recover, args := #[], argTypes := #[] }, type := 20, pos := "frames.go:185", after := #[], guard := none }] false := by kernel_rfl
 rw [e1]
 apply wpS_region
 simp [wpOpsS, go_sem, recoverD, hm, Exit.thenS]
 have e2 : seqR (bodyC Tryz.f122) = .block 0 (.seq (.region 3 #[{ dst := some 7, op := .binOp .eql 20 (.tmp 5) (.const .nilIface) 20, type := 4, pos := "frames.go:185", after := #[], guard := none }] false)
   (.cond (.tmp 7) (.region 4 #[{ dst := some 2, op := .assign (.tmp 5), type := 20, pos := "frames.go:185", after := #[], guard := none }] false) (condE (seqR (blkC (seqR (bodyC Tryz.f122))))))) := by kernel_rfl
 rw [e2]
 refine wpS_of_wp (wp_block (wp_seq ?_))
 apply wp_region
 simp [wpOps, go_sem, Exit.then]
 refine Or.inl (wp_cond_true (by simp [Act.eval, Array.replicate]) ?_)
 apply wp_region
 simp [wpOps, go_sem, Exit.inBlock]
 refine Or.inl ?_
 have hr : ∀ tmps : Array Value, (results Tryz.f122 tmps).run Tryz.prog w = .ok (.tuple #[]) w := fun tmps => by
  have h0 : Tryz.f122.results = #[] := by kernel_rfl
  unfold results
  rw [h0]
  simp
 refine ⟨rfl, .returning, ?_, _, hr _, ⟨_, rfl⟩, rfl, rfl⟩
 cases c₀
 simp only at hm
 subst hm
 rfl
theorem RelL.rebase {gl : List Blk} {B B' : Base} {loc : Loc} {fm : Fm} {n : Nat} {tm tm' : Nat → A} {lk : Lk} {a a' : Act} {w : World} (h : RelL gl B loc fm n tm lk a w)
  (h1 : B'.lim = B.lim) (h2 : B'.loc0 = B.loc0) (h3 : B'.fm0 = B.fm0) (h4 : B'.own = B.own) (h5 : B'.W = B.W) (hs : a'.tmps.size = n) (ht : ∀ t, t < n → VR loc fm lk (tm' t) (a'.tmps.getD t Go.undef)) (hf : ∀ t, n ≤ t → tm' t = .any) (hd : a'.defers = B'.defs) : RelL gl B' loc fm n tm' lk a' w := by
 obtain ⟨W, lim, loc0, fm0, own, defs⟩ := B
 obtain ⟨W', lim', loc0', fm0', own', defs'⟩ := B'
 simp only at h1 h2 h3 h4 h5
 subst h1 h2 h3 h4 h5
 exact ⟨h.fix, h.glob, hs, ht, hf, hd, h.heap, h.new, h.frz, h.fm, ⟨h.fr.os, h.fr.tape, h.fr.output, h.fr.size, h.fr.block⟩⟩
noncomputable def decB : Code := bodyC Tryz.f52
noncomputable def decR : Code := seqR (seqR decB)
def isAny : A → Bool
 | .any => true
 | _ => false
noncomputable def decRun (l : Cons) : Spec := fun args mem => gd (Nat.ble args.length 28) (exec (cxE l 28) 100000 (seqL decB) (s0 tc args mem) fun ex s1 => match ex with
 | .normal => gd (isAny (tmOf s1 5)) (exec (cxE l 28) 100000 decR s1 fun ex s' => match ex with
  | .exit _ => .fail
  | _ => shutS tc Tryz.f52 mem.length s')
 | _ => .fail)
theorem decRun_ok {l : Cons} (hl : ConsOk l) : FnOk Tryz.prog gl 52 (decRun l) := by
 intro args mem r h
 unfold decRun at h
 obtain ⟨hlen, h⟩ := Tr.is_gd.1 h
 have hC : (cxE l 28).Ok := cxE_ok hl 28
 have hb : Tryz.f52.body = some decB := by kernel_rfl
 intro loc fm W vs hV hH hg
 refine Or.inl ⟨run_callFunc (C := tc) Tryz.func52 hb (by decide), calls_of_wp_defers Tryz.func52 hb ?_⟩
 have e0 : decB = .seq (seqL decB) (.seq (.region 1 #[{ dst := some 5, op := .makeFunc (.func 122) #[] #[.tmp 2, .tmp 3], type := 1, pos := "frames.go:184", after := #[], guard := none },
   { dst := none, op := .defer { callee := .value (.tmp 5), args := #[], argTypes := #[] }, type := 0, pos := "frames.go:184", after := #[{ on := 0, ground := .data }], guard := none }] false) decR) := by kernel_rfl
 have hsz : args.length ≤ Tryz.f52.ntmps := Nat.le_of_ble_eq_true hlen
 have hR := rel_s0 (C := tc) hC.ro hsz hV hH hg
 rw [e0]
 refine wp_seq (exec_wp hC 100000 (seqL decB) _ _ _ _ _ h hR (fun ex s' a w hk hR' => ?_))
 cases ex with
 | exit id => exact hk.elim
 | ret => exact hk.elim
 | normal =>
 obtain ⟨h5, hk⟩ := Tr.is_gd.1 hk
 replace h5 : tmOf s' 5 = .any := by
  revert h5
  cases tmOf s' 5 <;> first | exact fun _ => rfl | (intro h; cases h)
 show Code.wp Tryz.prog _ _ a w
 obtain ⟨loc1, fm1, hL⟩ := hR'
 have hs : a.tmps.size = 28 := hL.size
 have hs5 : 5 < a.tmps.size := by omega
 refine wp_seq ?_
 apply wp_region
 simp [wpOps, go_sem, Exit.then, hs5]
 refine Or.inl (Or.inl ?_)
 have hd : a.defers = [] := hL.defers
 rw [hd]
 have hL2 : RelL gl { baseOf gl mem loc fm W with defs := [{ target := .fn (.func 122) #[a.tmps[2]?.getD undef, a.tmps[3]?.getD undef], args := #[] }] } loc1 fm1 28 (tmOf s') (look s'.h)
   { tmps := a.tmps.setIfInBounds 5 (Value.func (Fn.func 122) #[] #[a.tmps[2]?.getD undef, a.tmps[3]?.getD undef]), defers := [{ target := .fn (.func 122) #[a.tmps[2]?.getD undef, a.tmps[3]?.getD undef], args := #[] }] } w := by
  refine hL.rebase rfl rfl rfl rfl rfl (by simp [hs]) (fun t ht => ?_) hL.far rfl
  by_cases h : t = 5
  ·subst h
   rw [h5]
   exact VR_any _
  ·have := hL.tmps t ht
   simpa [Array.getElem?_setIfInBounds_ne (Ne.symm h)] using this
 refine exec_wp hC 100000 decR _ _ _ _ _ hk ⟨loc1, fm1, hL2⟩ (fun ex s2 a2 w2 hr hR2 => ?_)
 have hex : ex = .normal ∨ ex = .ret := by
  cases ex with
  | exit id => exact hr.elim
  | normal => exact Or.inl rfl
  | ret => exact Or.inr rfl
 replace hr : (shutS tc Tryz.f52 mem.length s2).is r := by
  rcases hex with rfl | rfl <;> exact hr
 obtain ⟨loc2, fm2, hL3⟩ := hR2
 have hL4 : RelL gl (baseOf gl mem loc fm W) loc2 fm2 28 (tmOf s2) (look s2.h) { a2 with defers := [] } w2 := hL3.rebase rfl rfl rfl rfl rfl hL3.size hL3.tmps hL3.far rfl
 unfold shutS at hr
 obtain ⟨li, hl1, hr⟩ := Tr.is_bind.1 hr
 obtain ⟨u, hu, hvu⟩ := results_ok (C := tc) hL4 hl1
 have hlv : Leaves Tryz.prog Tryz.f52 a2.tmps (Ends gl mem loc fm W r) a2.defers .returning w2 := by
  rw [show a2.defers = _ from hL3.defers]
  refine leaves_cons (fun e => by cases e) (f := 122) (args := #[a.tmps[2]?.getD undef, a.tmps[3]?.getD undef]) ?_ ?_
  ·simp [go_sem, invoke]
  ·refine (dec_closure _ _ w2).mono (fun e u' w' hq => ?_)
   obtain ⟨⟨v, rfl⟩, rfl, rfl⟩ := hq
   exact ⟨u, hu, shut_ok (C := tc) hC hL4 hr hvu⟩
 rcases hex with rfl | rfl
 ·exact hlv
 ·exact hlv
end
section
def condT : Code → Code
 | .cond _ x _ => x
 | c => c
noncomputable def cloB : Code := bodyC Tryz.f69
noncomputable abbrev cx0 : Cx := cxE [] 8
def subO (off len : Nat) (xs : List Int) : List Int := (xs.drop off).take len
theorem clo_run (o : Bool) (t : TypeId) (off len n : Nat) (cap : Option Nat) (xs : List Int) :
  (exec cx0 1000 (seqR (seqR cloB)) (stM gl [(0, .slc false 13 0 off len cap), (2, nilA), (4, .bool true false)] [.cells o t [.row false false .u8 n xs]]) fun ex s' => match ex with
   | .exit _ => .fail
   | _ => shutS tc Tryz.f69 1 s').walk [] [] = some ([(subO off len xs).length * 1 ≤ 140737488355328 ∧ (subO off len xs).length < lim63], ⟨.vec 14, [.cells o t [.row false false .u8 n xs], .cells true 5 [.row false false .u8 (subO off len xs).length (subO off len xs)]]⟩) := by kernel_rfl
theorem clo_nil (o : Bool) (t : TypeId) (n : Nat) (xs : List Int) :
  (callRun tc ((env []).fn 20) Tryz.f69 1000 [nilA] [.cells o t [.row false false .u8 n xs]]).walk [] [] = some ([], ⟨nilA, [.cells o t [.row false false .u8 n xs]]⟩) := by kernel_rfl
theorem VR_valI {loc : Loc} {fm : Fm} {lk : Lk} (v : Value) : VR loc fm lk (.val v) v := rfl
theorem VR_boolI {loc : Loc} {fm : Fm} {lk : Lk} (l b : Bool) : VR loc fm lk (.bool l b) (.bool b) := rfl
theorem tm3 (l c : A) (m : List Blk) : tmOf (stM gl [(0, l), (2, nilA), (4, c)] m) = fun i => if i = 4 then c else if i = 2 then nilA else if i = 0 then l else .any := by
 funext i
 show tget (tmL [(0, l), (2, nilA), (4, c)]) i = _
 have e : tmL [(0, l), (2, nilA), (4, c)] = tsetK (tsetK (tsetK .nil 0 l id) 2 nilA id) 4 c id := rfl
 rw [e, tget_tset, tget_tset, tget_tset]
 rfl
theorem clo_con (o : Bool) (t : TypeId) (off len : Nat) (cap : Option Nat) (xs : List Int) (h1 : off + len ≤ xs.length) (h2 : len ≤ 140737488355328) :
  Con Tryz.prog gl 69 [.slc false 13 0 off len cap] [.cells o t [.row false false .u8 xs.length xs]] ⟨.vec 14, [.cells o t [.row false false .u8 xs.length xs], .cells true 5 [.row false false .u8 len (subO off len xs)]]⟩ := by
 have hsl : (subO off len xs).length = len := by unfold subO; simp; omega
 intro loc fm W vs hV hH hg
 obtain ⟨v, r', rfl, hv, hr'⟩ := hV
 have hr' : r' = [] := hr'
 subst hr'
 have hv0 : VC loc fm (lkOf gl [.cells o t [.row false false .u8 xs.length xs]]) (.slc false 13 0 off len cap) [v] := hv
 obtain ⟨a, c, ev, x1, x2, x3, x4, x5, x6⟩ := hv0
 simp only [List.cons.injEq, and_true] at ev
 subst ev
 by_cases ha : a = none
 ·subst ha
  have hc : c = 0 := by
   rcases Nat.eq_zero_or_pos c with h | h
   ·exact h
   ·cases x4 h
  subst hc
  have hl : len = 0 := by omega
  subst hl
  have e0 : subO off 0 xs = [] := by unfold subO; simp
  rw [e0]
  have hn := con_walk (args := [nilA]) (r := ⟨nilA, [.cells o t [.row false false .u8 xs.length xs]]⟩) cons0 Tryz.func69 1000 (clo_nil o t xs.length xs) conj_nil
  have hn2 := con_nil_out (e := 5) (p0 := .row false false .u8 0 []) (m' := [.cells o t [.row false false .u8 xs.length xs]]) ⟨rfl, rfl⟩ (Nat.le_refl _) (.cons (.keep _) .nil) .turn hn
  exact hn2 loc fm W [.slice none 0 0] ⟨_, [], rfl, rfl, rfl⟩ hH hg
 ·obtain ⟨ad, rfl⟩ : ∃ ad, a = some ad := by
   cases a with
   | none => exact absurd rfl ha
   | some ad => exact ⟨ad, rfl⟩
  have hC : cx0.Ok := cxE_ok cons0 8
  have hb : Tryz.f69.body = some cloB := by kernel_rfl
  refine Or.inl ⟨run_callFunc (C := tc) Tryz.func69 hb (by decide), calls_of_wp Tryz.func69 hb ?_⟩
  have e1 : cloB = .seq (.region 0 #[{ dst := some 2, op := .assign (.const (.slice none 0 0)), type := 32, pos := "slices.go:355", after := #[], guard := none }] false)
   (.seq (.seq (.region 1 #[{ dst := some 3, op := .move (.tmp 0), type := 32, pos := "slices.go:357", after := #[], guard := none }, { dst := some 4, op := .binOp .eql 32 (.tmp 3) (.const (.slice none 0 0)) 32, type := 4, pos := "slices.go:357", after := #[{ on := 0, ground := .data }], guard := none }] false)
    (.cond (.tmp 4) (condT (seqR (seqL (seqR cloB)))) .skip)) (seqR (seqR cloB))) := by kernel_rfl
  have hu : Tryz.prog.underlying 32 = some (.slice 5) := by kernel_rfl
  have heq : ∀ w : World, (Op.equal 32 (.slice (some ad) len c) (.slice none 0 0)).run Tryz.prog w = .ok false w := fun w => by
   unfold Op.equal Op.maxDepth Op.equalIn
   simp [run_underlying hu]
  rw [e1]
  refine wp_seq ?_
  apply wp_region
  simp [wpOps, go_sem, Exit.then]
  refine Or.inl ?_
  have hbin : (binOp .eql 32 (.slice (some ad) len c) (.slice none 0 0)).run Tryz.prog W = .ok (.bool false) W := by simp [binOp, heq]
  refine wp_seq (wp_seq ?_)
  apply wp_region
  simp [wpOps, go_sem, Exit.then, hbin, Oper.upon]
  refine Or.inl (Or.inl (wp_cond_false (by simp [Act.eval, Array.replicate]) (wp_skip ?_)))
  show Code.wp Tryz.prog _ _ _ W
  obtain ⟨loc1, fm1, hL⟩ := rel_s0 (C := tc) (n := 8) hC.ro (args := [.slc false 13 0 off len cap]) (mem := [.cells o t [.row false false .u8 xs.length xs]]) (loc := loc) (fm := fm) (W := W) (vals := [.slice (some ad) len c]) (by simp) ⟨_, [], rfl, hv, rfl⟩ hH hg
  have et : #[Value.slice (some ad) len c] ++ (((Array.replicate 7 undef).setIfInBounds 1 (.slice none 0 0)).setIfInBounds 2 (.slice (some ad) len c)).setIfInBounds 3 (.bool false) = #[.slice (some ad) len c, undef, .slice none 0 0, .slice (some ad) len c, .bool false, undef, undef, undef] := rfl
  rw [et]
  have hL2 : RelL gl (baseOf gl [.cells o t [.row false false .u8 xs.length xs]] loc fm W) loc1 fm1 8 (tmOf (stM gl [(0, .slc false 13 0 off len cap), (2, nilA), (4, .bool true false)] [.cells o t [.row false false .u8 xs.length xs]])) (look (stM gl [(0, .slc false 13 0 off len cap), (2, nilA), (4, .bool true false)] [.cells o t [.row false false .u8 xs.length xs]]).h)
    { tmps := #[.slice (some ad) len c, undef, .slice none 0 0, .slice (some ad) len c, .bool false, undef, undef, undef], defers := [] } W := by
   rw [tm3]
   have k0 : tmOf (s0 tc [.slc false 13 0 off len cap] [.cells o t [.row false false .u8 xs.length xs]]) 0 = .slc false 13 0 off len cap := by
    show tget (zipN [.slc false 13 0 off len cap]) 0 = _
    rw [tget_zipN]
    rfl
   have h0 := hL.tmps 0 (by decide)
   rw [k0] at h0
   refine hL.rebase rfl rfl rfl rfl rfl (by simp) (fun i hi => ?_) (fun i hi => ?_) rfl
   ·rcases (by omega : i = 0 ∨ i = 2 ∨ i = 4 ∨ (i ≠ 0 ∧ i ≠ 2 ∧ i ≠ 4)) with rfl | rfl | rfl | ⟨q0, q2, q4⟩
    ·exact h0
    ·exact VR_valI _
    ·exact VR_boolI _ _
    ·simp only [if_neg q0, if_neg q2, if_neg q4]
     exact VR_any _
   ·simp only [if_neg (show ¬ i = 0 by omega), if_neg (show ¬ i = 2 by omega), if_neg (show ¬ i = 4 by omega)]
  refine exec_wp hC 1000 (seqR (seqR cloB)) _ _ _ _ _ (walk_is (clo_run o t off len xs.length cap xs) ?_) ⟨loc1, fm1, hL2⟩ (fun ex s2 a2 w2 hr hR2 => ?_)
  ·rw [hsl]
   exact ⟨⟨by omega, by show len < 9223372036854775808; omega⟩, trivial⟩
  ·rw [hsl] at hr
   have hex : ex = .normal ∨ ex = .ret := by
    cases ex with
    | exit id => exact hr.elim
    | normal => exact Or.inl rfl
    | ret => exact Or.inr rfl
   replace hr : (shutS tc Tryz.f69 1 s2).is ⟨.vec 14, [.cells o t [.row false false .u8 xs.length xs], .cells true 5 [.row false false .u8 len (subO off len xs)]]⟩ := by
    rcases hex with rfl | rfl <;> exact hr
   obtain ⟨loc2, fm2, hL3⟩ := hR2
   unfold shutS at hr
   obtain ⟨li, hl1, hr⟩ := Tr.is_bind.1 hr
   obtain ⟨u, hu, hvu⟩ := results_ok (C := tc) hL3 hl1
   have hfin : a2.defers = [] ∧ ∃ v, (results Tryz.f69 a2.tmps).run Tryz.prog w2 = .ok v w2 ∧ Ends gl [.cells o t [.row false false .u8 xs.length xs]] loc fm W ⟨.vec 14, [.cells o t [.row false false .u8 xs.length xs], .cells true 5 [.row false false .u8 len (subO off len xs)]]⟩ (.returned v) w2 :=
    ⟨hL3.defers, u, hu, shut_ok (C := tc) hC (mem := [.cells o t [.row false false .u8 xs.length xs]]) hL3 hr hvu⟩
   rcases hex with rfl | rfl
   ·exact hfin
   ·exact hfin
theorem clo_conv (o : Bool) (t : TypeId) (xs : List Int) (h2 : xs.length ≤ 140737488355328) :
  Con Tryz.prog gl 69 [.vec 13] [.cells o t [.row false false .u8 xs.length xs]] ⟨.vec 14, [.cells o t [.row false false .u8 xs.length xs], .cells true 5 [.row false false .u8 xs.length xs]]⟩ := by
 refine con_part (.turn (o := o) (t := t) (p := .row false false .u8 xs.length xs) false rfl .nil) ?_
 have := clo_con o t 0 xs.length none xs (by omega) h2
 rw [show subO 0 xs.length xs = xs from by unfold subO; simp] at this
 exact this
theorem clo_nil0 : (callRun tc ((env []).fn 20) Tryz.f69 1000 [nilA] []).walk [] [] = some ([], ⟨nilA, []⟩) := by kernel_rfl
theorem clo_fzi (xs : List Int) : (callRun tc ((env []).fn 20) Tryz.f69 1000 [.fzi false .u8 xs] []).walk [] [] = some ([0 < xs.length, xs.length * 1 ≤ 140737488355328 ∧ xs.length < lim63], ⟨.vec 13, [.cells true 5 [.row false false .u8 xs.length xs]]⟩) := by kernel_rfl
noncomputable def F69 : Spec := fun args mem => match args, mem with
 | [.val (.slice none 0 0)], [] => .leaf ⟨nilA, []⟩
 | [.fzi l .u8 xs], [] => ltT l 0 xs.length (leT l xs.length 140737488355328 (.leaf ⟨.vec 13, [.cells true 5 [.row l false .u8 xs.length xs]]⟩))
 | [.vec i], [.cells o t [.row ln lc .u8 n xs]] => gd (Nat.beq i 13) (leT ln n 140737488355328 (.leaf ⟨.vec 14, [.cells o t [.row ln lc .u8 n xs], .cells true 5 [.row ln lc .u8 n xs]]⟩))
 | [.slc l i 0 off len _], [.cells o t [.row ln lc .u8 n xs]] => gd (Nat.beq i 13) (leT (l && ln) (off + len) n (leT l len 140737488355328 (.leaf ⟨.vec 14, [.cells o t [.row ln lc .u8 n xs], .cells true 5 [.row l lc .u8 len (subL (l && ln) off len n xs)]]⟩)))
 | _, _ => .fail
theorem f69_ok : FnOk Tryz.prog gl 69 F69 := by
 intro args mem r h
 unfold F69 at h
 split at h
 case h_5 => exact h.elim
 ·have h := Tr.is_leaf.1 h
  subst h
  exact con_walk cons0 Tryz.func69 1000 clo_nil0 conj_nil
 ·rename_i l xs
  obtain ⟨h1, h⟩ := Tr.is_lt.1 h
  obtain ⟨h2, h⟩ := Tr.is_le.1 h
  have h := Tr.is_leaf.1 h
  subst h
  exact con_walk cons0 Tryz.func69 1000 (clo_fzi xs) ⟨h1, ⟨by omega, by show _ < 9223372036854775808; omega⟩, trivial⟩
 ·rename_i i o t ln lc n xs
  obtain ⟨h1, h⟩ := Tr.is_gd.1 h
  obtain ⟨h2, h⟩ := Tr.is_le.1 h
  have h := Tr.is_leaf.1 h
  subst h
  rw [Nat.eq_of_beq_eq_true h1]
  refine con_wf fun _ hm => ?_
  have e : xs.length = n := hm.1.1.1
  subst e
  exact con_to (clo_conv o t xs h2)
 ·rename_i l i off len cap o t ln lc n xs
  obtain ⟨h1, h⟩ := Tr.is_gd.1 h
  obtain ⟨h2, h⟩ := Tr.is_le.1 h
  obtain ⟨h3, h⟩ := Tr.is_le.1 h
  have h := Tr.is_leaf.1 h
  subst h
  rw [Nat.eq_of_beq_eq_true h1]
  refine con_wf fun _ hm => ?_
  have e : xs.length = n := hm.1.1.1
  subst e
  rw [subL_eq rfl]
  exact con_to (clo_con o t off len cap xs h2 h3)
theorem f69_still : Still F69 := by
 intro args mem r h
 unfold F69 at h
 split at h
 case h_5 => exact h.elim
 ·have h := Tr.is_leaf.1 h
  subst h
  exact ⟨_, rfl⟩
 ·have h := Tr.is_leaf.1 (Tr.is_le.1 (Tr.is_lt.1 h).2).2
  subst h
  exact ⟨_, rfl⟩
 ·have h := Tr.is_leaf.1 (Tr.is_le.1 (Tr.is_gd.1 h).2).2
  subst h
  exact ⟨_, rfl⟩
 ·have h := Tr.is_leaf.1 (Tr.is_le.1 (Tr.is_le.1 (Tr.is_gd.1 h).2).2).2
  subst h
  exact ⟨_, rfl⟩
end
end Go.Proofs.YtiojkpgcmhlhnaaGreatDoor.Ty
