/-
  The contracts of aead, kdf, guard, frames, packet and window.
-/
import Derived.Test.YtiojkpgcmhlhnaaGreatDoorTkE
import Derived.Test.YtiojkpgcmhlhnaaGreatDoorTkD
namespace Go.Proofs.YtiojkpgcmhlhnaaGreatDoor.Ty
open Go
set_option maxRecDepth 100000
set_option linter.unusedSimpArgs false
set_option linter.unusedVariables false
section
theorem tmod16 (i : Nat) : Int.tmod (i : Int) 16 = ((i % 16 : Nat) : Int) := by
 rw [Int.tmod_eq_emod_of_nonneg (by omega)]; rfl
def zN (n : Nat) : Nat := Int.toNat (Int.tmod (16 - Int.tmod (n : Int) 16) 16)
theorem zN_lt (n : Nat) : zN n < 16 := by
 unfold zN
 rw [tmod16, Int.tmod_eq_emod_of_nonneg (by omega)]
 omega
def padZ (xs : List Int) : List Int := xs ++ List.replicate (zN xs.length) 0
theorem padZ_length (xs : List Int) : (padZ xs).length = xs.length + zN xs.length := by simp [padZ]
theorem pad_run (o : Bool) (t : TypeId) (xs : List Int) (n : Nat) : (callRun tc ((env []).fn 20) Tryz.f233 1000 [.vec 13] [.cells true 5 [.row false false .u8 n xs]]).walk [] [] =
  some ([(16 : Int) ≠ 0, IntKind.i64.wrap (16 - Int.tmod (n : Int) 16) = 16 - Int.tmod (n : Int) 16, (16 : Int) ≠ 0, 0 ≤ Int.tmod (16 - Int.tmod (n : Int) 16) 16 ∧ Int.tmod (16 - Int.tmod (n : Int) 16) 16 * 1 ≤ 281474976710656,
   (xs ++ List.replicate (zN n) 0).length * 1 ≤ 140737488355328 ∧ (xs ++ List.replicate (zN n) 0).length < 9223372036854775808],
   ⟨.vec 14, [.dead, .cells true 5 [.row false false .u8 (xs ++ List.replicate (zN n) 0).length (xs ++ List.replicate (zN n) 0)]]⟩) := by kernel_rfl
noncomputable def F233 : Spec := fun args mem => match args, mem with
 | [.vec i], [.cells true 5 [.row ln _ .u8 n xs]] => gd (Nat.beq i 13) (leT ln n 70368744177664 (.leaf ⟨.vec 14, [.dead, .cells true 5 [.row ln false .u8 (n + zN n) (padZ xs)]]⟩))
 | _, _ => .fail
theorem f233_ok : FnOk Tryz.prog gl 233 F233 := by
 intro args mem r h
 unfold F233 at h
 split at h
 case h_2 => exact h.elim
 rename_i i ln lc n xs
 obtain ⟨h1, h⟩ := Tr.is_gd.1 h
 obtain ⟨h2, h⟩ := Tr.is_le.1 h
 have h := Tr.is_leaf.1 h
 subst h
 rw [Nat.eq_of_beq_eq_true h1]
 refine con_wf fun _ hm => ?_
 have e : xs.length = n := hm.1.1.1
 subst e
 have hz := zN_lt xs.length
 have run := pad_run true 5 xs xs.length
 have el : (xs ++ List.replicate (zN xs.length) 0).length = xs.length + zN xs.length := by simp
 rw [el] at run
 have hm16 : Int.tmod (xs.length : Int) 16 = ((xs.length % 16 : Nat) : Int) := tmod16 _
 refine con_walk cons0 Tryz.func233 1000 run ⟨by decide, I64.wrap ⟨by omega, by omega⟩, by decide, ⟨?_, ?_⟩, ⟨by omega, by omega⟩, trivial⟩
 ·rw [hm16, Int.tmod_eq_emod_of_nonneg (by omega)]; omega
 ·rw [hm16, Int.tmod_eq_emod_of_nonneg (by omega)]; omega
noncomputable abbrev kTag : Cons := [(232, F232L), (234, F234L), (69, F69), (233, F233)]
def b1 (v q : Int) : List Int := [byteX v q]
def apB (v : Int) (X : List Int) : List Int := X ++ b1 v 1 ++ b1 v 256 ++ b1 v 65536 ++ b1 v 16777216 ++ b1 v 4294967296 ++ b1 v 1099511627776 ++ b1 v 281474976710656 ++ b1 v 72057594037927936
def macText (bs cs : List Int) : List Int := apB cs.length (apB bs.length (padZ (padZ bs ++ cs)))
def tagL (ks ns bs cs : List Int) : List Int := sumPL (((blockL ks 0 ns).drop 0).take 32) (macText bs cs)
def obR (X : List Int) : Prop := X.length * 1 ≤ 140737488355328 ∧ X.length < lim63
def obA (v : Int) (X : List Int) : List Prop := [(0 : Int) ≤ 0, obR (X ++ b1 v 1), (0 : Int) ≤ 8, obR (X ++ b1 v 1 ++ b1 v 256), (0 : Int) ≤ 16, obR (X ++ b1 v 1 ++ b1 v 256 ++ b1 v 65536), (0 : Int) ≤ 24, obR (X ++ b1 v 1 ++ b1 v 256 ++ b1 v 65536 ++ b1 v 16777216),
 (0 : Int) ≤ 32, obR (X ++ b1 v 1 ++ b1 v 256 ++ b1 v 65536 ++ b1 v 16777216 ++ b1 v 4294967296), (0 : Int) ≤ 40, obR (X ++ b1 v 1 ++ b1 v 256 ++ b1 v 65536 ++ b1 v 16777216 ++ b1 v 4294967296 ++ b1 v 1099511627776),
 (0 : Int) ≤ 48, obR (X ++ b1 v 1 ++ b1 v 256 ++ b1 v 65536 ++ b1 v 16777216 ++ b1 v 4294967296 ++ b1 v 1099511627776 ++ b1 v 281474976710656), (0 : Int) ≤ 56, obR (apB v X)]
theorem tag_run (o o' : Bool) (t t' : TypeId) (n m k : Nat) (cap : Option Nat) (ks ns bs cs : List Int) :
  (callRun tc ((env kTag).fn 20) Tryz.f182 1000 [.arr false .u8 32 ks, .arr false .u8 12 ns, .vec 13, .slc false 14 0 0 m cap] [.cells o t [.row false false .u8 n bs], .cells o' t' [.row false false .u8 k cs]]).walk [] [] =
   some ([n ≤ 140737488355328, n ≤ 70368744177664, obR (padZ bs ++ subL false 0 m k cs), (padZ bs ++ subL false 0 m k cs).length ≤ 70368744177664] ++ (obA n (padZ (padZ bs ++ subL false 0 m k cs)) ++ (obA m (apB n (padZ (padZ bs ++ subL false 0 m k cs))) ++ [(apB m (apB n (padZ (padZ bs ++ subL false 0 m k cs)))).length ≤ 281474976710656])),
    ⟨.arr false .u8 16 (sumPL (((blockL ks 0 ns).drop 0).take 32) (apB m (apB n (padZ (padZ bs ++ subL false 0 m k cs))))), [.cells o t [.row false false .u8 n bs], .cells o' t' [.row false false .u8 k cs]]⟩) := by kernel_rfl
theorem f234L_still : Still F234L := by
 intro args mem r h
 unfold F234L at h
 split at h
 case h_2 => exact h.elim
 have h := Tr.is_leaf.1 (Tr.is_le.1 (Tr.is_gd.1 h).2).2
 subst h
 exact ⟨[], rfl⟩
theorem cTag : ConsOk kTag := ⟨fun p hp => by
  simp only [kTag, List.mem_cons, List.not_mem_nil, or_false] at hp
  rcases hp with rfl | rfl | rfl | rfl
  ·exact f232L_ok
  ·exact f234L_ok
  ·exact f69_ok
  ·exact f233_ok, fun p hp h => by
  simp only [kTag, List.mem_cons, List.not_mem_nil, or_false] at hp
  rcases hp with rfl | rfl | rfl | rfl
  ·exact f232L_still
  ·exact f234L_still
  ·exact f69_still
  ·exact absurd h (by decide)⟩
theorem obR_ok {X : List Int} (h : X.length ≤ 140737488355328) : obR X := ⟨by omega, by show _ < 9223372036854775808; omega⟩
theorem b1_length (v q : Int) : (b1 v q).length = 1 := rfl
theorem apB_length (v : Int) (X : List Int) : (apB v X).length = X.length + 8 := by simp [apB, b1]
theorem obA_ok {v : Int} {X : List Int} (h : X.length ≤ 140737488355320) : Conj (obA v X) := by
 refine ⟨by decide, obR_ok ?_, by decide, obR_ok ?_, by decide, obR_ok ?_, by decide, obR_ok ?_, by decide, obR_ok ?_, by decide, obR_ok ?_, by decide, obR_ok ?_, by decide, obR_ok ?_, trivial⟩
 all_goals simp only [List.length_append, b1_length, apB_length]
 all_goals omega
theorem tag_con (o o' : Bool) (t t' : TypeId) (m : Nat) (cap : Option Nat) (ks ns bs cs : List Int) (h1 : bs.length ≤ 1099511627776) (h2 : m ≤ cs.length) (h3 : cs.length ≤ 1099511627776) :
  Con Tryz.prog gl 182 [.arr false .u8 32 ks, .arr false .u8 12 ns, .vec 13, .slc false 14 0 0 m cap] [.cells o t [.row false false .u8 bs.length bs], .cells o' t' [.row false false .u8 cs.length cs]]
   ⟨.arr false .u8 16 (tagL ks ns bs (cs.take m)), [.cells o t [.row false false .u8 bs.length bs], .cells o' t' [.row false false .u8 cs.length cs]]⟩ := by
 have run := tag_run o o' t t' bs.length m cs.length cap ks ns bs cs
 have ec : subL false 0 m cs.length cs = cs.take m := by rw [subL_eq rfl, List.drop_zero]
 rw [ec] at run
 have hm : (cs.take m).length = m := by rw [List.length_take]; omega
 have z1 := zN_lt bs.length
 have z2 := zN_lt (padZ bs ++ cs.take m).length
 have l1 := padZ_length bs
 have l2 := padZ_length (padZ bs ++ cs.take m)
 have l3 : (padZ bs ++ cs.take m).length = bs.length + zN bs.length + m := by rw [List.length_append, l1, hm]
 have hob : Conj ([bs.length ≤ 140737488355328, bs.length ≤ 70368744177664, obR (padZ bs ++ cs.take m), (padZ bs ++ cs.take m).length ≤ 70368744177664] ++ (obA bs.length (padZ (padZ bs ++ cs.take m)) ++ (obA m (apB bs.length (padZ (padZ bs ++ cs.take m))) ++ [(apB m (apB bs.length (padZ (padZ bs ++ cs.take m)))).length ≤ 281474976710656]))) := by
  refine Conj.app ⟨by omega, by omega, obR_ok (by omega), by omega, trivial⟩ (Conj.app (obA_ok (by omega)) (Conj.app (obA_ok ?_) ⟨?_, trivial⟩))
  ·rw [apB_length]; omega
  ·rw [apB_length, apB_length]; omega
 have e : sumPL (((blockL ks 0 ns).drop 0).take 32) (apB m (apB bs.length (padZ (padZ bs ++ cs.take m)))) = tagL ks ns bs (cs.take m) := by
  unfold tagL macText
  rw [hm]
 rw [e] at run
 exact con_walk cTag Tryz.func182 1000 run hob
noncomputable def F182L : Spec := fun args mem => match args, mem with
 | [.arr _ .u8 32 ks, .arr _ .u8 12 ns, .vec i, .slc l j 0 0 m _], [.cells o t [.row ln lc .u8 n bs], .cells o' t' [.row ln' lc' .u8 k cs]] =>
  gd (Nat.beq i 13) (gd (Nat.beq j 14) (leT ln n 1099511627776 (leT (l && ln') m k (leT ln' k 1099511627776 (.leaf ⟨.arr false .u8 16 (tagL ks ns bs (cs.take m)), [.cells o t [.row ln lc .u8 n bs], .cells o' t' [.row ln' lc' .u8 k cs]]⟩)))))
 | _, _ => .fail
theorem f182L_ok : FnOk Tryz.prog gl 182 F182L := by
 intro args mem r h
 unfold F182L at h
 split at h
 case h_2 => exact h.elim
 rename_i _ ks _ ns i l j m cap o t ln lc n bs o' t' ln' lc' k cs
 obtain ⟨h1, h⟩ := Tr.is_gd.1 h
 obtain ⟨h2, h⟩ := Tr.is_gd.1 h
 obtain ⟨h3, h⟩ := Tr.is_le.1 h
 obtain ⟨h4, h⟩ := Tr.is_le.1 h
 obtain ⟨h5, h⟩ := Tr.is_le.1 h
 have h := Tr.is_leaf.1 h
 subst h
 rw [Nat.eq_of_beq_eq_true h1, Nat.eq_of_beq_eq_true h2]
 refine con_wf fun _ hm => ?_
 have e1 : bs.length = n := hm.1.1.1
 have e2 : cs.length = k := hm.2.1.1.1
 subst e1
 subst e2
 exact con_to (tag_con o o' t t' m cap ks ns bs cs h3 h4 h5)
theorem f182L_still : Still F182L := by
 intro args mem r h
 unfold F182L at h
 split at h
 case h_2 => exact h.elim
 have h := Tr.is_leaf.1 (Tr.is_le.1 (Tr.is_le.1 (Tr.is_le.1 (Tr.is_gd.1 (Tr.is_gd.1 h).2).2).2).2).2
 subst h
 exact ⟨[], rfl⟩
noncomputable abbrev kSeal : Cons := [(183, F183L), (182, F182L)]
end
section
def out1 (k : Nat) (X : List Int) : List Int := List.take 0 (List.replicate (k + 16) 0) ++ List.take (min X.length (k + 16)) X ++ List.drop (0 + min X.length (k + 16)) (List.replicate (k + 16) 0)
def out2 (k : Nat) (X T : List Int) : List Int := (out1 k X).take k ++ T.take (min T.length (k + 16 - k)) ++ (out1 k X).drop (k + min T.length (k + 16 - k))
theorem seal_run (o o' : Bool) (t t' : TypeId) (n k : Nat) (ks ns bs ts : List Int) :
  (callRun tc ((env kSeal).fn 20) Tryz.f215 1000 [.arr false .u8 32 ks, .arr false .u8 12 ns, .vec 13, .vec 14] [.cells o t [.row false false .u8 n bs], .cells o' t' [.row false false .u8 k ts]]).walk [] [] =
   some ([IntKind.i64.wrap ((k : Int) + 16) = (k : Int) + 16, 0 ≤ (k : Int) + 16 ∧ (k : Int) + 16 ≤ (k : Int) + 16 ∧ ((1 : Nat) : Int) * ((k : Int) + 16) ≤ 281474976710656, k ≤ 281474976710656, (0 : Int) ≤ 0 ∧ (0 : Int) ≤ (k : Int) ∧ (k : Int) ≤ (k : Int) ∧ (k : Int) ≤ ((k + 16 : Nat) : Int),
    n ≤ 1099511627776, k - 0 ≤ k + 16, k + 16 ≤ 1099511627776, 0 ≤ (k : Int) ∧ (k : Int) ≤ ((k + 16 : Nat) : Int) ∧ ((k + 16 : Nat) : Int) ≤ ((k + 16 : Nat) : Int) ∧ ((k + 16 : Nat) : Int) ≤ ((k + 16 : Nat) : Int)],
    ⟨.vec 15, [.cells o t [.row false false .u8 n bs], .cells o' t' [.row false false .u8 k ts], .cells true 5 [.row false false .u8 (k + 16) (out2 k (xorC ks 1 ns ts) (tagL ks ns bs ((out1 k (xorC ks 1 ns ts)).take (k - 0))))]]⟩) := by kernel_rfl
def sameD (ks : List Int) : Nat → Int
 | 0 => 0
 | i + 1 => bits .or .u8 (sameD ks i) (bits .xor .u8 (ks.getD i 0) (ks.getD i 0))
theorem same_run (ks : List Int) : (callRun tc ((env []).fn 20) Tryz.f181 1000 [.arr false .u8 16 ks, .arr false .u8 16 ks] []).walk [.t] [] = some ([(sameD ks 16 == 0) = true], ⟨.bool true true, []⟩) := by kernel_rfl
theorem xor_self8 (x : Int) : bits .xor .u8 x x = 0 := by
 show IntKind.u8.wrap (((BitVec.ofInt IntKind.u8.bits x ^^^ BitVec.ofInt IntKind.u8.bits x).toNat : Nat) : Int) = 0
 rw [BitVec.xor_self]
 rfl
theorem sameD_0 (ks : List Int) : ∀ i, sameD ks i = 0
 | 0 => rfl
 | i + 1 => by
  rw [sameD, sameD_0 ks i, xor_self8]
  rfl
noncomputable def F181 : Spec := fun args mem => match args, mem with
 | [.arr _ .u8 16 ks, .arr _ .u8 16 us], [] => .ob (us = ks) (.leaf ⟨.bool true true, []⟩)
 | _, _ => .fail
theorem f181_ok : FnOk Tryz.prog gl 181 F181 := by
 intro args mem r h
 unfold F181 at h
 split at h
 case h_2 => exact h.elim
 obtain ⟨h1, h⟩ := Tr.is_ob.1 h
 have h := Tr.is_leaf.1 h
 subst h
 subst h1
 rename_i _ ks _
 have run := same_run ks
 exact con_walk cons0 Tryz.func181 1000 run ⟨by rw [sameD_0]; rfl, trivial⟩
noncomputable abbrev kOpen : Cons := [(183, F183L), (182, F182L), (181, F181)]
theorem open_run (o o' : Bool) (t t' : TypeId) (n k : Nat) (ks ns bs ts : List Int) :
  (callRun tc ((env kOpen).fn 20) Tryz.f117 1000 [.arr false .u8 32 ks, .arr false .u8 12 ns, .vec 13, .vec 14] [.cells o t [.row false false .u8 n bs], .cells o' t' [.row false false .u8 k ts]]).walk [.f] [] =
   some ([IntKind.i64.wrap ((k : Int) - 16) = (k : Int) - 16, decide ((k : Int) - 16 < 0) = false, (0 : Int) ≤ 0 ∧ 0 ≤ (k : Int) - 16 ∧ (k : Int) - 16 ≤ (k : Int) - 16 ∧ (k : Int) - 16 ≤ (k : Int),
    n ≤ 1099511627776, ((k : Int) - 16).toNat - 0 ≤ k, k ≤ 1099511627776, 0 ≤ (k : Int) - 16 ∧ (k : Int) - 16 ≤ (k : Int) ∧ (k : Int) ≤ (k : Int) ∧ (k : Int) ≤ (k : Int), 16 ≤ (k : Int).toNat - ((k : Int) - 16).toNat, ((k : Int) - 16).toNat + 16 ≤ k,
    (ts.drop ((k : Int) - 16).toNat).take 16 = tagL ks ns bs (ts.take (((k : Int) - 16).toNat - 0)),
    (0 : Int) ≤ 0 ∧ 0 ≤ (k : Int) - 16 ∧ (k : Int) - 16 ≤ (k : Int) - 16 ∧ (k : Int) - 16 ≤ (k : Int), 0 + (((k : Int) - 16).toNat - 0) ≤ k, ((k : Int) - 16).toNat - 0 ≤ 281474976710656],
    ⟨.tup [.vec 15, .int true .i64 0], [.cells o t [.row false false .u8 n bs], .cells o' t' [.row false false .u8 k ts], .cells true 5 [.row false false .u8 (((k : Int) - 16).toNat - 0) (xorC ks 1 ns ((ts.drop 0).take (((k : Int) - 16).toNat - 0)))]]⟩) := by kernel_rfl
theorem cSeal : ConsOk kSeal := ⟨fun p hp => by
  simp only [kSeal, List.mem_cons, List.not_mem_nil, or_false] at hp
  rcases hp with rfl | rfl
  ·exact f183L_ok
  ·exact f182L_ok, fun p hp h => by
  simp only [kSeal, List.mem_cons, List.not_mem_nil, or_false] at hp
  rcases hp with rfl | rfl
  ·exact f183L_still
  ·exact f182L_still⟩
theorem cOpen : ConsOk kOpen := ⟨fun p hp => by
  simp only [kOpen, List.mem_cons, List.not_mem_nil, or_false] at hp
  rcases hp with rfl | rfl | rfl
  ·exact f183L_ok
  ·exact f182L_ok
  ·exact f181_ok, fun p hp h => by
  simp only [kOpen, List.mem_cons, List.not_mem_nil, or_false] at hp
  rcases hp with rfl | rfl | rfl
  ·exact f183L_still
  ·exact f182L_still
  ·exact absurd h (by decide)⟩
def sealL (ks ns bs ts : List Int) : List Int := xorC ks 1 ns ts ++ tagL ks ns bs (xorC ks 1 ns ts)
theorem bytsN_length : ∀ m n, (bytsN m n).length = m
 | 0, _ => rfl
 | m + 1, n => by simp [bytsN, bytsN_length m]
theorem tagL_length (ks ns bs cs : List Int) : (tagL ks ns bs cs).length = 16 := bytsN_length ..
theorem sealL_length (ks ns bs ts : List Int) : (sealL ks ns bs ts).length = ts.length + 16 := by simp [sealL, xorC_length, tagL_length]
theorem out1_eq {k : Nat} {X : List Int} (h : X.length = k) : out1 k X = X ++ List.replicate 16 0 := by
 unfold out1
 rw [h, Nat.min_eq_left (by omega), List.take_zero, List.nil_append, List.take_of_length_le (by omega), Nat.zero_add, List.drop_replicate, show k + 16 - k = 16 by omega]
theorem out2_eq {k : Nat} {X T : List Int} (h : X.length = k) (h' : T.length = 16) : out2 k X T = X ++ T := by
 unfold out2
 rw [out1_eq h, h', show k + 16 - k = 16 by omega, Nat.min_self, List.take_append_of_le_length (by omega), List.take_of_length_le (by omega), List.take_of_length_le (by omega), List.drop_of_length_le (by simp; omega), List.append_nil]
theorem seal_con (o o' : Bool) (t t' : TypeId) (ks ns bs ts : List Int) (h1 : bs.length ≤ 1099511627776) (h2 : ts.length ≤ 1000000) :
  Con Tryz.prog gl 215 [.arr false .u8 32 ks, .arr false .u8 12 ns, .vec 13, .vec 14] [.cells o t [.row false false .u8 bs.length bs], .cells o' t' [.row false false .u8 ts.length ts]]
   ⟨.vec 15, [.cells o t [.row false false .u8 bs.length bs], .cells o' t' [.row false false .u8 ts.length ts], .cells true 5 [.row false false .u8 (ts.length + 16) (sealL ks ns bs ts)]]⟩ := by
 have run := seal_run o o' t t' bs.length ts.length ks ns bs ts
 have hx := xorC_length ks 1 ns ts
 rw [out2_eq hx (tagL_length ..), out1_eq hx, Nat.sub_zero, List.take_append_of_le_length (by omega), List.take_of_length_le (by omega)] at run
 exact con_walk cSeal Tryz.func215 1000 run ⟨I64.wrap ⟨by omega, by omega⟩, by omega, by omega, by omega, by omega, by omega, by omega, by omega, trivial⟩
theorem open_con (o o' : Bool) (t t' : TypeId) (ks ns bs xs : List Int) (h1 : bs.length ≤ 1099511627776) (h2 : xs.length ≤ 1000000) :
  Con Tryz.prog gl 117 [.arr false .u8 32 ks, .arr false .u8 12 ns, .vec 13, .vec 14] [.cells o t [.row false false .u8 bs.length bs], .cells o' t' [.row false false .u8 (xs.length + 16) (xs ++ tagL ks ns bs xs)]]
   ⟨.tup [.vec 15, .int true .i64 0], [.cells o t [.row false false .u8 bs.length bs], .cells o' t' [.row false false .u8 (xs.length + 16) (xs ++ tagL ks ns bs xs)], .cells true 5 [.row false false .u8 xs.length (xorC ks 1 ns xs)]]⟩ := by
 have run := open_run o o' t t' bs.length (xs.length + 16) ks ns bs (xs ++ tagL ks ns bs xs)
 have ht := tagL_length ks ns bs xs
 have e : (((xs.length + 16 : Nat) : Int) - 16) = (xs.length : Int) := by omega
 rw [e, Int.toNat_natCast, Nat.sub_zero, List.drop_zero, List.take_left, List.drop_left, List.take_of_length_le (Nat.le_of_eq ht)] at run
 refine con_walk cOpen Tryz.func117 1000 run ⟨I64.wrap ⟨by omega, by omega⟩, decide_eq_false (by omega), by omega, by omega, by omega, by omega, by omega, ?_, by omega, rfl, by omega, by omega, by omega, trivial⟩
 rw [Int.toNat_natCast]; omega
theorem bits_xx (a b : Int) (h : 0 ≤ a ∧ a < 256) : bits .xor .u8 (bits .xor .u8 a b) b = a := by
 have e : ∀ x y : Int, bits .xor .u8 x y = IntKind.u8.wrap (((BitVec.ofInt 8 x ^^^ BitVec.ofInt 8 y).toNat : Nat) : Int) := fun _ _ => rfl
 have w : ∀ v : BitVec 8, IntKind.u8.wrap ((v.toNat : Nat) : Int) = (v.toNat : Int) := fun v => by
  have := v.isLt
  simp [IntKind.wrap, IntKind.signed, IntKind.bits]
  omega
 rw [e, e a b, w, w, BitVec.ofInt_natCast, BitVec.ofNat_toNat, BitVec.setWidth_eq, BitVec.xor_assoc, BitVec.xor_self, BitVec.xor_zero]
 rw [BitVec.toNat_ofInt]
 omega
theorem xorC_twice {ks ns bs : List Int} {c : Int} (h : ∀ x ∈ bs, 0 ≤ x ∧ x < 256) : xorC ks c ns (xorC ks c ns bs) = bs := by
 apply List.ext_getElem
 ·simp [xorC_length]
 ·intro i h1 h2
  have hx : ∀ (l : List Int) (hl : i < l.length), (xorC ks c ns l)[i]'(by rw [xorC_length]; exact hl) = bits .xor .u8 l[i] (strB ks c ns i) := fun l hl => by
   simp [xorC, List.getD_eq_getElem?_getD, hl]
  rw [hx _ (by rw [xorC_length]; exact h2), hx bs h2]
  exact bits_xx _ _ (h _ (List.getElem_mem h2))
end
section
noncomputable def F215L : Spec := fun args mem => match args, mem with
 | [.arr _ .u8 32 ks, .arr _ .u8 12 ns, .vec i, .vec j], [.cells o t [.row ln lc .u8 n bs], .cells o' t' [.row ln' lc' .u8 k ts]] =>
  gd (Nat.beq i 13) (gd (Nat.beq j 14) (leT ln n 1099511627776 (leT ln' k 1000000 (.leaf ⟨.vec 15, [.cells o t [.row ln lc .u8 n bs], .cells o' t' [.row ln' lc' .u8 k ts], .cells true 5 [.row ln' false .u8 (k + 16) (sealL ks ns bs ts)]]⟩))))
 | _, _ => .fail
theorem f215L_ok : FnOk Tryz.prog gl 215 F215L := by
 intro args mem r h
 unfold F215L at h
 split at h
 case h_2 => exact h.elim
 rename_i _ ks _ ns i j o t ln lc n bs o' t' ln' lc' k ts
 obtain ⟨h1, h⟩ := Tr.is_gd.1 h
 obtain ⟨h2, h⟩ := Tr.is_gd.1 h
 obtain ⟨h3, h⟩ := Tr.is_le.1 h
 obtain ⟨h4, h⟩ := Tr.is_le.1 h
 have h := Tr.is_leaf.1 h
 subst h
 rw [Nat.eq_of_beq_eq_true h1, Nat.eq_of_beq_eq_true h2]
 refine con_wf fun _ hm => ?_
 have e1 : bs.length = n := hm.1.1.1
 have e2 : ts.length = k := hm.2.1.1.1
 subst e1
 subst e2
 exact con_to (seal_con o o' t t' ks ns bs ts h3 h4)
theorem f215L_still : Still F215L := by
 intro args mem r h
 unfold F215L at h
 split at h
 case h_2 => exact h.elim
 have h := Tr.is_leaf.1 (Tr.is_le.1 (Tr.is_le.1 (Tr.is_gd.1 (Tr.is_gd.1 h).2).2).2).2
 subst h
 exact ⟨_, rfl⟩
noncomputable def F117L : Spec := fun args mem => match args, mem with
 | [.arr _ .u8 32 ks, .arr _ .u8 12 ns, .vec i, .vec j], [.cells o t [.row ln lc .u8 n bs], .cells o' t' [.row ln' lc' .u8 k ys]] =>
  gd (Nat.beq i 13) (gd (Nat.beq j 14) (leT ln n 1099511627776 (leT ln' 16 k (leT ln' k 1000000 (.ob (ys.drop (k - 16) = tagL ks ns bs (ys.take (k - 16)))
   (.leaf ⟨.tup [.vec 15, .int true .i64 0], [.cells o t [.row ln lc .u8 n bs], .cells o' t' [.row ln' lc' .u8 k ys], .cells true 5 [.row ln' false .u8 (k - 16) (xorC ks 1 ns (ys.take (k - 16)))]]⟩))))))
 | _, _ => .fail
theorem f117L_ok : FnOk Tryz.prog gl 117 F117L := by
 intro args mem r h
 unfold F117L at h
 split at h
 case h_2 => exact h.elim
 rename_i _ ks _ ns i j o t ln lc n bs o' t' ln' lc' k ys
 obtain ⟨h1, h⟩ := Tr.is_gd.1 h
 obtain ⟨h2, h⟩ := Tr.is_gd.1 h
 obtain ⟨h3, h⟩ := Tr.is_le.1 h
 obtain ⟨h4, h⟩ := Tr.is_le.1 h
 obtain ⟨h5, h⟩ := Tr.is_le.1 h
 obtain ⟨h6, h⟩ := Tr.is_ob.1 h
 have h := Tr.is_leaf.1 h
 subst h
 rw [Nat.eq_of_beq_eq_true h1, Nat.eq_of_beq_eq_true h2]
 refine con_wf fun _ hm => ?_
 have e1 : bs.length = n := hm.1.1.1
 have e2 : ys.length = k := hm.2.1.1.1
 subst e1
 have el : (ys.take (k - 16)).length = k - 16 := by rw [List.length_take]; omega
 have ey : ys = ys.take (k - 16) ++ tagL ks ns bs (ys.take (k - 16)) := by rw [← h6, List.take_append_drop]
 have con := open_con o o' t t' ks ns bs (ys.take (k - 16)) h3 (by omega)
 rw [← ey, el, show k - 16 + 16 = k by omega] at con
 exact con_to con
noncomputable def F252L : Spec := fun args mem => match args, mem with
 | [.slc _ i 0 0 32 (some 32), .slc l j 0 off m _], [.cells ok tk [.row lm lk .u8 32 ks], .cells ob tb [.row ln lx .u8 n xs]] =>
  gd (Nat.beq i 13) (gd (Nat.beq j 14) (obT (l && ln) (Nat.ble 1 m && Nat.ble (off + m) n && Nat.ble n 1000000) (.leaf ⟨.arr false .u8 32 (macL ks ((xs.drop off).take m)), [.cells ok tk [.row lm lk .u8 32 ks], .cells ob tb [.row ln lx .u8 n xs]]⟩)))
 | _, _ => .fail
theorem f252L_ok : FnOk Tryz.prog gl 252 F252L := by
 intro args mem r h
 unfold F252L at h
 split at h
 case h_2 => exact h.elim
 rename_i _ i l j off m cap ok tk lm lk ks ob tb ln lx n xs
 obtain ⟨h1, h⟩ := Tr.is_gd.1 h
 obtain ⟨h2, h⟩ := Tr.is_gd.1 h
 obtain ⟨h3, h⟩ := is_obT.1 h
 have h := Tr.is_leaf.1 h
 subst h
 refine con_to (f252_ok [.slc true i 0 0 32 (some 32), .slc l j 0 off m cap] [.cells ok tk [.row lm lk .u8 32 ks], .cells ob tb [.row ln lx .u8 n xs]] ⟨.arr (lk && lx) .u8 32 (macL ks ((xs.drop off).take m)), [.cells ok tk [.row lm lk .u8 32 ks], .cells ob tb [.row ln lx .u8 n xs]]⟩ ?_)
 unfold F252
 simp only
 rw [Tr.is_gd, Tr.is_gd, is_obT, macK_eq]
 exact ⟨h1, h2, h3, rfl⟩
theorem f252L_still : Still F252L := by
 intro args mem r h
 unfold F252L at h
 split at h
 case h_2 => exact h.elim
 have h := Tr.is_leaf.1 (is_obT.1 (Tr.is_gd.1 (Tr.is_gd.1 h).2).2).2
 subst h
 exact ⟨[], rfl⟩
theorem c252L : ConsOk [(252, F252L)] := ⟨fun p hp => by
  rcases List.mem_singleton.1 hp with rfl
  exact f252L_ok, fun p hp h => by
  rcases List.mem_singleton.1 hp with rfl
  exact f252L_still⟩
def ofKL (ks : List Int) : List Int := macL ks [115, 104, 101, 97, 118, 101, 32, 107, 101, 121, 1]
theorem of_run (ks : List Int) : Goes (callRun tc ((env [(252, F252L)]).fn 20) Tryz.f231 1000 [.arr false .u8 32 ks] []) [] [10 < 9223372036854775808] ⟨.arr false .u8 32 (ofKL ks), []⟩ := by
 unfold Goes
 kernel_rfl
noncomputable def F231L : Spec := fun args mem => match args, mem with
 | [.arr _ .u8 32 ks], [] => .leaf ⟨.arr false .u8 32 (ofKL ks), []⟩
 | _, _ => .fail
theorem f231L_ok : FnOk Tryz.prog gl 231 F231L := by
 intro args mem r h
 unfold F231L at h
 split at h
 case h_2 => exact h.elim
 have h := Tr.is_leaf.1 h
 subst h
 exact con_goes c252L Tryz.func231 1000 (of_run _) ⟨by decide, trivial⟩
end
section
def len8T : List Int := [0, 1, 2, 2] ++ List.replicate 4 3 ++ List.replicate 8 4 ++ List.replicate 16 5 ++ List.replicate 32 6 ++ List.replicate 64 7 ++ List.replicate 128 8
def len8 (x : Int) : Int := IntKind.i64.wrap (len8T.getD (IntKind.u8.wrap x).toNat 0)
def obL (n x : Int) : List Prop := [0 ≤ IntKind.u8.wrap x ∧ IntKind.u8.wrap x < 256, IntKind.i64.wrap (n + len8 x) = n + len8 x]
theorem len_000 (x : Int) : (callRun tc ((env []).fn 20) Tryz.f235 1000 [.int false .u64 x] []).walk [.f, .f, .f] [] = some ([decide (x ≥ 4294967296) = false, decide (x ≥ 65536) = false, decide (x ≥ 256) = false] ++ obL 0 x, ⟨.int false .i64 (0 + len8 x), []⟩) := by kernel_rfl
theorem len_001 (x : Int) : (callRun tc ((env []).fn 20) Tryz.f235 1000 [.int false .u64 x] []).walk [.f, .f, .t] [] = some ([decide (x ≥ 4294967296) = false, decide (x ≥ 65536) = false, decide (x ≥ 256) = true, (0 : Int) ≤ 8] ++ obL 8 (Int.fdiv x 256), ⟨.int false .i64 (8 + len8 (Int.fdiv x 256)), []⟩) := by kernel_rfl
theorem len_010 (x : Int) : (callRun tc ((env []).fn 20) Tryz.f235 1000 [.int false .u64 x] []).walk [.f, .t, .f] [] = some ([decide (x ≥ 4294967296) = false, decide (x ≥ 65536) = true, (0 : Int) ≤ 16, decide ((Int.fdiv x 65536) ≥ 256) = false] ++ obL 16 (Int.fdiv x 65536), ⟨.int false .i64 (16 + len8 (Int.fdiv x 65536)), []⟩) := by kernel_rfl
theorem len_011 (x : Int) : (callRun tc ((env []).fn 20) Tryz.f235 1000 [.int false .u64 x] []).walk [.f, .t, .t] [] = some ([decide (x ≥ 4294967296) = false, decide (x ≥ 65536) = true, (0 : Int) ≤ 16, decide ((Int.fdiv x 65536) ≥ 256) = true, (0 : Int) ≤ 8] ++ obL 24 (Int.fdiv (Int.fdiv x 65536) 256), ⟨.int false .i64 (24 + len8 (Int.fdiv (Int.fdiv x 65536) 256)), []⟩) := by kernel_rfl
theorem len_100 (x : Int) : (callRun tc ((env []).fn 20) Tryz.f235 1000 [.int false .u64 x] []).walk [.t, .f, .f] [] = some ([decide (x ≥ 4294967296) = true, (0 : Int) ≤ 32, decide ((Int.fdiv x 4294967296) ≥ 65536) = false, decide ((Int.fdiv x 4294967296) ≥ 256) = false] ++ obL 32 (Int.fdiv x 4294967296), ⟨.int false .i64 (32 + len8 (Int.fdiv x 4294967296)), []⟩) := by kernel_rfl
theorem len_101 (x : Int) : (callRun tc ((env []).fn 20) Tryz.f235 1000 [.int false .u64 x] []).walk [.t, .f, .t] [] = some ([decide (x ≥ 4294967296) = true, (0 : Int) ≤ 32, decide ((Int.fdiv x 4294967296) ≥ 65536) = false, decide ((Int.fdiv x 4294967296) ≥ 256) = true, (0 : Int) ≤ 8] ++ obL 40 (Int.fdiv (Int.fdiv x 4294967296) 256), ⟨.int false .i64 (40 + len8 (Int.fdiv (Int.fdiv x 4294967296) 256)), []⟩) := by kernel_rfl
theorem len_110 (x : Int) : (callRun tc ((env []).fn 20) Tryz.f235 1000 [.int false .u64 x] []).walk [.t, .t, .f] [] = some ([decide (x ≥ 4294967296) = true, (0 : Int) ≤ 32, decide ((Int.fdiv x 4294967296) ≥ 65536) = true, (0 : Int) ≤ 16, decide ((Int.fdiv (Int.fdiv x 4294967296) 65536) ≥ 256) = false] ++ obL 48 (Int.fdiv (Int.fdiv x 4294967296) 65536), ⟨.int false .i64 (48 + len8 (Int.fdiv (Int.fdiv x 4294967296) 65536)), []⟩) := by kernel_rfl
theorem len_111 (x : Int) : (callRun tc ((env []).fn 20) Tryz.f235 1000 [.int false .u64 x] []).walk [.t, .t, .t] [] = some ([decide (x ≥ 4294967296) = true, (0 : Int) ≤ 32, decide ((Int.fdiv x 4294967296) ≥ 65536) = true, (0 : Int) ≤ 16, decide ((Int.fdiv (Int.fdiv x 4294967296) 65536) ≥ 256) = true, (0 : Int) ≤ 8] ++ obL 56 (Int.fdiv (Int.fdiv (Int.fdiv x 4294967296) 65536) 256), ⟨.int false .i64 (56 + len8 (Int.fdiv (Int.fdiv (Int.fdiv x 4294967296) 65536) 256)), []⟩) := by kernel_rfl
theorem len8T_spec : ∀ n, n < 256 → 0 ≤ len8T.getD n 0 ∧ len8T.getD n 0 ≤ 8 ∧ (len8T.getD n 0 ≤ 0 ↔ n < 1) ∧ (len8T.getD n 0 ≤ 6 ↔ n < 64) := by decide
theorem len8_spec {x : Int} (h : 0 ≤ x) (h' : x < 256) : 0 ≤ len8 x ∧ len8 x ≤ 8 ∧ (len8 x ≤ 0 ↔ x < 1) ∧ (len8 x ≤ 6 ↔ x < 64) := by
 have w : IntKind.u8.wrap x = x := by
  simp [IntKind.wrap, IntKind.signed, IntKind.bits]
  omega
 have hs := len8T_spec x.toNat (by omega)
 have e : len8 x = len8T.getD x.toNat 0 := by
  unfold len8
  rw [w]
  exact I64.wrap ⟨by omega, by omega⟩
 rw [e]
 omega
def len16 (x : Int) : Int := if x ≥ 256 then 8 + len8 (x / 256) else len8 x
def len32 (x : Int) : Int := if x ≥ 65536 then 16 + len16 (x / 65536) else len16 x
def lenZ (x : Int) : Int := if x ≥ 4294967296 then 32 + len32 (x / 4294967296) else len32 x
theorem len16_spec {x : Int} (h : 0 ≤ x) (h' : x < 65536) : 0 ≤ len16 x ∧ len16 x ≤ 16 ∧ (len16 x ≤ 0 ↔ x < 1) ∧ (len16 x ≤ 6 ↔ x < 64) ∧ (len16 x ≤ 8 ↔ x < 256) ∧ (len16 x ≤ 14 ↔ x < 16384) := by
 unfold len16
 split
 ·have := len8_spec (x := x / 256) (by omega) (by omega)
  omega
 ·have := len8_spec (x := x) (by omega) (by omega)
  omega
theorem len32_spec {x : Int} (h : 0 ≤ x) (h' : x < 4294967296) : 0 ≤ len32 x ∧ len32 x ≤ 32 ∧ (len32 x ≤ 0 ↔ x < 1) ∧ (len32 x ≤ 6 ↔ x < 64) ∧ (len32 x ≤ 14 ↔ x < 16384) ∧ (len32 x ≤ 16 ↔ x < 65536) ∧ (len32 x ≤ 30 ↔ x < 1073741824) := by
 unfold len32
 split
 ·have := len16_spec (x := x / 65536) (by omega) (by omega)
  omega
 ·have := len16_spec (x := x) (by omega) (by omega)
  omega
theorem lenZ_spec {x : Int} (h : 0 ≤ x) (h' : x < 18446744073709551616) : 0 ≤ lenZ x ∧ lenZ x ≤ 64 ∧ (lenZ x ≤ 6 ↔ x < 64) ∧ (lenZ x ≤ 14 ↔ x < 16384) ∧ (lenZ x ≤ 16 ↔ x < 65536) ∧ (lenZ x ≤ 30 ↔ x < 1073741824) ∧ (lenZ x ≤ 48 ↔ x < 281474976710656) ∧ (lenZ x ≤ 62 ↔ x < 4611686018427387904) := by
 unfold lenZ
 split
 ·have := len32_spec (x := x / 4294967296) (by omega) (by omega)
  omega
 ·have := len32_spec (x := x) (by omega) (by omega)
  omega
theorem obL_ok {n x : Int} (hn : 0 ≤ n) (hn' : n ≤ 56) (h : 0 ≤ x) (h' : x < 256) : Conj (obL n x) := by
 have hs := len8_spec h h'
 have w : IntKind.u8.wrap x = x := by
  simp [IntKind.wrap, IntKind.signed, IntKind.bits]
  omega
 exact ⟨by rw [w]; exact ⟨h, h'⟩, I64.wrap ⟨by omega, by omega⟩, trivial⟩
noncomputable def F235 : Spec := fun args mem => match args, mem with
 | [.int l .u64 x], [] => match l with
  | true => fcI (lenZ x) fun n => .leaf ⟨.int true .i64 n, []⟩
  | false => .leaf ⟨.int false .i64 (lenZ x), []⟩
 | _, _ => .fail
theorem f235_ok : FnOk Tryz.prog gl 235 F235 := by
 intro args mem r h
 have key : ∀ (l : Bool) (x : Int), Con Tryz.prog gl 235 [.int l .u64 x] [] ⟨.int l .i64 (lenZ x), []⟩ := fun l x => by
  refine con_wf fun ha _ => ?_
  have hw : IntKind.u64.wrap x = x := ha.1
  have hx : 0 ≤ x ∧ x < 18446744073709551616 := by
   have : IntKind.u64.wrap x = x % 18446744073709551616 := by simp [IntKind.wrap, IntKind.bits, IntKind.signed]
   omega
  obtain ⟨hx0, hx1⟩ := hx
  have f1 : Int.fdiv x 4294967296 = x / 4294967296 := Int.fdiv_eq_ediv_of_nonneg _ (by decide)
  have f2 : ∀ y : Int, Int.fdiv y 65536 = y / 65536 := fun y => Int.fdiv_eq_ediv_of_nonneg _ (by decide)
  have f3 : ∀ y : Int, Int.fdiv y 256 = y / 256 := fun y => Int.fdiv_eq_ediv_of_nonneg _ (by decide)
  by_cases h1 : x ≥ 4294967296
  ·by_cases h2 : (x / 4294967296) ≥ 65536
   ·by_cases h3 : ((x / 4294967296) / 65536) ≥ 256
    ·have run := len_111 x
     simp only [f1, f2, f3] at run
     have e : (56 : Int) + len8 (((x / 4294967296) / 65536) / 256) = lenZ x := by
      unfold lenZ len32 len16
      rw [if_pos (show x ≥ 4294967296 by omega), if_pos (show (x / 4294967296) ≥ 65536 by omega), if_pos (show ((x / 4294967296) / 65536) ≥ 256 by omega)]
      omega
     rw [e] at run
     exact con_walk cons0 Tryz.func235 1000 run (Conj.app ⟨decide_eq_true (by omega), by decide, decide_eq_true (by omega), by decide, decide_eq_true (by omega), by decide, trivial⟩ (obL_ok (by omega) (by omega) (by omega) (by omega)))
    ·have run := len_110 x
     simp only [f1, f2, f3] at run
     have e : (48 : Int) + len8 ((x / 4294967296) / 65536) = lenZ x := by
      unfold lenZ len32 len16
      rw [if_pos (show x ≥ 4294967296 by omega), if_pos (show (x / 4294967296) ≥ 65536 by omega), if_neg (show ¬ ((x / 4294967296) / 65536) ≥ 256 by omega)]
      omega
     rw [e] at run
     exact con_walk cons0 Tryz.func235 1000 run (Conj.app ⟨decide_eq_true (by omega), by decide, decide_eq_true (by omega), by decide, decide_eq_false (by omega), trivial⟩ (obL_ok (by omega) (by omega) (by omega) (by omega)))
   ·by_cases h3 : (x / 4294967296) ≥ 256
    ·have run := len_101 x
     simp only [f1, f2, f3] at run
     have e : (40 : Int) + len8 ((x / 4294967296) / 256) = lenZ x := by
      unfold lenZ len32 len16
      rw [if_pos (show x ≥ 4294967296 by omega), if_neg (show ¬ (x / 4294967296) ≥ 65536 by omega), if_pos (show (x / 4294967296) ≥ 256 by omega)]
      omega
     rw [e] at run
     exact con_walk cons0 Tryz.func235 1000 run (Conj.app ⟨decide_eq_true (by omega), by decide, decide_eq_false (by omega), decide_eq_true (by omega), by decide, trivial⟩ (obL_ok (by omega) (by omega) (by omega) (by omega)))
    ·have run := len_100 x
     simp only [f1, f2, f3] at run
     have e : (32 : Int) + len8 (x / 4294967296) = lenZ x := by
      unfold lenZ len32 len16
      rw [if_pos (show x ≥ 4294967296 by omega), if_neg (show ¬ (x / 4294967296) ≥ 65536 by omega), if_neg (show ¬ (x / 4294967296) ≥ 256 by omega)]
     rw [e] at run
     exact con_walk cons0 Tryz.func235 1000 run (Conj.app ⟨decide_eq_true (by omega), by decide, decide_eq_false (by omega), decide_eq_false (by omega), trivial⟩ (obL_ok (by omega) (by omega) (by omega) (by omega)))
  ·by_cases h2 : x ≥ 65536
   ·by_cases h3 : (x / 65536) ≥ 256
    ·have run := len_011 x
     simp only [f1, f2, f3] at run
     have e : (24 : Int) + len8 ((x / 65536) / 256) = lenZ x := by
      unfold lenZ len32 len16
      rw [if_neg (show ¬ x ≥ 4294967296 by omega), if_pos (show x ≥ 65536 by omega), if_pos (show (x / 65536) ≥ 256 by omega)]
      omega
     rw [e] at run
     exact con_walk cons0 Tryz.func235 1000 run (Conj.app ⟨decide_eq_false (by omega), decide_eq_true (by omega), by decide, decide_eq_true (by omega), by decide, trivial⟩ (obL_ok (by omega) (by omega) (by omega) (by omega)))
    ·have run := len_010 x
     simp only [f1, f2, f3] at run
     have e : (16 : Int) + len8 (x / 65536) = lenZ x := by
      unfold lenZ len32 len16
      rw [if_neg (show ¬ x ≥ 4294967296 by omega), if_pos (show x ≥ 65536 by omega), if_neg (show ¬ (x / 65536) ≥ 256 by omega)]
     rw [e] at run
     exact con_walk cons0 Tryz.func235 1000 run (Conj.app ⟨decide_eq_false (by omega), decide_eq_true (by omega), by decide, decide_eq_false (by omega), trivial⟩ (obL_ok (by omega) (by omega) (by omega) (by omega)))
   ·by_cases h3 : x ≥ 256
    ·have run := len_001 x
     simp only [f1, f2, f3] at run
     have e : (8 : Int) + len8 (x / 256) = lenZ x := by
      unfold lenZ len32 len16
      rw [if_neg (show ¬ x ≥ 4294967296 by omega), if_neg (show ¬ x ≥ 65536 by omega), if_pos (show x ≥ 256 by omega)]
     rw [e] at run
     exact con_walk cons0 Tryz.func235 1000 run (Conj.app ⟨decide_eq_false (by omega), decide_eq_false (by omega), decide_eq_true (by omega), by decide, trivial⟩ (obL_ok (by omega) (by omega) (by omega) (by omega)))
    ·have run := len_000 x
     have e : (0 : Int) + len8 x = lenZ x := by
      unfold lenZ len32 len16
      rw [if_neg (show ¬ x ≥ 4294967296 by omega), if_neg (show ¬ x ≥ 65536 by omega), if_neg (show ¬ x ≥ 256 by omega)]
      omega
     rw [e] at run
     exact con_walk cons0 Tryz.func235 1000 run (Conj.app ⟨decide_eq_false (by omega), decide_eq_false (by omega), decide_eq_false (by omega), trivial⟩ (obL_ok (by omega) (by omega) (by omega) (by omega)))
 unfold F235 at h
 split at h
 ·rename_i l x
  cases l with
  | true =>
   simp only [fcI_eq] at h
   have h := Tr.is_leaf.1 h
   subst h
   exact key true x
  | false =>
   have h := Tr.is_leaf.1 h
   subst h
   exact key false x
 ·exact h.elim
end
section
noncomputable abbrev kE : Cons := [(69, F69), (235, F235)]
theorem cE : ConsOk kE := ⟨fun p hp => by
  simp only [kE, List.mem_cons, List.not_mem_nil, or_false] at hp
  rcases hp with rfl | rfl
  ·exact f69_ok
  ·exact f235_ok, fun p hp h => by
  simp only [kE, List.mem_cons, List.not_mem_nil, or_false] at hp
  rcases hp with rfl | rfl
  ·exact f69_still
  ·exact absurd h (by decide)⟩
def z8 : List Int := [0, 0, 0, 0, 0, 0, 0, 0]
def varC (c : Bool) (n : Int) : List Int :=
 match c with
 | false => [bits .or .u8 (byteX n 1) 0]
 | true => [bits .or .u8 (byteX n 256) 64, byteX n 1]
def obC (c : Bool) (n : Int) : List Prop :=
 match c with
 | false => [decide (n > 4611686018427387903) = false, decide (lenZ (IntKind.u64.wrap n) ≤ 6) = true, (0 : Int) ≤ 0]
 | true => [decide (n > 4611686018427387903) = false, decide (lenZ (IntKind.u64.wrap n) ≤ 6) = false, decide (lenZ (IntKind.u64.wrap n) ≤ 14) = true, (0 : Int) ≤ 8, (0 : Int) ≤ 0]
def encD (c d : Bool) (n : Int) (ds : List Int) : List Int := 1 :: (varC c n ++ (varC d ds.length ++ ds))
def obE (c d : Bool) (n : Int) (ds : List Int) : List Prop := [decide (n ≤ 4611686018427387903) = true, decide ((ds.length : Int) ≥ 1) = true, decide ((ds.length : Int) ≤ 128) = true] ++ (obC c n ++ (obC d ds.length ++ [obR (encD c d n ds), decide (((encD c d n ds).length : Int) > 256) = false]))
def resE (c d : Bool) (n : Nat) (ds : List Int) : Res := ⟨.tup [.vec 14, .int true .i64 0], [.cells true 112 [.lst true .frm 1 [⟨1, (n : Int), 0, [], ds, z8⟩]], .cells true 5 [.row false false .u8 (encD c d n ds).length (encD c d n ds)]]⟩
theorem enc_ff (n : Nat) (ds : List Int) : (callRun tc ((env kE).fn 20) Tryz.f154 10000 [.vec 13] [.cells true 112 [.lst true .frm 1 [⟨1, (n : Int), 0, [], ds, z8⟩]]]).walk [.a, .a, .t, .a, .t, .t, .a, .a, .a, .a, .a, .a, .a, .f, .t, .a, .f, .t, .f] [] =
  some (obE false false n ds, resE false false n ds) := by kernel_rfl
theorem enc_ft (n : Nat) (ds : List Int) : (callRun tc ((env kE).fn 20) Tryz.f154 10000 [.vec 13] [.cells true 112 [.lst true .frm 1 [⟨1, (n : Int), 0, [], ds, z8⟩]]]).walk [.a, .a, .t, .a, .t, .t, .a, .a, .a, .a, .a, .a, .a, .f, .t, .a, .f, .f, .t, .f] [] =
  some (obE false true n ds, resE false true n ds) := by kernel_rfl
theorem enc_tf (n : Nat) (ds : List Int) : (callRun tc ((env kE).fn 20) Tryz.f154 10000 [.vec 13] [.cells true 112 [.lst true .frm 1 [⟨1, (n : Int), 0, [], ds, z8⟩]]]).walk [.a, .a, .t, .a, .t, .t, .a, .a, .a, .a, .a, .a, .a, .f, .f, .t, .a, .f, .t, .f] [] =
  some (obE true false n ds, resE true false n ds) := by kernel_rfl
theorem enc_tt (n : Nat) (ds : List Int) : (callRun tc ((env kE).fn 20) Tryz.f154 10000 [.vec 13] [.cells true 112 [.lst true .frm 1 [⟨1, (n : Int), 0, [], ds, z8⟩]]]).walk [.a, .a, .t, .a, .t, .t, .a, .a, .a, .a, .a, .a, .a, .f, .f, .t, .a, .f, .f, .t, .f] [] =
  some (obE true true n ds, resE true true n ds) := by kernel_rfl
theorem u64w_eq {n : Int} (h : 0 ≤ n) (h' : n < 18446744073709551616) : IntKind.u64.wrap n = n := by
 have : IntKind.u64.wrap n = n % 18446744073709551616 := by simp [IntKind.wrap, IntKind.bits, IntKind.signed]
 omega
theorem obC_ok {c : Bool} {n : Int} (h0 : 0 ≤ n) (h : n < 16384) (hc : c = decide (64 ≤ n)) : Conj (obC c n) := by
 have hs := lenZ_spec (x := n) h0 (by omega)
 have hw := u64w_eq (n := n) h0 (by omega)
 subst hc
 by_cases h64 : 64 ≤ n
 ·rw [decide_eq_true h64]
  exact ⟨decide_eq_false (by omega), decide_eq_false (by rw [hw]; omega), decide_eq_true (by rw [hw]; omega), by decide, by decide, trivial⟩
 ·rw [decide_eq_false h64]
  exact ⟨decide_eq_false (by omega), decide_eq_true (by rw [hw]; omega), by decide, trivial⟩
theorem varC_length (c : Bool) (n : Int) : (varC c n).length ≤ 2 := by cases c <;> simp [varC]
theorem encD_length (c d : Bool) (n : Int) (ds : List Int) : (encD c d n ds).length ≤ ds.length + 5 := by
 have h1 := varC_length c n
 have h2 := varC_length d ds.length
 simp only [encD, List.length_cons, List.length_append]
 omega
theorem obE_ok {c d : Bool} {n : Int} {ds : List Int} (h0 : 0 ≤ n) (h : n < 16384) (h1 : 1 ≤ ds.length) (h2 : ds.length ≤ 128) (hc : c = decide (64 ≤ n)) (hd : d = decide (64 ≤ (ds.length : Int))) : Conj (obE c d n ds) := by
 have hl := encD_length c d n ds
 exact Conj.app ⟨decide_eq_true (by omega), decide_eq_true (by omega), decide_eq_true (by omega), trivial⟩ (Conj.app (obC_ok h0 h hc) (Conj.app (obC_ok (by omega) (by omega) hd) ⟨obR_ok (by omega), decide_eq_false (by omega), trivial⟩))
def encF (n : Int) (ds : List Int) : List Int := encD (decide (64 ≤ n)) (decide (64 ≤ (ds.length : Int))) n ds
theorem enc_con (n : Nat) (ds : List Int) (h : n < 16384) (h1 : 1 ≤ ds.length) (h2 : ds.length ≤ 128) :
  Con Tryz.prog gl 154 [.vec 13] [.cells true 112 [.lst true .frm 1 [⟨1, (n : Int), 0, [], ds, z8⟩]]] ⟨.tup [.vec 14, .int true .i64 0], [.cells true 112 [.lst true .frm 1 [⟨1, (n : Int), 0, [], ds, z8⟩]], .cells true 5 [.row false false .u8 (encF n ds).length (encF n ds)]]⟩ := by
 have key : ∀ c d : Bool, c = decide (64 ≤ (n : Int)) → d = decide (64 ≤ (ds.length : Int)) → Con Tryz.prog gl 154 [.vec 13] [.cells true 112 [.lst true .frm 1 [⟨1, (n : Int), 0, [], ds, z8⟩]]] (resE c d n ds) := fun c d hc hd => by
  have ho := obE_ok (c := c) (d := d) (n := n) (ds := ds) (by omega) (by omega) h1 h2 hc hd
  cases c with
  | false => cases d with
   | false => exact con_walk cE Tryz.func154 10000 (enc_ff n ds) ho
   | true => exact con_walk cE Tryz.func154 10000 (enc_ft n ds) ho
  | true => cases d with
   | false => exact con_walk cE Tryz.func154 10000 (enc_tf n ds) ho
   | true => exact con_walk cE Tryz.func154 10000 (enc_tt n ds) ho
 exact key _ _ rfl rfl
noncomputable def F154 : Spec := fun args mem => match args, mem with
 | [.vec i], [.cells true 112 [.lst ln .frm 1 [⟨k, n, l, [], ds, tok⟩]]] =>
  gd (Nat.beq i 13) (gd (decide (k = 1) && decide (l = 0) && decide (tok = z8)) (.ob (0 ≤ n ∧ n < 16384 ∧ 1 ≤ ds.length ∧ ds.length ≤ 128) (.leaf ⟨.tup [.vec 14, .int true .i64 0], [.cells true 112 [.lst ln .frm 1 [⟨k, n, l, [], ds, tok⟩]], .cells true 5 [.row false false .u8 (encF n ds).length (encF n ds)]]⟩)))
 | _, _ => .fail
theorem f154_ok : FnOk Tryz.prog gl 154 F154 := by
 intro args mem r h
 unfold F154 at h
 split at h
 case h_2 => exact h.elim
 rename_i i ln k n l ds tok
 obtain ⟨h1, h⟩ := Tr.is_gd.1 h
 obtain ⟨h2, h⟩ := Tr.is_gd.1 h
 obtain ⟨h3, h⟩ := Tr.is_ob.1 h
 have h := Tr.is_leaf.1 h
 subst h
 simp only [Bool.and_eq_true] at h2
 have e1 := of_decide_eq_true h2.1.1
 have e2 := of_decide_eq_true h2.1.2
 have e3 := of_decide_eq_true h2.2
 subst e1 e2 e3
 rw [Nat.eq_of_beq_eq_true h1]
 obtain ⟨m, rfl⟩ := Int.eq_ofNat_of_zero_le h3.1
 exact con_to (enc_con m ds (by omega) h3.2.2.1 h3.2.2.2)
end
section
def cntB (n : Int) : List Int := [byteX n 1099511627776, byteX n 4294967296, byteX n 16777216, byteX n 65536, byteX n 256, byteX n 1]
def headL (r n : Int) : List Int := [3, r, 0, 0, 0] ++ cntB n
def nonceL (n : Int) : List Int := [0, 0, 0, 0, 0, 0] ++ cntB n
def recL (r n : Int) (S ts : List Int) : List Int := headL r n ++ sealL (ofKL S) (nonceL n) (headL r n) ts
noncomputable abbrev kG : Cons := [(231, F231L), (215, F215L), (69, F69), (235, F235)]
noncomputable def grdB (r : Int) : Blk := .cells true 189 [.one (.int true .i64 r), .one (.ptr 14 0 0 true 0), .one (.ptr 15 0 0 true 0), .one (.map 16), .one (.map 17), .one (.map 18)]
noncomputable def grdW (r : Int) : Blk := .cells true 189 [.one (.int true .i64 r), .one (.ptr 14 0 0 true 0), .one (.ptr 15 0 0 true 0), .one (.map 16), .one (.map 17), .one (.map 19)]
noncomputable def keyB (S S' : List Int) : Blk := .cells true 270 [.one (.int true .i64 0), .one (.int true .i64 0), .row true false .u8 32 S, .row true false .u8 32 S']
noncomputable def winB (ws : List Int) (nx : Int) : Blk := .cells true 259 [.row true false .u64 16 ws, .one (.int false .i64 nx)]
def sh6 : List Prop := [(0 : Int) ≤ 40, (0 : Int) ≤ 32, (0 : Int) ≤ 24, (0 : Int) ≤ 16, (0 : Int) ≤ 8, (0 : Int) ≤ 0]
def obK (k : Nat) : List Prop := [decide (((k + 16 : Nat) : Int) ≥ 16) = true, decide (((k + 16 : Nat) : Int) ≤ 272) = true]
def obN (n : Int) : List Prop := (decide (lenZ (IntKind.u64.wrap n) > 48) = false) :: sh6
def obG0 (k : Nat) (X : List Int) : List Prop := [decide ((k : Int) > 256) = false, k ≤ 1000000] ++ (obK k ++ (obK k ++ [obR X]))
def obG (k : Nat) (n : Int) (X : List Int) : List Prop :=
 [decide ((k : Int) > 256) = false, decide (n > 281474976710655) = false, decide (n ≤ 281474976710655) = true] ++ (obN n ++ ([decide (n ≤ 281474976710655) = true] ++ (obN n ++ ([k ≤ 1000000, IntKind.i64.wrap (n + 1) = n + 1, decide (n ≤ 281474976710655) = true] ++ (obK k ++ ([decide (n ≤ 281474976710655) = true] ++ (obK k ++ (obN n ++ [obR X]))))))))
noncomputable def gmN (r : Int) (S S' U U' : List Int) (cnt : List (Int × A)) (k : Nat) (ts : List Int) : List Blk := [grdB r, keyB S S', keyB U U', .lmap cnt, .lmap [], .lmap [], .cells true 5 [.row false false .u8 k ts]]
noncomputable def gmW (r : Int) (S S' U U' : List Int) (cnt : List (Int × A)) (ws : List Int) (nx : Int) (k : Nat) (ts : List Int) : List Blk := [grdW r, keyB S S', keyB U U', .lmap cnt, .lmap [(0, .ptr 18 0 0 true 0)], winB ws nx, .lmap [], .cells true 5 [.row false false .u8 k ts]]
theorem gs00_0 (S S' U U' ts : List Int) (k : Nat) : Goes (callRun tc ((env kG).fn 20) Tryz.f155 10000 [.ptr 13 0 0 true 0, .int true .i64 0, .vec 19] (gmN 0 S S' U U' [] k ts)) [.f, .t, .t, .t, .t] (obG0 k (recL 0 0 S ts)) ⟨.tup [.vec 20, .int true .i64 0], gmN 0 S S' U U' [(0, .int true .i64 1)] k ts ++ [.cells true 5 [.row false false .u8 (recL 0 0 S ts).length (recL 0 0 S ts)]]⟩ := by
 unfold Goes
 kernel_rfl
theorem gs00_n (S S' U U' ts : List Int) (k : Nat) (n : Nat) : Goes (callRun tc ((env kG).fn 20) Tryz.f155 10000 [.ptr 13 0 0 true 0, .int true .i64 0, .vec 19] (gmN 0 S S' U U' [(0, .int false .i64 (n : Int))] k ts)) [.f, .f, .a, .t, .a, .f, .a, .t, .a, .f, .a, .t, .t, .t, .a, .t, .t, .t, .a, .f] (obG k n (recL 0 n S ts)) ⟨.tup [.vec 20, .int true .i64 0], gmN 0 S S' U U' [(0, .int false .i64 ((n : Int) + 1))] k ts ++ [.cells true 5 [.row false false .u8 (recL 0 n S ts).length (recL 0 n S ts)]]⟩ := by
 unfold Goes
 kernel_rfl
theorem gs01_0 (S S' U U' ts : List Int) (k : Nat) (ws : List Int) (nx : Int) : Goes (callRun tc ((env kG).fn 20) Tryz.f155 10000 [.ptr 13 0 0 true 0, .int true .i64 0, .vec 20] (gmW 0 S S' U U' [] ws nx k ts)) [.f, .t, .t, .t, .t] (obG0 k (recL 0 0 S ts)) ⟨.tup [.vec 21, .int true .i64 0], gmW 0 S S' U U' [(0, .int true .i64 1)] ws nx k ts ++ [.cells true 5 [.row false false .u8 (recL 0 0 S ts).length (recL 0 0 S ts)]]⟩ := by
 unfold Goes
 kernel_rfl
theorem gs01_n (S S' U U' ts : List Int) (k : Nat) (ws : List Int) (nx : Int) (n : Nat) : Goes (callRun tc ((env kG).fn 20) Tryz.f155 10000 [.ptr 13 0 0 true 0, .int true .i64 0, .vec 20] (gmW 0 S S' U U' [(0, .int false .i64 (n : Int))] ws nx k ts)) [.f, .f, .a, .t, .a, .f, .a, .t, .a, .f, .a, .t, .t, .t, .a, .t, .t, .t, .a, .f] (obG k n (recL 0 n S ts)) ⟨.tup [.vec 21, .int true .i64 0], gmW 0 S S' U U' [(0, .int false .i64 ((n : Int) + 1))] ws nx k ts ++ [.cells true 5 [.row false false .u8 (recL 0 n S ts).length (recL 0 n S ts)]]⟩ := by
 unfold Goes
 kernel_rfl
theorem gs10_0 (S S' U U' ts : List Int) (k : Nat) : Goes (callRun tc ((env kG).fn 20) Tryz.f155 10000 [.ptr 13 0 0 true 0, .int true .i64 0, .vec 19] (gmN 1 S S' U U' [] k ts)) [.f, .t, .t, .t, .t] (obG0 k (recL 1 0 S ts)) ⟨.tup [.vec 20, .int true .i64 0], gmN 1 S S' U U' [(0, .int true .i64 1)] k ts ++ [.cells true 5 [.row false false .u8 (recL 1 0 S ts).length (recL 1 0 S ts)]]⟩ := by
 unfold Goes
 kernel_rfl
theorem gs10_n (S S' U U' ts : List Int) (k : Nat) (n : Nat) : Goes (callRun tc ((env kG).fn 20) Tryz.f155 10000 [.ptr 13 0 0 true 0, .int true .i64 0, .vec 19] (gmN 1 S S' U U' [(0, .int false .i64 (n : Int))] k ts)) [.f, .f, .a, .t, .a, .f, .a, .t, .a, .f, .a, .t, .t, .t, .a, .t, .t, .t, .a, .f] (obG k n (recL 1 n S ts)) ⟨.tup [.vec 20, .int true .i64 0], gmN 1 S S' U U' [(0, .int false .i64 ((n : Int) + 1))] k ts ++ [.cells true 5 [.row false false .u8 (recL 1 n S ts).length (recL 1 n S ts)]]⟩ := by
 unfold Goes
 kernel_rfl
theorem gs11_0 (S S' U U' ts : List Int) (k : Nat) (ws : List Int) (nx : Int) : Goes (callRun tc ((env kG).fn 20) Tryz.f155 10000 [.ptr 13 0 0 true 0, .int true .i64 0, .vec 20] (gmW 1 S S' U U' [] ws nx k ts)) [.f, .t, .t, .t, .t] (obG0 k (recL 1 0 S ts)) ⟨.tup [.vec 21, .int true .i64 0], gmW 1 S S' U U' [(0, .int true .i64 1)] ws nx k ts ++ [.cells true 5 [.row false false .u8 (recL 1 0 S ts).length (recL 1 0 S ts)]]⟩ := by
 unfold Goes
 kernel_rfl
theorem gs11_n (S S' U U' ts : List Int) (k : Nat) (ws : List Int) (nx : Int) (n : Nat) : Goes (callRun tc ((env kG).fn 20) Tryz.f155 10000 [.ptr 13 0 0 true 0, .int true .i64 0, .vec 20] (gmW 1 S S' U U' [(0, .int false .i64 (n : Int))] ws nx k ts)) [.f, .f, .a, .t, .a, .f, .a, .t, .a, .f, .a, .t, .t, .t, .a, .t, .t, .t, .a, .f] (obG k n (recL 1 n S ts)) ⟨.tup [.vec 21, .int true .i64 0], gmW 1 S S' U U' [(0, .int false .i64 ((n : Int) + 1))] ws nx k ts ++ [.cells true 5 [.row false false .u8 (recL 1 n S ts).length (recL 1 n S ts)]]⟩ := by
 unfold Goes
 kernel_rfl
end
section
theorem cG : ConsOk kG := ⟨fun p hp => by
  simp only [kG, List.mem_cons, List.not_mem_nil, or_false] at hp
  rcases hp with rfl | rfl | rfl | rfl
  ·exact f231L_ok
  ·exact f215L_ok
  ·exact f69_ok
  ·exact f235_ok, fun p hp h => by
  simp only [kG, List.mem_cons, List.not_mem_nil, or_false] at hp
  rcases hp with rfl | rfl | rfl | rfl
  ·exact absurd h (by decide)
  ·exact f215L_still
  ·exact f69_still
  ·exact absurd h (by decide)⟩
theorem recL_length (r n : Int) (S ts : List Int) : (recL r n S ts).length = ts.length + 27 := by
 rw [recL, List.length_append, sealL_length]
 simp [headL, cntB]
 omega
theorem sh6_ok : Conj sh6 := ⟨by decide, by decide, by decide, by decide, by decide, by decide, trivial⟩
theorem obK_ok {k : Nat} (h : k ≤ 256) : Conj (obK k) := ⟨decide_eq_true (by omega), decide_eq_true (by omega), trivial⟩
theorem obN_ok {n : Int} (h0 : 0 ≤ n) (h : n ≤ 281474976710655) : Conj (obN n) := by
 have hs := lenZ_spec (x := n) h0 (by omega)
 have hw := u64w_eq (n := n) h0 (by omega)
 exact ⟨decide_eq_false (by rw [hw]; omega), sh6_ok⟩
theorem obG0_ok {k : Nat} {X : List Int} (h : k ≤ 256) (hx : X.length ≤ 1000) : Conj (obG0 k X) :=
 Conj.app ⟨decide_eq_false (by omega), by omega, trivial⟩ (Conj.app (obK_ok h) (Conj.app (obK_ok h) ⟨obR_ok (by omega), trivial⟩))
theorem obG_ok {k : Nat} {n : Int} {X : List Int} (h : k ≤ 256) (h0 : 0 ≤ n) (hn : n ≤ 281474976710655) (hx : X.length ≤ 1000) : Conj (obG k n X) :=
 Conj.app ⟨decide_eq_false (by omega), decide_eq_false (by omega), decide_eq_true (by omega), trivial⟩ (Conj.app (obN_ok h0 hn) (Conj.app ⟨decide_eq_true (by omega), trivial⟩ (Conj.app (obN_ok h0 hn)
  (Conj.app ⟨by omega, I64.wrap ⟨by omega, by omega⟩, decide_eq_true (by omega), trivial⟩ (Conj.app (obK_ok h) (Conj.app ⟨decide_eq_true (by omega), trivial⟩ (Conj.app (obK_ok h) (Conj.app (obN_ok h0 hn) ⟨obR_ok (by omega), trivial⟩))))))))
def cntUp : List (Int × A) → Option (Int × List (Int × A))
 | [] => some (0, [(0, .int true .i64 1)])
 | [(k, .int _ .i64 n)] => match decide (k = 0) with
  | true => some (n, [(0, .int false .i64 (n + 1))])
  | false => none
 | _ => none
def tmpl {α : Type} (get : List A → List Blk → Option α) (A0 : α → List A) (M0 : α → List Blk) (pre : α → Prop) (val : α → A) (out : α → List Blk → List Blk) : Spec := fun args mem => match get args mem with
 | none => .fail
 | some q => .same (erL args, mem.map erB) (erL (A0 q), (M0 q).map erB) (.ob (pre q) (.leaf ⟨val q, out q mem⟩))
theorem tmpl_ok {α : Type} {get : List A → List Blk → Option α} {A0 : α → List A} {M0 : α → List Blk} {pre : α → Prop} {val : α → A} {out : α → List Blk → List Blk} {f : FuncId}
  (h : ∀ q args mem, get args mem = some q → pre q → WfBs (M0 q) → Con Tryz.prog gl f (A0 q) (M0 q) ⟨val q, out q (M0 q)⟩) (hout : ∀ q m m', m.map erB = m'.map erB → (out q m).map erB = (out q m').map erB) : FnOk Tryz.prog gl f (tmpl get A0 M0 pre val out) := by
 intro args mem r hr
 unfold tmpl at hr
 split at hr
 ·exact hr.elim
 ·rename_i q hq
  obtain ⟨hs, hr⟩ := Tr.is_same.1 hr
  obtain ⟨hp, hr⟩ := Tr.is_ob.1 hr
  have hr := Tr.is_leaf.1 hr
  subst hr
  have h1 : erL args = erL (A0 q) := congrArg Prod.fst hs
  have h2 : mem.map erB = (M0 q).map erB := congrArg Prod.snd hs
  exact con_er (r' := ⟨val q, out q (M0 q)⟩) h1 h2 rfl (hout q _ _ h2.symm) (con_wf fun _ hw => h q args mem hq hp hw)
structure GP where
 w : Bool
 r : Int
 S : List Int
 S' : List Int
 U : List Int
 U' : List Int
 cnt : List (Int × A)
 n : Int
 cnt' : List (Int × A)
 ws : List Int
 nx : Int
 k : Nat
 ts : List Int
def gpOf : List A → List Blk → Option GP
 | _, [.cells _ _ (.one (.int _ _ r) :: _), .cells _ _ [_, _, .row _ _ _ _ S, .row _ _ _ _ S'], .cells _ _ [_, _, .row _ _ _ _ U, .row _ _ _ _ U'], .lmap cnt, _, _, .cells _ _ [.row _ _ _ k ts]] =>
  match cntUp cnt with
  | some (n, cnt') => some ⟨false, r, S, S', U, U', cnt, n, cnt', [], 0, k, ts⟩
  | none => none
 | _, [.cells _ _ (.one (.int _ _ r) :: _), .cells _ _ [_, _, .row _ _ _ _ S, .row _ _ _ _ S'], .cells _ _ [_, _, .row _ _ _ _ U, .row _ _ _ _ U'], .lmap cnt, _, .cells _ _ [.row _ _ _ _ ws, .one (.int _ _ nx)], _, .cells _ _ [.row _ _ _ k ts]] =>
  match cntUp cnt with
  | some (n, cnt') => some ⟨true, r, S, S', U, U', cnt, n, cnt', ws, nx, k, ts⟩
  | none => none
 | _, _ => none
noncomputable def gpM (q : GP) : List Blk := match q.w with
 | false => gmN q.r q.S q.S' q.U q.U' q.cnt q.k q.ts
 | true => gmW q.r q.S q.S' q.U q.U' q.cnt q.ws q.nx q.k q.ts
noncomputable def gpA (q : GP) : List A := [.ptr 13 0 0 true 0, .int true .i64 0, .vec (match q.w with | false => 19 | true => 20)]
noncomputable def gpV (q : GP) : A := .tup [.vec (match q.w with | false => 20 | true => 21), .int true .i64 0]
noncomputable def F155 : Spec := tmpl gpOf gpA gpM (fun q => (q.r = 0 ∨ q.r = 1) ∧ q.k ≤ 256 ∧ 0 ≤ q.n ∧ q.n ≤ 281474976710655) gpV (fun q m => m.set 3 (.lmap q.cnt') ++ [.cells true 5 [.row false false .u8 (q.k + 27) (recL q.r q.n q.S q.ts)]])
theorem cntUp_spec {cnt cnt' : List (Int × A)} {n : Int} (h : cntUp cnt = some (n, cnt')) : (cnt = [] ∧ n = 0 ∧ cnt' = [(0, .int true .i64 1)]) ∨ ∃ l, cnt = [(0, .int l .i64 n)] ∧ cnt' = [(0, .int false .i64 (n + 1))] := by
 unfold cntUp at h
 split at h
 ·cases h
  exact Or.inl ⟨rfl, rfl, rfl⟩
 ·rename_i k l m
  split at h
  ·rename_i hk
   have := of_decide_eq_true hk
   subst this
   cases h
   exact Or.inr ⟨l, rfl, rfl⟩
  ·cases h
 ·cases h
theorem gs_conN {r : Int} (hr : r = 0 ∨ r = 1) (S S' U U' ts : List Int) {cnt cnt' : List (Int × A)} {n : Int} (hc : cntUp cnt = some (n, cnt')) (hk : ts.length ≤ 256) (h0 : 0 ≤ n) (hn : n ≤ 281474976710655) :
  Con Tryz.prog gl 155 [.ptr 13 0 0 true 0, .int true .i64 0, .vec 19] (gmN r S S' U U' cnt ts.length ts) ⟨.tup [.vec 20, .int true .i64 0], gmN r S S' U U' cnt' ts.length ts ++ [.cells true 5 [.row false false .u8 (ts.length + 27) (recL r n S ts)]]⟩ := by
 rw [← recL_length r n S ts]
 have hx : (recL r n S ts).length ≤ 1000 := by rw [recL_length]; omega
 rcases cntUp_spec hc with ⟨rfl, rfl, rfl⟩ | ⟨l, rfl, rfl⟩
 ·rcases hr with rfl | rfl
  ·exact con_goes cG Tryz.func155 10000 (gs00_0 S S' U U' ts ts.length) (obG0_ok hk hx)
  ·exact con_goes cG Tryz.func155 10000 (gs10_0 S S' U U' ts ts.length) (obG0_ok hk hx)
 ·obtain ⟨m, rfl⟩ := Int.eq_ofNat_of_zero_le h0
  rcases hr with rfl | rfl
  ·exact con_goes cG Tryz.func155 10000 (gs00_n S S' U U' ts ts.length m) (obG_ok hk h0 hn hx)
  ·exact con_goes cG Tryz.func155 10000 (gs10_n S S' U U' ts ts.length m) (obG_ok hk h0 hn hx)
theorem gs_conW {r : Int} (hr : r = 0 ∨ r = 1) (S S' U U' ts ws : List Int) (nx : Int) {cnt cnt' : List (Int × A)} {n : Int} (hc : cntUp cnt = some (n, cnt')) (hk : ts.length ≤ 256) (h0 : 0 ≤ n) (hn : n ≤ 281474976710655) :
  Con Tryz.prog gl 155 [.ptr 13 0 0 true 0, .int true .i64 0, .vec 20] (gmW r S S' U U' cnt ws nx ts.length ts) ⟨.tup [.vec 21, .int true .i64 0], gmW r S S' U U' cnt' ws nx ts.length ts ++ [.cells true 5 [.row false false .u8 (ts.length + 27) (recL r n S ts)]]⟩ := by
 rw [← recL_length r n S ts]
 have hx : (recL r n S ts).length ≤ 1000 := by rw [recL_length]; omega
 rcases cntUp_spec hc with ⟨rfl, rfl, rfl⟩ | ⟨l, rfl, rfl⟩
 ·rcases hr with rfl | rfl
  ·exact con_goes cG Tryz.func155 10000 (gs01_0 S S' U U' ts ts.length ws nx) (obG0_ok hk hx)
  ·exact con_goes cG Tryz.func155 10000 (gs11_0 S S' U U' ts ts.length ws nx) (obG0_ok hk hx)
 ·obtain ⟨m, rfl⟩ := Int.eq_ofNat_of_zero_le h0
  rcases hr with rfl | rfl
  ·exact con_goes cG Tryz.func155 10000 (gs01_n S S' U U' ts ts.length ws nx m) (obG_ok hk h0 hn hx)
  ·exact con_goes cG Tryz.func155 10000 (gs11_n S S' U U' ts ts.length ws nx m) (obG_ok hk h0 hn hx)
theorem gpOf_spec {args : List A} {mem : List Blk} {q : GP} (h : gpOf args mem = some q) : cntUp q.cnt = some (q.n, q.cnt') := by
 unfold gpOf at h
 split at h
 ·split at h
  ·rename_i hc
   cases h
   exact hc
  ·cases h
 ·split at h
  ·rename_i hc
   cases h
   exact hc
  ·cases h
 ·cases h
theorem f155_ok : FnOk Tryz.prog gl 155 F155 := by
 refine tmpl_ok (fun q args mem hq hp hw => ?_) (fun q m m' h => ?_)
 ·have hc := gpOf_spec hq
  obtain ⟨w, r, S, S', U, U', cnt, n, cnt', ws, nx, k, ts⟩ := q
  simp only at hp hc
  cases w with
  | false =>
   have e : ts.length = k := hw.2.2.2.2.2.2.1.1.1
   subst e
   exact gs_conN hp.1 S S' U U' ts hc hp.2.1 hp.2.2.1 hp.2.2.2
  | true =>
   have e : ts.length = k := hw.2.2.2.2.2.2.2.1.1.1
   subst e
   exact gs_conW hp.1 S S' U U' ts ws nx hc hp.2.1 hp.2.2.1 hp.2.2.2
 ·rw [List.map_append, List.map_append, List.map_set, List.map_set, h]
end
section
noncomputable abbrev kP : Cons := kE
def smallE (acc : Int) : List Int → Int
 | [] => acc
 | c :: r => smallE (bits .or .i64 (IntKind.i64.wrap (acc * 256)) (IntKind.i64.wrap c)) r
def obM (m : Nat) (r c : Int) : List Prop := [(0 : Int) ≤ 0 ∧ 0 < ((m + 11 : Nat) : Int), decide (((m + 11 : Nat) : Int) < 27) = false, (0 : Int) ≤ 0 ∧ 0 < ((m + 11 : Nat) : Int), (0 : Int) ≤ 1 ∧ 1 ≤ ((m + 11 : Nat) : Int) ∧ ((m + 11 : Nat) : Int) ≤ ((m + 11 : Nat) : Int) ∧ ((m + 11 : Nat) : Int) ≤ ((m + 11 : Nat) : Int),
 (0 : Int) ≤ 1 ∧ 1 < ((m + 11 : Nat) : Int), (0 : Int) ≤ 2 ∧ 2 < ((m + 11 : Nat) : Int), (0 : Int) ≤ 3 ∧ 3 ≤ ((m + 11 : Nat) : Int) ∧ ((m + 11 : Nat) : Int) ≤ ((m + 11 : Nat) : Int) ∧ ((m + 11 : Nat) : Int) ≤ ((m + 11 : Nat) : Int), (0 : Int) ≤ 0 ∧ (0 : Int) ≤ 2 ∧ (2 : Int) ≤ 2 ∧ 2 ≤ ((m + 8 : Nat) : Int),
 (0 : Int) ≤ 0 ∧ (0 : Int) < 2, (0 : Int) ≤ 1 ∧ (1 : Int) < 2, (0 : Int) ≤ 8, (0 : Int) ≤ 2 ∧ 2 ≤ ((m + 8 : Nat) : Int) ∧ ((m + 8 : Nat) : Int) ≤ ((m + 8 : Nat) : Int) ∧ ((m + 8 : Nat) : Int) ≤ ((m + 8 : Nat) : Int), 0 < m + 6, m + 6 ≤ 140737488355328, (0 : Int) ≤ 0 ∧ (0 : Int) ≤ 6 ∧ (6 : Int) ≤ 6 ∧ 6 ≤ ((m + 6 : Nat) : Int),
 (0 : Int) ≤ 0 ∧ (0 : Int) < 6, 0 < m + 6, (0 : Int) ≤ 1 ∧ (1 : Int) < 6, 1 < m + 6, (0 : Int) ≤ 8, (0 : Int) ≤ 2 ∧ (2 : Int) < 6, 2 < m + 6, (0 : Int) ≤ 8, (0 : Int) ≤ 3 ∧ (3 : Int) < 6, 3 < m + 6, (0 : Int) ≤ 8, (0 : Int) ≤ 4 ∧ (4 : Int) < 6, 4 < m + 6, (0 : Int) ≤ 8, (0 : Int) ≤ 5 ∧ (5 : Int) < 6, 5 < m + 6, (0 : Int) ≤ 8,
 (0 : Int) ≤ 6 ∧ 6 ≤ ((m + 6 : Nat) : Int) ∧ ((m + 6 : Nat) : Int) ≤ ((m + 6 : Nat) : Int) ∧ ((m + 6 : Nat) : Int) ≤ ((m + 6 : Nat) : Int), 6 + m ≤ m + 6, m ≤ 140737488355328, m ≤ 140737488355328, decide (IntKind.i64.wrap r ≥ 0) = true, decide (IntKind.i64.wrap r ≤ 1) = true,
 decide (c ≥ 0) = true, decide (c ≤ 281474976710655) = true, decide ((m : Int) ≥ 16) = true, decide ((m : Int) ≤ 272) = true]
theorem parse_run (n : Nat) (r : Int) (body : List Int) : Goes (callRun tc ((env kP).fn 20) Tryz.f48 10000 [.fzi false .u8 (headL r n ++ body)] []) [.a, .a, .f, .a, .a, .a, .a, .a, .a, .a, .a, .a, .a, .a, .a, .a, .a, .t, .t, .a, .a, .a, .a, .t, .t, .t, .t]
  (obM body.length r (smallE 0 (cntB n))) ⟨.tup [.agg [.int false .i64 3, .int false .i64 (IntKind.i64.wrap r), .int false .i64 0, .int false .i64 0, .int false .i64 (smallE 0 (cntB n)), .vec 13], .int true .i64 0], [.cells true 5 [.row false false .u8 body.length (body.take body.length)]]⟩ := by
 unfold Goes
 kernel_rfl
theorem or_add {a c : Int} (ha : 0 ≤ a) (hc : 0 ≤ c) (hc' : c < 256) (h : a * 256 + c < 9223372036854775808) : bits .or .i64 (IntKind.i64.wrap (a * 256)) (IntKind.i64.wrap c) = a * 256 + c := by
 rw [I64.wrap ⟨by omega, by omega⟩, I64.wrap ⟨by omega, by omega⟩]
 obtain ⟨x, rfl⟩ := Int.eq_ofNat_of_zero_le ha
 obtain ⟨y, rfl⟩ := Int.eq_ofNat_of_zero_le hc
 show IntKind.i64.wrap (((BitVec.ofInt 64 ((x : Int) * 256) ||| BitVec.ofInt 64 (y : Int)).toNat : Nat) : Int) = _
 have e : ((x : Int) * 256) = ((x * 256 : Nat) : Int) := by omega
 rw [e, BitVec.toNat_or, BitVec.ofInt_natCast, BitVec.ofInt_natCast, BitVec.toNat_ofNat, BitVec.toNat_ofNat, Nat.mod_eq_of_lt (by omega), Nat.mod_eq_of_lt (by omega)]
 have := Nat.two_pow_add_eq_or_of_lt (i := 8) (b := y) (by omega) x
 rw [show x * 256 = 2 ^ 8 * x by omega, ← this]
 exact I64.wrap ⟨by omega, by omega⟩
theorem small6 {n : Int} (h0 : 0 ≤ n) (h : n ≤ 281474976710655) : smallE 0 (cntB n) = n := by
 have hb : ∀ q : Int, 0 < q → byteX n q = n / q % 256 := fun q hq => by
  unfold byteX
  rw [Int.fdiv_eq_ediv_of_nonneg _ (by omega)]
  simp [IntKind.wrap, IntKind.signed, IntKind.bits]
 unfold cntB
 rw [hb _ (by decide), hb _ (by decide), hb _ (by decide), hb _ (by decide), hb _ (by decide), hb _ (by decide)]
 simp only [smallE]
 rw [or_add (a := 0) (c := n / 1099511627776 % 256) (by omega) (by omega) (by omega) (by omega)]
 rw [or_add (a := (0 * 256 + n / 1099511627776 % 256)) (c := n / 4294967296 % 256) (by omega) (by omega) (by omega) (by omega)]
 rw [or_add (a := ((0 * 256 + n / 1099511627776 % 256) * 256 + n / 4294967296 % 256)) (c := n / 16777216 % 256) (by omega) (by omega) (by omega) (by omega)]
 rw [or_add (a := (((0 * 256 + n / 1099511627776 % 256) * 256 + n / 4294967296 % 256) * 256 + n / 16777216 % 256)) (c := n / 65536 % 256) (by omega) (by omega) (by omega) (by omega)]
 rw [or_add (a := ((((0 * 256 + n / 1099511627776 % 256) * 256 + n / 4294967296 % 256) * 256 + n / 16777216 % 256) * 256 + n / 65536 % 256)) (c := n / 256 % 256) (by omega) (by omega) (by omega) (by omega)]
 rw [or_add (a := (((((0 * 256 + n / 1099511627776 % 256) * 256 + n / 4294967296 % 256) * 256 + n / 16777216 % 256) * 256 + n / 65536 % 256) * 256 + n / 256 % 256)) (c := n / 1 % 256) (by omega) (by omega) (by omega) (by omega)]
 omega
theorem parse_con {r n : Int} (hr : r = 0 ∨ r = 1) (h0 : 0 ≤ n) (h : n ≤ 281474976710655) (body : List Int) (h1 : 16 ≤ body.length) (h2 : body.length ≤ 272) :
  Con Tryz.prog gl 48 [.fzi false .u8 (headL r n ++ body)] [] ⟨.tup [.agg [.int false .i64 3, .int false .i64 r, .int false .i64 0, .int false .i64 0, .int false .i64 n, .vec 13], .int true .i64 0], [.cells true 5 [.row false false .u8 body.length body]]⟩ := by
 obtain ⟨m, rfl⟩ := Int.eq_ofNat_of_zero_le h0
 have run := parse_run m r body
 have hw : IntKind.i64.wrap r = r := I64.wrap (by rcases hr with rfl | rfl <;> exact ⟨by decide, by decide⟩)
 rw [small6 h0 h, List.take_length, hw] at run
 refine con_goes cE Tryz.func48 10000 run ?_
 unfold obM
 rw [hw]
 refine ⟨by omega, decide_eq_false (by omega), by omega, by omega, by omega, by omega, by omega, by omega, by omega, by omega, by omega, by omega, by omega, by omega, by omega, by omega, by omega, by omega, by omega, by omega, by omega, by omega, by omega, by omega, by omega, by omega, by omega, by omega, by omega, by omega, by omega, by omega, by omega, by omega, by omega, by omega, ?_, ?_, ?_, ?_, ?_, ?_, trivial⟩
 all_goals refine decide_eq_true ?_
 all_goals omega
end
section
def pin (A0 : List A) (M0 : List Blk) (r : Res) : Spec := fun args mem => .same (erL args, mem.map erB) (erL A0, M0.map erB) (.leaf r)
theorem pin_ok {f : FuncId} {A0 : List A} {M0 : List Blk} {r : Res} (h : Con Tryz.prog gl f A0 M0 r) : FnOk Tryz.prog gl f (pin A0 M0 r) := by
 intro args mem r' hr
 obtain ⟨hs, hr⟩ := Tr.is_same.1 hr
 have hr := Tr.is_leaf.1 hr
 subst hr
 exact con_er (congrArg Prod.fst hs) (congrArg Prod.snd hs) rfl rfl h
theorem cons_ok {f : FuncId} {F : Spec} {l : Cons} (h : FnOk Tryz.prog gl f F) (hs : memN f ros = false ∨ Still F) (hl : ConsOk l) : ConsOk ((f, F) :: l) :=
 ⟨fun p hp => by
  rcases List.mem_cons.1 hp with rfl | hp
  ·exact h
  ·exact hl.ok p hp, fun p hp hr => by
  rcases List.mem_cons.1 hp with rfl | hp
  ·rcases hs with hs | hs
   ·rw [hs] at hr; cases hr
   ·exact hs
  ·exact hl.still p hp hr⟩
def pinR (A0 : List A) (M0 : List Blk) (v : A) (rest : List Blk) : Spec := fun args mem => .same (erL args, mem.map erB) (erL A0, M0.map erB) (.leaf ⟨v, mem ++ rest⟩)
theorem pinR_ok {f : FuncId} {A0 : List A} {M0 rest : List Blk} {v : A} (h : Con Tryz.prog gl f A0 M0 ⟨v, M0 ++ rest⟩) : FnOk Tryz.prog gl f (pinR A0 M0 v rest) := by
 intro args mem r' hr
 obtain ⟨hs, hr⟩ := Tr.is_same.1 hr
 have hr := Tr.is_leaf.1 hr
 subst hr
 have h2 : mem.map erB = M0.map erB := congrArg Prod.snd hs
 exact con_er (r' := ⟨v, M0 ++ rest⟩) (congrArg Prod.fst hs) h2 rfl (by rw [List.map_append, List.map_append, h2]) h
theorem pinR_still (A0 : List A) (M0 : List Blk) (v : A) (rest : List Blk) : Still (pinR A0 M0 v rest) := fun args mem r hr => by
 obtain ⟨_, hr⟩ := Tr.is_same.1 hr
 have hr := Tr.is_leaf.1 hr
 subst hr
 exact ⟨rest, rfl⟩
noncomputable def pktA (r n : Int) : A := .tup [.agg [.int false .i64 3, .int false .i64 r, .int false .i64 0, .int false .i64 0, .int false .i64 n, .vec 13], .int true .i64 0]
noncomputable abbrev pParse (r n : Int) (body : List Int) : Spec := pinR [.fzi false .u8 (headL r n ++ body)] [] (pktA r n) [.cells true 5 [.row false false .u8 body.length body]]
def z16 : List Int := List.replicate 16 0
noncomputable abbrev kO (r n : Int) (body ws ws' : List Int) (nx nx' : Int) : Cons := [(48, pParse r n body), (116, pinR [.ptr 13 0 0 true 0, .int false .i64 n] [winB ws nx] (.int true .i64 0) []), (121, pin [.ptr 13 0 0 true 0, .int false .i64 n] [winB ws nx] ⟨.int true .i64 0, [winB ws' nx']⟩),
 (231, F231L), (117, F117L), (69, F69), (235, F235)]
end
section
def obJ (n : Int) (m : Nat) : List Prop := [decide (n ≤ 281474976710655) = true, decide ((m : Int) ≥ 16) = true, decide ((m : Int) ≤ 272) = true, (0 : Int) ≤ 8, (0 : Int) ≤ 0] ++ obN n
def obO (n : Int) (m : Nat) (p : Prop) : List Prop := [(0 : Int) = 0, (0 : Int) ≤ 0 ∧ (0 : Int) < 2, 0 + 0 * 32 + 32 ≤ 32] ++ (obJ n m ++ (obJ n m ++ [16 ≤ m, m ≤ 1000000, p]))
def bodyR (r n : Int) (U ts : List Int) : List Int := sealL (ofKL U) (nonceL n) (headL r n) ts
def keyR (U : List Int) : List Int := ofKL ((U.drop (0 + 0 * 32)).take 32)
def gotR (r n : Int) (U B : List Int) : List Int := xorC (keyR U) 1 (nonceL n) (B.take (B.length - 16))
def tagR (r n : Int) (U B : List Int) : Prop := B.drop (B.length - 16) = tagL (keyR U) (nonceL n) (headL r n) (B.take (B.length - 16))
noncomputable def resO (n : Int) (j : Nat) : A := .tup [.int false .i64 0, .int false .i64 n, .vec j, .int true .i64 0]
noncomputable def omN (r : Int) (S S' U U' : List Int) (cnt now : List (Int × A)) : List Blk := [grdB r, keyB S S', keyB U U', .lmap cnt, .lmap now, .lmap []]
noncomputable def omW (r : Int) (S S' U U' : List Int) (cnt : List (Int × A)) (ws : List Int) (nx : Int) : List Blk := [grdW r, keyB S S', keyB U U', .lmap cnt, .lmap [(0, .ptr 18 0 0 true 0)], winB ws nx, .lmap []]
def hsO : List H := [.a, .a, .a, .a, .a, .a, .a, .a, .a, .a, .a, .a, .a, .a, .a, .t, .t, .t, .a, .a, .a, .f, .a, .a, .a, .a, .a, .a, .a, .a, .t, .t, .t, .a, .a, .a, .f]
theorem go000 (n : Nat) (S S' U U' ws B : List Int) (nx : Int) : Goes (callRun tc ((env (kO 1 n B z16 ws 0 nx)).fn 20) Tryz.f51 10000 [.ptr 13 0 0 true 0, .fzi false .u8 (headL 1 n ++ B)] (omN 0 S S' U U' [] [])) hsO (obO n B.length (tagR 1 n U B))
  ⟨resO n 19, omN 0 S S' U U' [] [(0, .ptr 20 0 0 true 0)] ++ [.cells true 5 [.row false false .u8 (B.length - 16) (gotR 1 n U B)], winB ws nx]⟩ := by
 unfold Goes
 kernel_rfl
theorem go010 (n : Nat) (S S' U U' ws ws' B : List Int) (nx nx' : Int) : Goes (callRun tc ((env (kO 1 n B ws ws' nx nx')).fn 20) Tryz.f51 10000 [.ptr 13 0 0 true 0, .fzi false .u8 (headL 1 n ++ B)] (omW 0 S S' U U' [] ws nx)) hsO (obO n B.length (tagR 1 n U B))
  ⟨resO n 20, omW 0 S S' U U' [] ws' nx' ++ [.cells true 5 [.row false false .u8 (B.length - 16) (gotR 1 n U B)]]⟩ := by
 unfold Goes
 kernel_rfl
theorem go001 (n : Nat) (c : Int) (S S' U U' ws B : List Int) (nx : Int) : Goes (callRun tc ((env (kO 1 n B z16 ws 0 nx)).fn 20) Tryz.f51 10000 [.ptr 13 0 0 true 0, .fzi false .u8 (headL 1 n ++ B)] (omN 0 S S' U U' [(0, .int false .i64 c)] [])) hsO (obO n B.length (tagR 1 n U B))
  ⟨resO n 19, omN 0 S S' U U' [(0, .int false .i64 c)] [(0, .ptr 20 0 0 true 0)] ++ [.cells true 5 [.row false false .u8 (B.length - 16) (gotR 1 n U B)], winB ws nx]⟩ := by
 unfold Goes
 kernel_rfl
theorem go011 (n : Nat) (c : Int) (S S' U U' ws ws' B : List Int) (nx nx' : Int) : Goes (callRun tc ((env (kO 1 n B ws ws' nx nx')).fn 20) Tryz.f51 10000 [.ptr 13 0 0 true 0, .fzi false .u8 (headL 1 n ++ B)] (omW 0 S S' U U' [(0, .int false .i64 c)] ws nx)) hsO (obO n B.length (tagR 1 n U B))
  ⟨resO n 20, omW 0 S S' U U' [(0, .int false .i64 c)] ws' nx' ++ [.cells true 5 [.row false false .u8 (B.length - 16) (gotR 1 n U B)]]⟩ := by
 unfold Goes
 kernel_rfl
theorem go100 (n : Nat) (S S' U U' ws B : List Int) (nx : Int) : Goes (callRun tc ((env (kO 0 n B z16 ws 0 nx)).fn 20) Tryz.f51 10000 [.ptr 13 0 0 true 0, .fzi false .u8 (headL 0 n ++ B)] (omN 1 S S' U U' [] [])) hsO (obO n B.length (tagR 0 n U B))
  ⟨resO n 19, omN 1 S S' U U' [] [(0, .ptr 20 0 0 true 0)] ++ [.cells true 5 [.row false false .u8 (B.length - 16) (gotR 0 n U B)], winB ws nx]⟩ := by
 unfold Goes
 kernel_rfl
theorem go110 (n : Nat) (S S' U U' ws ws' B : List Int) (nx nx' : Int) : Goes (callRun tc ((env (kO 0 n B ws ws' nx nx')).fn 20) Tryz.f51 10000 [.ptr 13 0 0 true 0, .fzi false .u8 (headL 0 n ++ B)] (omW 1 S S' U U' [] ws nx)) hsO (obO n B.length (tagR 0 n U B))
  ⟨resO n 20, omW 1 S S' U U' [] ws' nx' ++ [.cells true 5 [.row false false .u8 (B.length - 16) (gotR 0 n U B)]]⟩ := by
 unfold Goes
 kernel_rfl
theorem go101 (n : Nat) (c : Int) (S S' U U' ws B : List Int) (nx : Int) : Goes (callRun tc ((env (kO 0 n B z16 ws 0 nx)).fn 20) Tryz.f51 10000 [.ptr 13 0 0 true 0, .fzi false .u8 (headL 0 n ++ B)] (omN 1 S S' U U' [(0, .int false .i64 c)] [])) hsO (obO n B.length (tagR 0 n U B))
  ⟨resO n 19, omN 1 S S' U U' [(0, .int false .i64 c)] [(0, .ptr 20 0 0 true 0)] ++ [.cells true 5 [.row false false .u8 (B.length - 16) (gotR 0 n U B)], winB ws nx]⟩ := by
 unfold Goes
 kernel_rfl
theorem go111 (n : Nat) (c : Int) (S S' U U' ws ws' B : List Int) (nx nx' : Int) : Goes (callRun tc ((env (kO 0 n B ws ws' nx nx')).fn 20) Tryz.f51 10000 [.ptr 13 0 0 true 0, .fzi false .u8 (headL 0 n ++ B)] (omW 1 S S' U U' [(0, .int false .i64 c)] ws nx)) hsO (obO n B.length (tagR 0 n U B))
  ⟨resO n 20, omW 1 S S' U U' [(0, .int false .i64 c)] ws' nx' ++ [.cells true 5 [.row false false .u8 (B.length - 16) (gotR 0 n U B)]]⟩ := by
 unfold Goes
 kernel_rfl
end
section
def Byts (l : List Int) : Prop := ∀ x ∈ l, 0 ≤ x ∧ x < 256
theorem keyR_eq {U : List Int} (h : U.length = 32) : keyR U = ofKL U := by
 unfold keyR
 rw [Nat.zero_mul, Nat.add_zero, List.drop_zero, List.take_of_length_le (by omega)]
theorem bodyR_length (r n : Int) (U ts : List Int) : (bodyR r n U ts).length = ts.length + 16 := sealL_length ..
theorem bodyR_take (r n : Int) (U ts : List Int) : (bodyR r n U ts).take ((bodyR r n U ts).length - 16) = xorC (ofKL U) 1 (nonceL n) ts := by
 rw [bodyR_length, Nat.add_sub_cancel]
 unfold bodyR sealL
 rw [← xorC_length (ofKL U) 1 (nonceL n) ts, List.take_left]
theorem got_eq {r n : Int} {U ts : List Int} (h : U.length = 32) (ht : Byts ts) : gotR r n U (bodyR r n U ts) = ts := by
 unfold gotR
 rw [keyR_eq h, bodyR_take, xorC_twice ht]
theorem tag_ok {r n : Int} {U ts : List Int} (h : U.length = 32) : tagR r n U (bodyR r n U ts) := by
 unfold tagR
 rw [keyR_eq h, bodyR_take, bodyR_length, Nat.add_sub_cancel]
 unfold bodyR sealL
 have e : ts.length = (xorC (ofKL U) 1 (nonceL n) ts).length := (xorC_length ..).symm
 rw [e, List.drop_left]
theorem obJ_ok {n : Int} {m : Nat} (h0 : 0 ≤ n) (h : n ≤ 281474976710655) (h1 : 16 ≤ m) (h2 : m ≤ 272) : Conj (obJ n m) :=
 Conj.app ⟨decide_eq_true (by omega), decide_eq_true (by omega), decide_eq_true (by omega), by decide, by decide, trivial⟩ (obN_ok h0 h)
theorem obO_ok {n : Int} {m : Nat} {p : Prop} (h0 : 0 ≤ n) (h : n ≤ 281474976710655) (h1 : 16 ≤ m) (h2 : m ≤ 272) (hp : p) : Conj (obO n m p) :=
 Conj.app ⟨rfl, by decide, by decide, trivial⟩ (Conj.app (obJ_ok h0 h h1 h2) (Conj.app (obJ_ok h0 h h1 h2) ⟨by omega, by omega, hp, trivial⟩))
structure WinOk (n : Int) (ws : List Int) (nx : Int) (ws' : List Int) (nx' : Int) : Prop where
 chk : Con Tryz.prog gl 116 [.ptr 13 0 0 true 0, .int false .i64 n] [winB ws nx] ⟨.int true .i64 0, [winB ws nx]⟩
 mark : Con Tryz.prog gl 121 [.ptr 13 0 0 true 0, .int false .i64 n] [winB ws nx] ⟨.int true .i64 0, [winB ws' nx']⟩
theorem kO_ok {r n : Int} {body ws ws' : List Int} {nx nx' : Int} (hr : r = 0 ∨ r = 1) (h0 : 0 ≤ n) (h : n ≤ 281474976710655) (h1 : 16 ≤ body.length) (h2 : body.length ≤ 272) (hw : WinOk n ws nx ws' nx') : ConsOk (kO r n body ws ws' nx nx') := by
 refine cons_ok (pinR_ok (parse_con hr h0 h body h1 h2)) (Or.inr (pinR_still _ _ _ _)) (cons_ok (pinR_ok (by rw [List.append_nil]; exact hw.chk)) (Or.inr (pinR_still _ _ _ _)) (cons_ok (pin_ok hw.mark) (Or.inl (by decide)) (cons_ok f231L_ok (Or.inl (by decide)) (cons_ok f117L_ok (Or.inl (by decide)) (cons_ok f69_ok (Or.inr f69_still) (cons_ok f235_ok (Or.inl (by decide)) cons0))))))
def CntOk (cnt : List (Int × A)) : Prop := cnt = [] ∨ ∃ c : Int, cnt = [(0, .int false .i64 c)]
theorem open_conN {me r : Int} (hm : (me = 0 ∧ r = 1) ∨ (me = 1 ∧ r = 0)) {n : Int} (h0 : 0 ≤ n) (h : n ≤ 281474976710655) {S S' U U' ts ws : List Int} {nx : Int} {cnt : List (Int × A)} (hc : CntOk cnt) (hU : U.length = 32) (ht : Byts ts) (hl : ts.length ≤ 256) (hw : WinOk n z16 0 ws nx) :
  Con Tryz.prog gl 51 [.ptr 13 0 0 true 0, .fzi false .u8 (recL r n U ts)] (omN me S S' U U' cnt []) ⟨resO n 19, omN me S S' U U' cnt [(0, .ptr 20 0 0 true 0)] ++ [.cells true 5 [.row false false .u8 ts.length ts], winB ws nx]⟩ := by
 have hb := bodyR_length r n U ts
 have hr : r = 0 ∨ r = 1 := by omega
 have hk : ConsOk (kO r n (bodyR r n U ts) z16 ws 0 nx) := kO_ok hr h0 h (by omega) (by omega) hw
 have ho := obO_ok (n := n) (m := (bodyR r n U ts).length) (p := tagR r n U (bodyR r n U ts)) h0 h (by omega) (by omega) (tag_ok hU)
 have hg : gotR r n U (bodyR r n U ts) = ts := got_eq hU ht
 have hlen : (bodyR r n U ts).length - 16 = ts.length := by omega
 show Con Tryz.prog gl 51 [.ptr 13 0 0 true 0, .fzi false .u8 (headL r n ++ bodyR r n U ts)] _ _
 obtain ⟨m, rfl⟩ := Int.eq_ofNat_of_zero_le h0
 rcases hm with ⟨rfl, rfl⟩ | ⟨rfl, rfl⟩ <;> rcases hc with rfl | ⟨c, rfl⟩
 ·have run := go000 m S S' U U' ws (bodyR 1 m U ts) nx
  rw [hg, hlen] at run
  exact con_goes hk Tryz.func51 10000 run ho
 ·have run := go001 m c S S' U U' ws (bodyR 1 m U ts) nx
  rw [hg, hlen] at run
  exact con_goes hk Tryz.func51 10000 run ho
 ·have run := go100 m S S' U U' ws (bodyR 0 m U ts) nx
  rw [hg, hlen] at run
  exact con_goes hk Tryz.func51 10000 run ho
 ·have run := go101 m c S S' U U' ws (bodyR 0 m U ts) nx
  rw [hg, hlen] at run
  exact con_goes hk Tryz.func51 10000 run ho
theorem open_conW {me r : Int} (hm : (me = 0 ∧ r = 1) ∨ (me = 1 ∧ r = 0)) {n : Int} (h0 : 0 ≤ n) (h : n ≤ 281474976710655) {S S' U U' ts ws ws' : List Int} {nx nx' : Int} {cnt : List (Int × A)} (hc : CntOk cnt) (hU : U.length = 32) (ht : Byts ts) (hl : ts.length ≤ 256) (hw : WinOk n ws nx ws' nx') :
  Con Tryz.prog gl 51 [.ptr 13 0 0 true 0, .fzi false .u8 (recL r n U ts)] (omW me S S' U U' cnt ws nx) ⟨resO n 20, omW me S S' U U' cnt ws' nx' ++ [.cells true 5 [.row false false .u8 ts.length ts]]⟩ := by
 have hb := bodyR_length r n U ts
 have hr : r = 0 ∨ r = 1 := by omega
 have hk : ConsOk (kO r n (bodyR r n U ts) ws ws' nx nx') := kO_ok hr h0 h (by omega) (by omega) hw
 have ho := obO_ok (n := n) (m := (bodyR r n U ts).length) (p := tagR r n U (bodyR r n U ts)) h0 h (by omega) (by omega) (tag_ok hU)
 have hg : gotR r n U (bodyR r n U ts) = ts := got_eq hU ht
 have hlen : (bodyR r n U ts).length - 16 = ts.length := by omega
 show Con Tryz.prog gl 51 [.ptr 13 0 0 true 0, .fzi false .u8 (headL r n ++ bodyR r n U ts)] _ _
 obtain ⟨m, rfl⟩ := Int.eq_ofNat_of_zero_le h0
 rcases hm with ⟨rfl, rfl⟩ | ⟨rfl, rfl⟩ <;> rcases hc with rfl | ⟨c, rfl⟩
 ·have run := go010 m S S' U U' ws ws' (bodyR 1 m U ts) nx nx'
  rw [hg, hlen] at run
  exact con_goes hk Tryz.func51 10000 run ho
 ·have run := go011 m c S S' U U' ws ws' (bodyR 1 m U ts) nx nx'
  rw [hg, hlen] at run
  exact con_goes hk Tryz.func51 10000 run ho
 ·have run := go110 m S S' U U' ws ws' (bodyR 0 m U ts) nx nx'
  rw [hg, hlen] at run
  exact con_goes hk Tryz.func51 10000 run ho
 ·have run := go111 m c S S' U U' ws ws' (bodyR 0 m U ts) nx nx'
  rw [hg, hlen] at run
  exact con_goes hk Tryz.func51 10000 run ho
end
section
def shI (b : Int) : Int := IntKind.i64.wrap (1 * 2 ^ min (Int.toNat (IntKind.i64.wrap (Int.fdiv b 64))) 64)
def shB (b : Int) : Int := IntKind.i64.wrap (1 * 2 ^ min (Int.toNat (Int.fdiv b 64)) 64)
def ownV (xs : List Int) (off m : Nat) (s : Int) : List Int := subL false (off + 0) (s.toNat - 0) m xs
def setV (o : List Int) : List Int := o.set 0 (bits .and .u8 (o.getD 0 0) 63)
def v0V (o : List Int) : Int := bits .or .i64 0 (IntKind.i64.wrap ((setV o).getD 0 0))
def v1V (o : List Int) : Int := bits .or .i64 (IntKind.i64.wrap (v0V o * 256)) (IntKind.i64.wrap ((setV o).getD 1 0))
def obV1 (b : Int) (off len m : Nat) : List Prop := [((len : Int) == 0) = false, (0 : Int) ≤ 0 ∧ 0 < (len : Int), off + 0 < m, (0 : Int) ≤ 6, 0 ≤ Int.fdiv b 64, decide ((len : Int) < shB b) = false, (0 : Int) ≤ 0 ∧ 0 < (len : Int), off + 0 < m, (0 : Int) ≤ 6, 0 ≤ IntKind.i64.wrap (Int.fdiv b 64),
 (0 : Int) ≤ 0 ∧ 0 ≤ shI b ∧ shI b ≤ shI b ∧ shI b ≤ ((m - off : Nat) : Int), off + 0 + ((shI b).toNat - 0) ≤ m, (shI b).toNat - 0 ≤ 140737488355328, (0 : Int) ≤ 0 ∧ 0 < (((shI b).toNat - 0 : Nat) : Int), 0 < (shI b).toNat - 0, (0 : Int) ≤ 0 ∧ 0 < (((shI b).toNat - 0 : Nat) : Int), 0 < (shI b).toNat - 0,
 decide (0 < (((shI b).toNat - 0 : Nat) : Int)) = true, (0 : Int) ≤ 0 ∧ 0 < (((shI b).toNat - 0 : Nat) : Int), 0 < (shI b).toNat - 0]
def obV2 (b : Int) (off len m : Nat) : List Prop := [0 ≤ IntKind.i64.wrap (Int.fdiv b 64), 0 ≤ shI b ∧ shI b ≤ (len : Int) ∧ (len : Int) ≤ (len : Int) ∧ (len : Int) ≤ ((m - off : Nat) : Int), off + (shI b).toNat + (len - (shI b).toNat) ≤ m, len - (shI b).toNat ≤ 140737488355328]
noncomputable def resTV (t : TypeId) (xs : List Int) (off len m : Nat) (s v : Int) : Res := ⟨.tup [.int false .i64 v, .vec 14, .int true .i64 0], [.cells true t [.row false false .u8 m xs], .cells true 5 [.row false false .u8 (len - s.toNat) (subL false (off + s.toNat) (len - s.toNat) m xs)]]⟩
theorem tv0 (xs : List Int) (off len m : Nat) (t : TypeId) : Goes (callRun tc ((env kE).fn 20) Tryz.f238 1000 [.slc false 13 0 off len none] [.cells true t [.row false false .u8 m xs]]) [.f, .f, .t, .f, .t, .f]
  (obV1 (xs.getD (off + 0) 0) off len m ++ ([decide (1 < (((shI (xs.getD (off + 0) 0)).toNat - 0 : Nat) : Int)) = false, decide (lenZ (IntKind.u64.wrap (v0V (ownV xs off m (shI (xs.getD (off + 0) 0))))) ≤ 6) = true, ((0 : Int) != IntKind.i64.wrap (Int.fdiv (xs.getD (off + 0) 0) 64)) = false] ++ obV2 (xs.getD (off + 0) 0) off len m))
  (resTV t xs off len m (shI (xs.getD (off + 0) 0)) (v0V (ownV xs off m (shI (xs.getD (off + 0) 0))))) := by
 unfold Goes
 kernel_rfl
theorem tv1 (xs : List Int) (off len m : Nat) (t : TypeId) : Goes (callRun tc ((env kE).fn 20) Tryz.f238 1000 [.slc false 13 0 off len none] [.cells true t [.row false false .u8 m xs]]) [.f, .f, .t, .t, .f, .f, .t, .f]
  (obV1 (xs.getD (off + 0) 0) off len m ++ ([decide (1 < (((shI (xs.getD (off + 0) 0)).toNat - 0 : Nat) : Int)) = true, (0 : Int) ≤ 1 ∧ 1 < (((shI (xs.getD (off + 0) 0)).toNat - 0 : Nat) : Int), 1 < (shI (xs.getD (off + 0) 0)).toNat - 0, (0 : Int) ≤ 8, decide (2 < (((shI (xs.getD (off + 0) 0)).toNat - 0 : Nat) : Int)) = false,
   decide (lenZ (IntKind.u64.wrap (v1V (ownV xs off m (shI (xs.getD (off + 0) 0))))) ≤ 6) = false, decide (lenZ (IntKind.u64.wrap (v1V (ownV xs off m (shI (xs.getD (off + 0) 0))))) ≤ 14) = true, ((1 : Int) != IntKind.i64.wrap (Int.fdiv (xs.getD (off + 0) 0) 64)) = false] ++ obV2 (xs.getD (off + 0) 0) off len m))
  (resTV t xs off len m (shI (xs.getD (off + 0) 0)) (v1V (ownV xs off m (shI (xs.getD (off + 0) 0))))) := by
 unfold Goes
 kernel_rfl
theorem and63 {b : Int} (h : 0 ≤ b) (h' : b < 128) : bits .and .u8 b 63 = b % 64 := by
 have key : ∀ n : Nat, n < 128 → bits .and .u8 (n : Int) 63 = (n : Int) % 64 := by decide
 obtain ⟨n, rfl⟩ := Int.eq_ofNat_of_zero_le h
 exact key n (by omega)
theorem or0 {b : Int} (h : 0 ≤ b) (h' : b < 256) : bits .or .i64 0 (IntKind.i64.wrap b) = b := by
 have := or_add (a := 0) (c := b) (by omega) h h' (by omega)
 simpa [I64.wrap (n := 0) ⟨by decide, by decide⟩] using this
theorem sh_small {b : Int} (h : 0 ≤ b) (h' : b < 64) : shI b = 1 ∧ shB b = 1 ∧ IntKind.i64.wrap (Int.fdiv b 64) = 0 ∧ Int.fdiv b 64 = 0 := by
 have e : Int.fdiv b 64 = 0 := by rw [Int.fdiv_eq_ediv_of_nonneg _ (by decide)]; omega
 have w : IntKind.i64.wrap 0 = 0 := I64.wrap ⟨by decide, by decide⟩
 unfold shI shB
 rw [e, w]
 exact ⟨by decide, by decide, rfl, rfl⟩
theorem sh_mid {b : Int} (h : 64 ≤ b) (h' : b < 128) : shI b = 2 ∧ shB b = 2 ∧ IntKind.i64.wrap (Int.fdiv b 64) = 1 ∧ Int.fdiv b 64 = 1 := by
 have e : Int.fdiv b 64 = 1 := by rw [Int.fdiv_eq_ediv_of_nonneg _ (by decide)]; omega
 have w : IntKind.i64.wrap 1 = 1 := I64.wrap ⟨by decide, by decide⟩
 unfold shI shB
 rw [e, w]
 exact ⟨by decide, by decide, rfl, rfl⟩
theorem ownV_1 {xs : List Int} {off m : Nat} (hm : xs.length = m) (h : off < m) : ownV xs off m 1 = [xs.getD off 0] := by
 unfold ownV
 rw [subL_eq hm]
 apply List.ext_getElem?
 intro i
 cases i with
 | zero => simp [List.getD_eq_getElem?_getD, List.getElem?_eq_getElem (show off < xs.length by omega)]
 | succ i =>
  simp
  omega
theorem ownV_2 {xs : List Int} {off m : Nat} (hm : xs.length = m) (h : off + 1 < m) : ownV xs off m 2 = [xs.getD off 0, xs.getD (off + 1) 0] := by
 unfold ownV
 rw [subL_eq hm]
 apply List.ext_getElem?
 intro i
 match i with
 | 0 => simp [List.getD_eq_getElem?_getD, List.getElem?_eq_getElem (show off < xs.length by omega)]
 | 1 => simp [List.getD_eq_getElem?_getD, List.getElem?_eq_getElem (show off + 1 < xs.length by omega)]
 | i + 2 =>
  simp
  omega
theorem v0V_eq {b : Int} (h : 0 ≤ b) (h' : b < 64) : v0V [b] = b := by
 unfold v0V setV
 simp only [List.getD_cons_zero, List.set_cons_zero]
 rw [and63 h (by omega), or0 (by omega) (by omega)]
 omega
theorem v1V_eq {b c : Int} (h : 64 ≤ b) (h' : b < 128) (hc : 0 ≤ c) (hc' : c < 256) : v1V [b, c] = (b - 64) * 256 + c := by
 unfold v1V v0V setV
 simp only [List.getD_cons_zero, List.set_cons_zero, List.getD_cons_succ]
 rw [and63 (by omega) (by omega), or0 (by omega) (by omega), or_add (by omega) hc hc' (by omega)]
 omega
theorem obV1_ok {b : Int} {off len m : Nat} {s : Int} (h : 1 ≤ len) (hs : s = 1 ∨ s = 2) (hl : s ≤ len) (hm : off + len ≤ m) (e : shI b = s) (e' : shB b = s) (f : 0 ≤ IntKind.i64.wrap (Int.fdiv b 64)) (f' : 0 ≤ Int.fdiv b 64) : Conj (obV1 b off len m) := by
 unfold obV1
 rw [e, e']
 refine ⟨?_, by omega, by omega, by decide, f', decide_eq_false (by omega), by omega, by omega, by decide, f, by omega, by omega, by omega, by omega, by omega, by omega, by omega, decide_eq_true (by omega), by omega, by omega, trivial⟩
 have : ¬ (len : Int) = 0 := by omega
 simpa using this
theorem obV2_ok {b : Int} {off len m : Nat} {s : Int} (hs : s = 1 ∨ s = 2) (hl : s ≤ len) (hm : off + len ≤ m) (hb : len ≤ 140737488355328) (e : shI b = s) (f : 0 ≤ IntKind.i64.wrap (Int.fdiv b 64)) : Conj (obV2 b off len m) := by
 unfold obV2
 rw [e]
 exact ⟨f, by omega, by omega, by omega, trivial⟩
theorem tv_con0 {xs : List Int} {off len m : Nat} (t : TypeId) (hx : xs.length = m) (h : 1 ≤ len) (hm : off + len ≤ m) (hb : len ≤ 140737488355328) (h0 : 0 ≤ xs.getD off 0) (h64 : xs.getD off 0 < 64) :
  Con Tryz.prog gl 238 [.slc false 13 0 off len none] [.cells true t [.row false false .u8 m xs]] ⟨.tup [.int false .i64 (xs.getD off 0), .vec 14, .int true .i64 0], [.cells true t [.row false false .u8 m xs], .cells true 5 [.row false false .u8 (len - 1) ((xs.drop (off + 1)).take (len - 1))]]⟩ := by
 have run := tv0 xs off len m t
 rw [Nat.add_zero] at run
 obtain ⟨e1, e2, e3, e4⟩ := sh_small h0 h64
 rw [e1, ownV_1 hx (by omega), v0V_eq h0 h64] at run
 have hs := lenZ_spec (x := xs.getD off 0) h0 (by omega)
 have hw := u64w_eq (n := xs.getD off 0) h0 (by omega)
 have ob : Conj (obV1 (xs.getD off 0) off len m ++ ([decide (1 < (((1 : Int).toNat - 0 : Nat) : Int)) = false, decide (lenZ (IntKind.u64.wrap (xs.getD off 0)) ≤ 6) = true, ((0 : Int) != IntKind.i64.wrap (Int.fdiv (xs.getD off 0) 64)) = false] ++ obV2 (xs.getD off 0) off len m)) := by
  refine Conj.app (obV1_ok h (Or.inl rfl) (by omega) hm e1 e2 (by rw [e3]; decide) (by rw [e4]; decide)) (Conj.app ⟨rfl, decide_eq_true (by rw [hw]; omega), by rw [e3]; rfl, trivial⟩ (obV2_ok (Or.inl rfl) (by omega) hm hb e1 (by rw [e3]; decide)))
 have con := con_goes cE Tryz.func238 1000 run ob
 unfold resTV at con
 rw [subL_eq hx] at con
 exact con
theorem tv_con1 {xs : List Int} {off len m : Nat} (t : TypeId) (hx : xs.length = m) (h : 2 ≤ len) (hm : off + len ≤ m) (hb : len ≤ 140737488355328) (h0 : 64 ≤ xs.getD off 0) (h64 : xs.getD off 0 < 128) (c0 : 0 ≤ xs.getD (off + 1) 0) (c1 : xs.getD (off + 1) 0 < 256) (hv : 64 ≤ (xs.getD off 0 - 64) * 256 + xs.getD (off + 1) 0) :
  Con Tryz.prog gl 238 [.slc false 13 0 off len none] [.cells true t [.row false false .u8 m xs]] ⟨.tup [.int false .i64 ((xs.getD off 0 - 64) * 256 + xs.getD (off + 1) 0), .vec 14, .int true .i64 0], [.cells true t [.row false false .u8 m xs], .cells true 5 [.row false false .u8 (len - 2) ((xs.drop (off + 2)).take (len - 2))]]⟩ := by
 have run := tv1 xs off len m t
 rw [Nat.add_zero] at run
 obtain ⟨e1, e2, e3, e4⟩ := sh_mid h0 h64
 rw [e1, ownV_2 hx (by omega), v1V_eq h0 h64 c0 c1] at run
 have hs := lenZ_spec (x := (xs.getD off 0 - 64) * 256 + xs.getD (off + 1) 0) (by omega) (by omega)
 have hw := u64w_eq (n := (xs.getD off 0 - 64) * 256 + xs.getD (off + 1) 0) (by omega) (by omega)
 have ob : Conj (obV1 (xs.getD off 0) off len m ++ ([decide (1 < (((2 : Int).toNat - 0 : Nat) : Int)) = true, (0 : Int) ≤ 1 ∧ 1 < (((2 : Int).toNat - 0 : Nat) : Int), 1 < (2 : Int).toNat - 0, (0 : Int) ≤ 8, decide (2 < (((2 : Int).toNat - 0 : Nat) : Int)) = false,
   decide (lenZ (IntKind.u64.wrap ((xs.getD off 0 - 64) * 256 + xs.getD (off + 1) 0)) ≤ 6) = false, decide (lenZ (IntKind.u64.wrap ((xs.getD off 0 - 64) * 256 + xs.getD (off + 1) 0)) ≤ 14) = true, ((1 : Int) != IntKind.i64.wrap (Int.fdiv (xs.getD off 0) 64)) = false] ++ obV2 (xs.getD off 0) off len m)) := by
  refine Conj.app (obV1_ok (by omega) (Or.inr rfl) (by omega) hm e1 e2 (by rw [e3]; decide) (by rw [e4]; decide)) (Conj.app ⟨rfl, by decide, by decide, by decide, rfl, decide_eq_false (by rw [hw]; omega), decide_eq_true (by rw [hw]; omega), by rw [e3]; rfl, trivial⟩ (obV2_ok (Or.inr rfl) (by omega) hm hb e1 (by rw [e3]; decide)))
 have con := con_goes cE Tryz.func238 1000 run ob
 unfold resTV at con
 rw [subL_eq hx] at con
 exact con
noncomputable def tvT (t : TypeId) (ln lc : Bool) (m : Nat) (xs : List Int) (off len : Nat) : Tr Res :=
 .ob (1 ≤ len ∧ off + len ≤ m ∧ len ≤ 1000000) (.br (decide (xs.getD off 0 < 64))
  (.ob (0 ≤ xs.getD off 0) (.leaf ⟨.tup [.int false .i64 (xs.getD off 0), .vec 14, .int true .i64 0], [.cells true t [.row ln lc .u8 m xs], .cells true 5 [.row false false .u8 (len - 1) ((xs.drop (off + 1)).take (len - 1))]]⟩))
  (.ob (2 ≤ len ∧ xs.getD off 0 < 128 ∧ 0 ≤ xs.getD (off + 1) 0 ∧ xs.getD (off + 1) 0 < 256 ∧ 64 ≤ (xs.getD off 0 - 64) * 256 + xs.getD (off + 1) 0) (.leaf ⟨.tup [.int false .i64 ((xs.getD off 0 - 64) * 256 + xs.getD (off + 1) 0), .vec 14, .int true .i64 0], [.cells true t [.row ln lc .u8 m xs], .cells true 5 [.row false false .u8 (len - 2) ((xs.drop (off + 2)).take (len - 2))]]⟩)))
noncomputable def F238 : Spec := fun args mem => match args, mem with
 | [.slc _ i 0 off len none], [.cells true t [.row ln lc .u8 m xs]] => gd (Nat.beq i 13) (tvT t ln lc m xs off len)
 | [.vec i], [.cells true t [.row ln lc .u8 m xs]] => gd (Nat.beq i 13) (tvT t ln lc m xs 0 m)
 | _, _ => .fail
theorem tvT_is {t : TypeId} {ln lc : Bool} {m : Nat} {xs : List Int} {off len : Nat} {r : Res} (h : (tvT t ln lc m xs off len).is r) : Con Tryz.prog gl 238 [.slc false 13 0 off len none] [.cells true t [.row ln lc .u8 m xs]] r := by
 unfold tvT at h
 obtain ⟨h1, h⟩ := Tr.is_ob.1 h
 replace h := Tr.is_br.1 h
 refine con_wf fun _ hm => ?_
 have hx : xs.length = m := hm.1.1.1
 cases hb : decide (xs.getD off 0 < 64) with
 | true =>
  rw [hb] at h
  obtain ⟨h2, h⟩ := Tr.is_ob.1 h
  have h := Tr.is_leaf.1 h
  subst h
  exact con_to (tv_con0 t hx h1.1 h1.2.1 (by omega) h2 (of_decide_eq_true hb))
 | false =>
  rw [hb] at h
  obtain ⟨h2, h⟩ := Tr.is_ob.1 h
  have h := Tr.is_leaf.1 h
  subst h
  have hb' := of_decide_eq_false hb
  exact con_to (tv_con1 t hx h2.1 h1.2.1 (by omega) (by omega) h2.2.1 h2.2.2.1 h2.2.2.2.1 h2.2.2.2.2)
theorem f238_ok : FnOk Tryz.prog gl 238 F238 := by
 intro args mem r h
 unfold F238 at h
 split at h
 case h_3 => exact h.elim
 ·rename_i l i off len t ln lc m xs
  obtain ⟨h1, h⟩ := Tr.is_gd.1 h
  rw [Nat.eq_of_beq_eq_true h1]
  exact con_to (tvT_is h)
 ·rename_i i t ln lc m xs
  obtain ⟨h1, h⟩ := Tr.is_gd.1 h
  rw [Nat.eq_of_beq_eq_true h1]
  exact con_part (.turn (o := true) (t := t) (p := .row ln lc .u8 m xs) false rfl .nil) (tvT_is h)
end
section
noncomputable abbrev kD : Cons := (238, F238) :: kE
theorem cD : ConsOk kD := cons_ok f238_ok (Or.inl (by decide)) cE
def wV (c : Bool) : Nat := match c with | false => 1 | true => 2
def vV (c : Bool) (xs : List Int) (off : Nat) : Int := match c with | false => xs.getD off 0 | true => (xs.getD off 0 - 64) * 256 + xs.getD (off + 1) 0
def obV (c : Bool) (xs : List Int) (off len m : Nat) : List Prop := match c with
 | false => [1 ≤ len ∧ off + len ≤ m ∧ len ≤ 1000000, decide (xs.getD off 0 < 64) = true, 0 ≤ xs.getD off 0]
 | true => [1 ≤ len ∧ off + len ≤ m ∧ len ≤ 1000000, decide (xs.getD off 0 < 64) = false, 2 ≤ len ∧ xs.getD off 0 < 128 ∧ 0 ≤ xs.getD (off + 1) 0 ∧ xs.getD (off + 1) 0 < 256 ∧ 64 ≤ (xs.getD off 0 - 64) * 256 + xs.getD (off + 1) 0]
def obD (c d : Bool) (T D : List Int) : List Prop :=
 [decide ((T.length : Int) > 256) = false, T.length ≤ 140737488355328, decide ((T.length : Int) > 0) = true, (0 : Int) ≤ 0 ∧ 0 < (T.length : Int), 0 < T.length, (0 : Int) ≤ 1 ∧ 1 ≤ (T.length : Int) ∧ (T.length : Int) ≤ (T.length : Int) ∧ (T.length : Int) ≤ (T.length : Int),
  (IntKind.i64.wrap (T.getD 0 0) == 3) = false, (IntKind.i64.wrap (T.getD 0 0) == 4) = false, (IntKind.i64.wrap (T.getD 0 0) == 1) = true] ++ (obV c T 1 (T.length - 1) T.length ++
 ([(IntKind.i64.wrap (T.getD 0 0) == 1) = true] ++ (obV d D 0 (T.length - 1 - wV c) (T.length - 1 - wV c) ++
 [decide (vV d D 0 > 128) = false, decide (((T.length - 1 - wV c - wV d : Nat) : Int) < vV d D 0) = false,
  (0 : Int) ≤ 0 ∧ 0 ≤ vV d D 0 ∧ vV d D 0 ≤ vV d D 0 ∧ vV d D 0 ≤ ((T.length - 1 - wV c - wV d : Nat) : Int),
  0 ≤ vV d D 0 ∧ vV d D 0 ≤ ((T.length - 1 - wV c - wV d : Nat) : Int) ∧ ((T.length - 1 - wV c - wV d : Nat) : Int) ≤ ((T.length - 1 - wV c - wV d : Nat) : Int) ∧ ((T.length - 1 - wV c - wV d : Nat) : Int) ≤ ((T.length - 1 - wV c - wV d : Nat) : Int),
  decide (vV c T 1 ≥ 0) = true, decide (vV c T 1 ≤ 4611686018427387903) = true, (IntKind.i64.wrap (T.getD 0 0) == 1) = true,
  decide ((((vV d D 0).toNat - 0 : Nat) : Int) ≥ 1) = true, decide ((((vV d D 0).toNat - 0 : Nat) : Int) ≤ 128) = true, decide (((((T.length - 1 - wV c - wV d : Nat) : Int).toNat - (vV d D 0).toNat : Nat) : Int) > 0) = false])))
def datD (c _d : Bool) (T : List Int) : List Int := (T.drop (1 + wV c)).take (T.length - 1 - wV c)
def resD (c d : Bool) (T D : List Int) : Res := ⟨.tup [.vec 14, .int true .i64 0], [.cells true 5 [.row false false .u8 T.length T], .cells true 112 [.lst true .frm 1 [⟨IntKind.i64.wrap (T.getD 0 0), vV c T 1, 0, [], subL false 0 ((vV d D 0).toNat - 0) (T.length - 1 - wV c - wV d) ((D.drop (0 + wV d)).take (T.length - 1 - wV c - wV d)), z8⟩]]]⟩
def hD (c d : Bool) : List H := [.f, .t, .f, .f, .t, match c with | false => .t | true => .f, .t, match d with | false => .t | true => .f, .f, .f, .t, .t, .t, .t, .t, .f]
theorem dec_run (c d : Bool) (T : List Int) : (decRun kD [.vec 13] [.cells true 5 [.row false false .u8 T.length T]]).walk (hD c d) [] = some (obD c d T (datD c d T), resD c d T (datD c d T)) := by
 cases c <;> cases d <;> kernel_rfl
theorem byteX_eq {n q : Int} (hq : 0 < q) : byteX n q = n / q % 256 := by
 unfold byteX
 rw [Int.fdiv_eq_ediv_of_nonneg _ (by omega)]
 simp [IntKind.wrap, IntKind.signed, IntKind.bits]
theorem or64 : ∀ n : Nat, n < 64 → bits .or .u8 (n : Int) 0 = (n : Int) ∧ bits .or .u8 (n : Int) 64 = 64 + (n : Int) := by decide
theorem varC_f {n : Int} (h0 : 0 ≤ n) (h : n < 64) : varC false n = [n] := by
 obtain ⟨m, rfl⟩ := Int.eq_ofNat_of_zero_le h0
 have e : (m : Int) / 1 % 256 = (m : Int) := by omega
 unfold varC
 rw [byteX_eq (by decide), e, (or64 m (by omega)).1]
theorem varC_t {n : Int} (h0 : 0 ≤ n) (h : n < 16384) : varC true n = [64 + n / 256, n % 256] := by
 obtain ⟨m, rfl⟩ := Int.eq_ofNat_of_zero_le h0
 have e : (m : Int) / 256 % 256 = ((m / 256 : Nat) : Int) := by omega
 unfold varC
 rw [byteX_eq (by decide), byteX_eq (by decide), e, (or64 (m / 256) (by omega)).2]
 rw [show ((m : Int) / 1 % 256) = (m : Int) % 256 by omega, show (((m / 256 : Nat) : Int)) = (m : Int) / 256 by omega]
theorem varC_len (c : Bool) (n : Int) : (varC c n).length = wV c := by cases c <;> rfl
theorem vV_eq {c : Bool} {n : Int} (hc : c = decide (64 ≤ n)) (h0 : 0 ≤ n) (h : n < 16384) {xs : List Int} {off : Nat} {ls bs : List Int} (hx : xs = ls ++ (varC c n ++ bs)) (ho : ls.length = off) : vV c xs off = n := by
 subst hx ho
 cases c with
 | false =>
  rw [varC_f h0 (by have := of_decide_eq_false hc.symm; omega)]
  simp [vV, List.getD_eq_getElem?_getD]
 | true =>
  rw [varC_t h0 h]
  simp [vV, List.getD_eq_getElem?_getD]
  omega
theorem obV_ok {c : Bool} {n : Int} (hc : c = decide (64 ≤ n)) (h0 : 0 ≤ n) (h : n < 16384) {xs : List Int} {off len m : Nat} {ls bs : List Int} (hx : xs = ls ++ (varC c n ++ bs)) (ho : ls.length = off) (h1 : wV c ≤ len) (h2 : off + len ≤ m) (h3 : len ≤ 1000000) : Conj (obV c xs off len m) := by
 subst hx ho
 cases c with
 | false =>
  have h64 := of_decide_eq_false hc.symm
  have e : (ls ++ (varC false n ++ bs)).getD ls.length 0 = n := by
   rw [varC_f h0 (by omega)]
   simp [List.getD_eq_getElem?_getD]
  unfold obV
  rw [e]
  exact ⟨⟨h1, h2, h3⟩, decide_eq_true (by omega), h0, trivial⟩
 | true =>
  have h64 := of_decide_eq_true hc.symm
  have e : (ls ++ (varC true n ++ bs)).getD ls.length 0 = 64 + n / 256 := by
   rw [varC_t h0 h]
   simp [List.getD_eq_getElem?_getD]
  have e2 : (ls ++ (varC true n ++ bs)).getD (ls.length + 1) 0 = n % 256 := by
   rw [varC_t h0 h]
   simp [List.getD_eq_getElem?_getD]
  have h1 : 2 ≤ len := h1
  unfold obV
  rw [e, e2]
  exact ⟨⟨by omega, h2, h3⟩, decide_eq_false (by omega), ⟨by omega, by omega, by omega, by omega, by omega⟩, trivial⟩
theorem datD_eq (c d : Bool) (n : Int) (ds : List Int) : datD c d (encD c d n ds) = varC d ds.length ++ ds := by
 have h := varC_len c n
 have e : encD c d n ds = (1 :: varC c n) ++ (varC d ds.length ++ ds) := rfl
 unfold datD
 rw [e, show 1 + wV c = (1 :: varC c n).length by simp [h]; omega, List.drop_left]
 apply List.take_of_length_le
 simp [h]
theorem encD_len (c d : Bool) (n : Int) (ds : List Int) : (encD c d n ds).length = 1 + wV c + wV d + ds.length := by
 simp [encD, varC_len]
 omega
theorem wV_le (c : Bool) : wV c ≤ 2 := by cases c <;> decide
theorem obD_ok {c d : Bool} {n : Int} {ds : List Int} (h0 : 0 ≤ n) (h : n < 16384) (h1 : 1 ≤ ds.length) (h2 : ds.length ≤ 128) (hc : c = decide (64 ≤ n)) (hd : d = decide (64 ≤ (ds.length : Int))) : Conj (obD c d (encD c d n ds) (varC d ds.length ++ ds)) := by
 have w1 := wV_le c
 have w2 := wV_le d
 have hl := encD_len c d n ds
 have en : vV c (encD c d n ds) 1 = n := vV_eq hc h0 h (ls := [1]) rfl rfl
 have ed : vV d (varC d ds.length ++ ds) 0 = ds.length := vV_eq hd (by omega) (by omega) (ls := []) rfl rfl
 have ow := obV_ok (c := c) hc h0 h (xs := encD c d n ds) (ls := [1]) (off := 1) (len := (encD c d n ds).length - 1) (m := (encD c d n ds).length) rfl rfl (by omega) (by omega) (by omega)
 have ow2 := obV_ok (c := d) hd (by omega) (by omega) (xs := varC d ds.length ++ ds) (ls := []) (off := 0) (len := (encD c d n ds).length - 1 - wV c) (m := (encD c d n ds).length - 1 - wV c) rfl rfl (by omega) (by omega) (by omega)
 unfold obD
 rw [en, ed]
 refine Conj.app ⟨decide_eq_false (by omega), by omega, decide_eq_true (by omega), by omega, by omega, by omega, rfl, rfl, rfl, trivial⟩ (Conj.app ow (Conj.app ⟨rfl, trivial⟩ (Conj.app ow2 ⟨decide_eq_false (by omega), decide_eq_false (by omega), by omega, by omega, decide_eq_true h0, decide_eq_true (by omega), rfl, decide_eq_true (by omega), decide_eq_true (by omega), decide_eq_false (by omega), trivial⟩)))
theorem dec_con {n : Int} {ds : List Int} (h0 : 0 ≤ n) (h : n < 16384) (h1 : 1 ≤ ds.length) (h2 : ds.length ≤ 128) :
  Con Tryz.prog gl 52 [.vec 13] [.cells true 5 [.row false false .u8 (encF n ds).length (encF n ds)]] ⟨.tup [.vec 14, .int true .i64 0], [.cells true 5 [.row false false .u8 (encF n ds).length (encF n ds)], .cells true 112 [.lst true .frm 1 [⟨1, n, 0, [], ds, z8⟩]]]⟩ := by
 have key : ∀ c d : Bool, c = decide (64 ≤ n) → d = decide (64 ≤ (ds.length : Int)) → resD c d (encD c d n ds) (varC d ds.length ++ ds) = ⟨.tup [.vec 14, .int true .i64 0], [.cells true 5 [.row false false .u8 (encD c d n ds).length (encD c d n ds)], .cells true 112 [.lst true .frm 1 [⟨1, n, 0, [], ds, z8⟩]]]⟩ := fun c d hc hd => by
  have hl := encD_len c d n ds
  have en : vV c (encD c d n ds) 1 = n := vV_eq hc h0 h (ls := [1]) rfl rfl
  have ed : vV d (varC d ds.length ++ ds) 0 = ds.length := vV_eq hd (by omega) (by omega) (ls := []) rfl rfl
  have e1 : (varC d ds.length ++ ds).drop (0 + wV d) = ds := by
   rw [Nat.zero_add, ← varC_len d ds.length, List.drop_left]
  have e2 : (encD c d n ds).length - 1 - wV c - wV d = ds.length := by omega
  unfold resD
  rw [en, ed, e1, e2, List.take_length, subL_eq rfl, Int.toNat_natCast, Nat.sub_zero, List.drop_zero, List.take_length]
  rfl
 have run := dec_run (decide (64 ≤ n)) (decide (64 ≤ (ds.length : Int))) (encF n ds)
 unfold encF at run
 rw [datD_eq, key _ _ rfl rfl] at run
 exact decRun_ok cD _ _ _ ((Tr.walk_is _ _ _ _ _ run).2 (obD_ok h0 h h1 h2 rfl rfl))
end
section
theorem cNil : ConsOk [] := ⟨fun _ hp => (List.not_mem_nil hp).elim, fun _ hp _ => (List.not_mem_nil hp).elim⟩
def ixW (a : Int) : Int := IntKind.i64.wrap (Int.tdiv (Int.tmod a 1024) 64)
def obIx (a : Int) : List Prop := [0 ≤ ixW a ∧ ixW a < 16, 0 + (ixW a).toNat * 1 < 16]
def bitI (q : Int) : Int := IntKind.u64.wrap (1 * 2 ^ min (Int.toNat q) 64)
def clrW (ws : List Int) (a : Int) : List Int := ws.set (0 + (ixW a).toNat * 1) (bits .andNot .u64 (ws.getD (0 + (ixW a).toNat * 1) 0) (bitI (Int.tmod (Int.tmod a 1024) 64)))
def putW (ws : List Int) (a : Int) : List Int := ws.set (0 + (ixW a).toNat * 1) (bits .or .u64 (ws.getD (0 + (ixW a).toNat * 1) 0) (bitI (Int.tmod a 64)))
def hasW (ws : List Int) (n : Int) : Bool := bits .and .u64 (Int.fdiv (ws.getD (0 + (ixW n).toNat * 1) 0) (2 ^ min (Int.toNat (Int.tmod n 64)) 64)) 1 == 1
def obCk (n nx : Int) : List Prop := [decide (n < 0) = false, decide (n > 281474976710655) = false, IntKind.i64.wrap (nx - 1024) = nx - 1024, decide (n < nx - 1024) = false]
def obHs (c : Bool) (ws : List Int) (n nx : Int) : List Prop := match c with
 | false => [decide (n < nx) = false]
 | true => [decide (n < nx) = true, (1024 : Int) ≠ 0, (64 : Int) ≠ 0] ++ (obIx n ++ [(64 : Int) ≠ 0, 0 ≤ Int.tmod n 64, hasW ws n = false])
def obCl (n nx i : Int) : List Prop := [decide (i < n + 1 - nx) = true, IntKind.i64.wrap (n - i) = n - i, (1024 : Int) ≠ 0, (64 : Int) ≠ 0] ++ (obIx (n - i) ++ ([(64 : Int) ≠ 0, 0 ≤ Int.tmod (Int.tmod (n - i) 1024) 64] ++ obIx (n - i)))
def obPt (n : Int) : List Prop := [(1024 : Int) ≠ 0, (64 : Int) ≠ 0] ++ (obIx n ++ ([(64 : Int) ≠ 0, 0 ≤ Int.tmod n 64] ++ obIx n))
def obSt (n nx : Int) : Nat → Int → List Prop
 | 0, i => [decide (i < n + 1 - nx) = false]
 | k + 1, i => obCl n nx i ++ obSt n nx k (i + 1)
def clrs (n : Int) : Nat → Int → List Int → List Int
 | 0, _, ws => ws
 | k + 1, i, ws => clrs n k (i + 1) (clrW ws (n - i))
def obMk (c : Bool) (k : Nat) (ws : List Int) (n nx : Int) (b : Bool) : List Prop := obCk n nx ++ (obHs c ws n nx ++ ([IntKind.i64.wrap (n + 1) = n + 1, IntKind.i64.wrap (n + 1 - nx) = n + 1 - nx, decide (n + 1 - nx < 1024) = true] ++ (obSt n nx k 0 ++ ([IntKind.i64.wrap (n + 1) = n + 1, decide (n + 1 > nx) = b] ++ obPt n))))
theorem chk_f (ws : List Int) (n nx : Int) : Goes (callRun tc ((env []).fn 20) Tryz.f116 1000 [.ptr 13 0 0 true 0, .int false .i64 n] [winB ws nx]) [.f, .f, .f, .f] (obCk n nx ++ obHs false ws n nx) ⟨.int true .i64 0, [winB ws nx]⟩ := by
 unfold Goes
 kernel_rfl
theorem chk_t (ws : List Int) (n nx : Int) : Goes (callRun tc ((env []).fn 20) Tryz.f116 1000 [.ptr 13 0 0 true 0, .int false .i64 n] [winB ws nx]) [.f, .f, .f, .t, .f] (obCk n nx ++ obHs true ws n nx) ⟨.int true .i64 0, [winB ws nx]⟩ := by
 unfold Goes
 kernel_rfl
theorem mark_0 (ws : List Int) (n nx : Int) : Goes (callRun tc ((env []).fn 20) Tryz.f121 1000 [.ptr 13 0 0 true 0, .int false .i64 n] [winB ws nx]) [.f, .f, .f, .t, .f, .t, .f, .f] (obMk true 0 ws n nx false) ⟨.int true .i64 0, [winB (putW ws n) nx]⟩ := by
 unfold Goes
 kernel_rfl
theorem mark_1 (ws : List Int) (n nx : Int) : Goes (callRun tc ((env []).fn 20) Tryz.f121 1000 [.ptr 13 0 0 true 0, .int false .i64 n] [winB ws nx]) [.f, .f, .f, .f, .t, .t, .f, .t] (obMk false 1 ws n nx true) ⟨.int true .i64 0, [winB (putW (clrs n 1 0 ws) n) (n + 1)]⟩ := by
 unfold Goes
 kernel_rfl
theorem mark_2 (ws : List Int) (n nx : Int) : Goes (callRun tc ((env []).fn 20) Tryz.f121 1000 [.ptr 13 0 0 true 0, .int false .i64 n] [winB ws nx]) [.f, .f, .f, .f, .t, .t, .t, .f, .t] (obMk false 2 ws n nx true) ⟨.int true .i64 0, [winB (putW (clrs n 2 0 ws) n) (n + 1)]⟩ := by
 unfold Goes
 kernel_rfl
theorem mark_3 (ws : List Int) (n nx : Int) : Goes (callRun tc ((env []).fn 20) Tryz.f121 1000 [.ptr 13 0 0 true 0, .int false .i64 n] [winB ws nx]) [.f, .f, .f, .f, .t, .t, .t, .t, .f, .t] (obMk false 3 ws n nx true) ⟨.int true .i64 0, [winB (putW (clrs n 3 0 ws) n) (n + 1)]⟩ := by
 unfold Goes
 kernel_rfl
theorem mark_4 (ws : List Int) (n nx : Int) : Goes (callRun tc ((env []).fn 20) Tryz.f121 1000 [.ptr 13 0 0 true 0, .int false .i64 n] [winB ws nx]) [.f, .f, .f, .f, .t, .t, .t, .t, .t, .f, .t] (obMk false 4 ws n nx true) ⟨.int true .i64 0, [winB (putW (clrs n 4 0 ws) n) (n + 1)]⟩ := by
 unfold Goes
 kernel_rfl
theorem tmodN {a b : Int} (h : 0 ≤ a) : Int.tmod a b = a % b := Int.tmod_eq_emod_of_nonneg h
theorem tdivN {a b : Int} (h : 0 ≤ a) : Int.tdiv a b = a / b := Int.tdiv_eq_ediv_of_nonneg h
theorem ixW_eq {a : Int} (h : 0 ≤ a) : ixW a = a % 1024 / 64 := by
 unfold ixW
 rw [tmodN h, tdivN (by omega)]
 exact I64.wrap ⟨by omega, by omega⟩
theorem obIx_ok {a : Int} (h : 0 ≤ a) : Conj (obIx a) := by
 unfold obIx
 rw [ixW_eq h]
 exact ⟨by omega, by omega, trivial⟩
theorem obCk_ok {n nx : Int} (h : 0 ≤ n) (h' : n ≤ 281474976710655) (x0 : 0 ≤ nx) (x1 : nx ≤ n + 1024) : Conj (obCk n nx) :=
 ⟨decide_eq_false (by omega), decide_eq_false (by omega), I64.wrap ⟨by omega, by omega⟩, decide_eq_false (by omega), trivial⟩
theorem obHs_ok {c : Bool} {ws : List Int} {n nx : Int} (h : 0 ≤ n) (hc : decide (n < nx) = c) (hs : c = true → hasW ws n = false) : Conj (obHs c ws n nx) := by
 cases c with
 | false => exact ⟨hc, trivial⟩
 | true => exact Conj.app ⟨hc, by decide, by decide, trivial⟩ (Conj.app (obIx_ok h) ⟨by decide, by rw [tmodN h]; omega, hs rfl, trivial⟩)
theorem obCl_ok {n nx i : Int} (h : 0 ≤ n - i) (h' : n ≤ 281474976710655) (hi : 0 ≤ i) (hc : i < n + 1 - nx) : Conj (obCl n nx i) :=
 Conj.app ⟨decide_eq_true hc, I64.wrap ⟨by omega, by omega⟩, by decide, by decide, trivial⟩ (Conj.app (obIx_ok h) (Conj.app ⟨by decide, by rw [tmodN h, tmodN (by omega)]; omega, trivial⟩ (obIx_ok h)))
theorem obSt_ok {n nx : Int} (h' : n ≤ 281474976710655) (x0 : 0 ≤ nx) : ∀ (k : Nat) (i : Int), 0 ≤ i → (i + k = n + 1 - nx ∨ (k = 0 ∧ n + 1 - nx ≤ i)) → Conj (obSt n nx k i)
 | 0, i, _, hk => ⟨decide_eq_false (by omega), trivial⟩
 | k + 1, i, hi, hk => Conj.app (obCl_ok (by omega) h' hi (by omega)) (obSt_ok h' x0 k (i + 1) (by omega) (by omega))
theorem obPt_ok {n : Int} (h : 0 ≤ n) : Conj (obPt n) :=
 Conj.app ⟨by decide, by decide, trivial⟩ (Conj.app (obIx_ok h) (Conj.app ⟨by decide, by rw [tmodN h]; omega, trivial⟩ (obIx_ok h)))
theorem obMk_ok {c b : Bool} {k : Nat} {ws : List Int} {n nx : Int} (h : 0 ≤ n) (h' : n ≤ 281474976710655) (x0 : 0 ≤ nx) (x1 : nx ≤ n + 1024) (x2 : n ≤ nx + 1000) (hc : decide (n < nx) = c) (hs : c = true → hasW ws n = false) (hk : (k : Int) = n + 1 - nx ∨ (k = 0 ∧ n + 1 - nx ≤ 0)) (hb : decide (n + 1 > nx) = b) : Conj (obMk c k ws n nx b) :=
 Conj.app (obCk_ok h h' x0 x1) (Conj.app (obHs_ok h hc hs) (Conj.app ⟨I64.wrap ⟨by omega, by omega⟩, I64.wrap ⟨by omega, by omega⟩, decide_eq_true (by omega), trivial⟩ (Conj.app (obSt_ok h' x0 k 0 (by omega) (by omega)) (Conj.app ⟨I64.wrap ⟨by omega, by omega⟩, hb, trivial⟩ (obPt_ok h)))))
theorem win_old {n nx : Int} {ws : List Int} (h : 0 ≤ n) (h' : n ≤ 281474976710655) (hx : n < nx) (x1 : nx ≤ n + 1024) (hs : hasW ws n = false) : WinOk n ws nx (putW ws n) nx :=
 ⟨con_goes cNil Tryz.func116 1000 (chk_t ws n nx) (Conj.app (obCk_ok h h' (by omega) x1) (obHs_ok h (decide_eq_true hx) fun _ => hs)),
  con_goes cNil Tryz.func121 1000 (mark_0 ws n nx) (obMk_ok h h' (by omega) x1 (by omega) (decide_eq_true hx) (fun _ => hs) (Or.inr ⟨rfl, by omega⟩) (decide_eq_false (by omega)))⟩
theorem win_new {n nx : Int} (k : Nat) {ws : List Int} (h : 0 ≤ nx) (h' : n ≤ 281474976710655) (hk : (k : Int) = n + 1 - nx) (k0 : 0 < k) (k4 : k ≤ 4) : WinOk n ws nx (putW (clrs n k 0 ws) n) (n + 1) := by
 have chk := con_goes cNil Tryz.func116 1000 (chk_f ws n nx) (Conj.app (obCk_ok (by omega) h' h (by omega)) (obHs_ok (by omega) (decide_eq_false (by omega)) fun e => by cases e))
 have ob : Conj (obMk false k ws n nx true) := obMk_ok (by omega) h' h (by omega) (by omega) (decide_eq_false (by omega)) (fun e => by cases e) (Or.inl hk) (decide_eq_true (by omega))
 match k, k0, k4 with
 | 1, _, _ => exact ⟨chk, con_goes cNil Tryz.func121 1000 (mark_1 ws n nx) ob⟩
 | 2, _, _ => exact ⟨chk, con_goes cNil Tryz.func121 1000 (mark_2 ws n nx) ob⟩
 | 3, _, _ => exact ⟨chk, con_goes cNil Tryz.func121 1000 (mark_3 ws n nx) ob⟩
 | 4, _, _ => exact ⟨chk, con_goes cNil Tryz.func121 1000 (mark_4 ws n nx) ob⟩
end
end Go.Proofs.YtiojkpgcmhlhnaaGreatDoor.Ty
