/-
  The law Whole: Low with noughts, and byte by byte.
-/
import Derived.Test.YtbdmahidobjaoaaDoorClampLaws
namespace Go.Proofs.YtbdmahidobjaoaaDoor.Sx
open Go
set_option maxRecDepth 100000

def zeros16 : List Int := List.replicate 16 0

def hintW (t : Tmp) : Option Bool :=
  match Nat.beq t 28 || Nat.beq t 53 with
  | true => some false
  | false => none

def obsA : List Int → List Int → List Prop
  | x :: xs, y :: ys => ((x != y) = false) :: obsA xs ys
  | _, _ => []

def obsB : Int → List Int → List Int → List Int → List Prop
  | rest, x :: xs, s :: ss, y :: ys =>
    let r := IntKind.i64.wrap (IntKind.i64.wrap (rest + IntKind.i64.wrap x) + IntKind.i64.wrap s)
    ((IntKind.i64.wrap y != r.tmod 256) = false) :: obsB (IntKind.i64.wrap (r.tdiv 256)) xs ss ys
  | _, _, _, _ => []

theorem whole_run (l m : List Int) (hl : l.length = 17) (hm : m.length = 16) : plainRun (mkh hintW lawF) Tryd.f7 3000 [.agg .u8 l, .agg .u8 m] =
    some (.bool true, obsA (cL l zeros16) (cC l) ++ obsB 0 (cC l) m (cL l m)) := by
  obtain ⟨a0, a1, a2, a3, a4, a5, a6, a7, a8, a9, a10, a11, a12, a13, a14, a15, a16, rfl⟩ := list17 hl
  obtain ⟨b0, b1, b2, b3, b4, b5, b6, b7, b8, b9, b10, b11, b12, b13, b14, b15, rfl⟩ := list16 hm
  kernel_rfl

theorem holds_cons {p : Prop} {l : List Prop} (h : p) (h' : Holds l) : Holds (p :: l) := fun q hq => by
  rcases List.mem_cons.1 hq with rfl | hq
  · exact h
  · exact h' q hq

theorem obsA_ok (n : Int) : ∀ (m m' k : Nat), m ≤ m' → Holds (obsA (bytesFrom k n m) (bytesFrom k n m'))
  | 0, m', k, _ => by
    have e : obsA (bytesFrom k n 0) (bytesFrom k n m') = [] := by
      unfold bytesFrom obsA
      rfl
    rw [e]; exact Holds.nil
  | m + 1, 0, k, h => by omega
  | m + 1, m' + 1, k, h => by
    unfold bytesFrom
    simp only [obsA]
    exact holds_cons (by simp) (obsA_ok n m m' (k + 1) (by omega))

theorem obsB_ok : ∀ (ss xs : List Int) (rest : Int), ss.length ≤ xs.length → (∀ x ∈ xs, 0 ≤ x ∧ x < 256) → (∀ x ∈ ss, 0 ≤ x ∧ x < 256) → 0 ≤ rest → rest < 256 → Holds (obsB rest xs ss (bytesOf ss.length (rest + num xs + num ss)))
  | [], xs, rest, _, _, _, _, _ => by
    have e : obsB rest xs [] (bytesOf ([] : List Int).length (rest + num xs + num [])) = [] := by
      cases xs <;> rfl
    rw [e]; exact Holds.nil
  | s :: ss, [], rest, h, _, _, _, _ => by simp at h
  | s :: ss, x :: xs, rest, h, hx, hs, h0, h1 => by
    obtain ⟨x0, x1⟩ := hx x (by simp)
    obtain ⟨s0, s1⟩ := hs s (by simp)
    rw [List.length_cons, bytesOf_succ]
    simp only [num, obsB]
    rw [i64w x (by omega) (by omega), i64w s (by omega) (by omega), i64w (rest + x) (by omega) (by omega), i64w (rest + x + s) (by omega) (by omega),
      Int.tmod_eq_emod_of_nonneg (by omega), Int.tdiv_eq_ediv_of_nonneg (by omega), i64w ((rest + x + s) / 256) (by omega) (by omega), i64w _ (by omega) (by omega)]
    have e1 : (rest + (x + 256 * num xs) + (s + 256 * num ss)) % 256 = (rest + x + s) % 256 := by omega
    have e2 : (rest + (x + 256 * num xs) + (s + 256 * num ss)) / 256 = (rest + x + s) / 256 + num xs + num ss := by omega
    rw [e1, e2]
    exact holds_cons (by simp) (obsB_ok ss xs _ (by simpa using h) (fun y hy => hx y (by simp [hy])) (fun y hy => hs y (by simp [hy])) (by omega) (by omega))

theorem whole_ok : FnOk Tryd.prog gl 7 (FT [17, 16]) := by
  refine fnOk_FT (C := mkh hintW lawF) (mkh_ok lawF_ok) Tryd.func7 (by kernel_rfl) rfl (by kernel_rfl) (fun ls h hw => ?_)
  obtain ⟨l, m, rfl, hl, hm⟩ := map2 h
  refine ⟨3000, _, whole_run l m hl hm, Holds.append.2 ⟨?_, ?_⟩⟩
  · have z : num zeros16 = 0 := by decide
    unfold cL cC
    rw [z, Int.add_zero]
    exact obsA_ok _ 16 17 0 (by omega)
  · have hb : ∀ x ∈ m, 0 ≤ x ∧ x < 256 := fun x hx => wf_u8.1 (hw m (by simp) x hx)
    have key := obsB_ok m (cC l) 0 (by rw [hm]; unfold cC; rw [bytesOf_length]; omega) (bytesOf_range _ _) hb (by decide) (by decide)
    rw [Int.zero_add, num_cC, hm] at key
    exact key

end Go.Proofs.YtbdmahidobjaoaaDoor.Sx
