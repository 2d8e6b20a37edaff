/-
  The laws of the chapter that name no answer of the document: what each answers.
-/
import Derived.Test.YtbdmahidobjaoaaDoorClampLaw
namespace Go.Proofs.YtbdmahidobjaoaaDoor.Sx
open Go
set_option maxRecDepth 100000

/-- The arguments are arrays of bytes of such lengths. -/
def shapeOk : List Nat → List A → Bool
  | [], [] => true
  | n :: ns, .agg k l :: r => decide (k = .u8) && Nat.beq l.length n && shapeOk ns r
  | _, _ => false

/-- True for all arguments of such lengths. -/
def FT (ns : List Nat) : List A → List Blk → Option Res
  | args, [] => match shapeOk ns args with
    | true => some ⟨.bool true, [], none, []⟩
    | false => none
  | _, _ => none

theorem shapeOk_spec : ∀ (ns : List Nat) (args : List A), shapeOk ns args = true → (∀ x ∈ args, wfA x) → ∃ ls : List (List Int), ls.map List.length = ns ∧ args = ls.map (A.agg .u8) ∧ ∀ l ∈ ls, ∀ x ∈ l, wf .u8 x
  | [], [], _, _ => ⟨[], rfl, rfl, by simp⟩
  | n :: ns, .agg k l :: r, h, hw => by
    simp only [shapeOk, Bool.and_eq_true] at h
    obtain ⟨⟨hk, hl⟩, hr⟩ := h
    have hk' := of_decide_eq_true hk
    subst hk'
    obtain ⟨ls, h1, h2, h3⟩ := shapeOk_spec ns r hr (fun x hx => hw x (by simp [hx]))
    refine ⟨l :: ls, by simp [h1, Nat.eq_of_beq_eq_true hl], by simp [h2], fun m hm => ?_⟩
    rcases List.mem_cons.1 hm with rfl | hm
    · exact hw (.agg .u8 m) (by simp)
    · exact h3 m hm
  | [], _ :: _, h, _ => by simp [shapeOk] at h
  | _ :: _, [], h, _ => by simp [shapeOk] at h
  | n :: ns, .any :: _, h, _ => by simp [shapeOk] at h
  | n :: ns, .undef :: _, h, _ => by simp [shapeOk] at h
  | n :: ns, .bool _ :: _, h, _ => by simp [shapeOk] at h
  | n :: ns, .int _ _ :: _, h, _ => by simp [shapeOk] at h
  | n :: ns, .bit _ :: _, h, _ => by simp [shapeOk] at h
  | n :: ns, .str _ :: _, h, _ => by simp [shapeOk] at h
  | n :: ns, .ptr _ _ :: _, h, _ => by simp [shapeOk] at h
  | n :: ns, .slc _ _ _ _ :: _, h, _ => by simp [shapeOk] at h
  | n :: ns, .emp :: _, h, _ => by simp [shapeOk] at h
  | n :: ns, .pair _ _ :: _, h, _ => by simp [shapeOk] at h

theorem shapeOk_length : ∀ (ns : List Nat) (args : List A), shapeOk ns args = true → args.length = ns.length
  | [], [], _ => rfl
  | n :: ns, x :: r, h => by
    cases x <;> simp only [shapeOk, Bool.and_eq_true, Bool.false_eq_true] at h
    simp [shapeOk_length ns r h.2]
  | [], _ :: _, h => by simp [shapeOk] at h
  | _ :: _, [], h => by simp [shapeOk] at h

theorem fnOk_FT {C : Ctx} (hC : C.Ok) {f : FuncId} {fn : Func} {c : Code} {ns : List Nat} (hf : C.P.funcs[f]? = some fn) (hname : (fn.name == "runtime.NumGoroutine") = false) (hb : fn.body = some c) (ht : Nat.ble ns.length fn.ntmps = true)
    (h : ∀ ls : List (List Int), ls.map List.length = ns → (∀ l ∈ ls, ∀ x ∈ l, wf .u8 x) → ∃ fuel ob, plainRun C fn fuel (ls.map (A.agg .u8)) = some (.bool true, ob) ∧ Holds ob) : FnOk C.P C.gl f (FT ns) := by
  refine fnOk_plain hC hf hname hb (fun args mem r hr _ => ?_)
  unfold FT at hr
  split at hr
  · split at hr
    · rename_i hs
      simp only [Option.some.injEq] at hr
      subst hr
      refine ⟨rfl, rfl, rfl, by rw [shapeOk_length _ _ hs]; exact beq_le ht, fun hw => ?_⟩
      obtain ⟨ls, h1, rfl, h3⟩ := shapeOk_spec _ _ hs hw
      exact h ls h1 h3
    · cases hr
  · cases hr

def cC (l : List Int) : List Int := bytesOf 17 (num l % q130)
def cA (l m : List Int) : List Int := bytesOf 17 ((num l + num m) % q130)
def cM (l m : List Int) : List Int := bytesOf 17 ((num l * num m) % q130)
def cL (l m : List Int) : List Int := bytesOf 16 (num l % q130 + num m)

theorem emm (a b q : Int) : a % q * b % q = a * b % q := by
  rw [Int.mul_emod, Int.emod_emod, ← Int.mul_emod]

theorem mem (a b q : Int) : a * (b % q) % q = a * b % q := by
  rw [Int.mul_emod, Int.emod_emod, ← Int.mul_emod]

theorem num_q (n : Int) : num (bytesOf 17 (n % q130)) = n % q130 := by
  rw [num_bytesOf]
  have := mod130 n
  unfold q130 at *
  rw [show (256 : Int) ^ 17 = 87112285931760246646623899502532662132736 by decide]
  exact Int.emod_eq_of_lt this.1 (by omega)

theorem num_cC (l : List Int) : num (cC l) = num l % q130 := num_q _
theorem num_cA (l m : List Int) : num (cA l m) = (num l + num m) % q130 := num_q _
theorem num_cM (l m : List Int) : num (cM l m) = (num l * num m) % q130 := num_q _

noncomputable abbrev lawF : List (FuncId × (List A → List Blk → Option Res)) := (19, FC (.bool true)) :: clampF

theorem lawF_ok : ∀ p ∈ lawF, FnOk Tryd.prog gl p.1 p.2 := by
  intro p hp
  rcases List.mem_cons.1 hp with rfl | hp
  · exact shown_ok
  · exact clampF_ok p hp

/-- All tests are to be true. -/
noncomputable abbrev lawC : Ctx := mkh (fun _ => some true) lawF
theorem lawC_ok : lawC.Ok := mkh_ok lawF_ok

theorem map1 {ls : List (List Int)} {a : Nat} (h : ls.map List.length = [a]) : ∃ l, ls = [l] ∧ l.length = a := by
  match ls, h with
  | [l], h => exact ⟨l, rfl, by simpa using h⟩
theorem map2 {ls : List (List Int)} {a b : Nat} (h : ls.map List.length = [a, b]) : ∃ l m, ls = [l, m] ∧ l.length = a ∧ m.length = b := by
  match ls, h with
  | [l, m], h => exact ⟨l, m, rfl, by simpa using h⟩
theorem map3 {ls : List (List Int)} {a b c : Nat} (h : ls.map List.length = [a, b, c]) : ∃ l m n, ls = [l, m, n] ∧ l.length = a ∧ m.length = b ∧ n.length = c := by
  match ls, h with
  | [l, m, n], h => exact ⟨l, m, n, rfl, by simpa using h⟩

theorem dT {p : Prop} [Decidable p] (h : p) : decide p = true := decide_eq_true h

theorem holds2 {p q : Prop} (h1 : p) (h2 : q) : Holds [p, q] := fun r hr => by
  rcases List.mem_cons.1 hr with rfl | hr
  · exact h1
  · rw [List.mem_singleton.1 hr]; exact h2

theorem sides_run (l m : List Int) (hl : l.length = 17) (hm : m.length = 17) : plainRun lawC Tryd.f9 300 [.agg .u8 l, .agg .u8 m] =
    some (.bool true, [decide (cA l m = cA m l) = true, decide (cM l m = cM m l) = true]) := by
  obtain ⟨a0, a1, a2, a3, a4, a5, a6, a7, a8, a9, a10, a11, a12, a13, a14, a15, a16, rfl⟩ := list17 hl
  obtain ⟨b0, b1, b2, b3, b4, b5, b6, b7, b8, b9, b10, b11, b12, b13, b14, b15, b16, rfl⟩ := list17 hm
  kernel_rfl

theorem sides_ok : FnOk Tryd.prog gl 9 (FT [17, 17]) := by
  refine fnOk_FT (C := lawC) lawC_ok Tryd.func9 (by kernel_rfl) rfl (by kernel_rfl) (fun ls h _ => ?_)
  obtain ⟨l, m, rfl, hl, hm⟩ := map2 h
  exact ⟨300, _, sides_run l m hl hm, holds2 (dT (by unfold cA; rw [Int.add_comm])) (dT (by unfold cM; rw [Int.mul_comm]))⟩

theorem groups_run (l m n : List Int) (hl : l.length = 17) (hm : m.length = 17) (hn : n.length = 17) : plainRun lawC Tryd.f10 300 [.agg .u8 l, .agg .u8 m, .agg .u8 n] =
    some (.bool true, [decide (cA (cA l m) n = cA l (cA m n)) = true, decide (cM (cM l m) n = cM l (cM m n)) = true]) := by
  obtain ⟨a0, a1, a2, a3, a4, a5, a6, a7, a8, a9, a10, a11, a12, a13, a14, a15, a16, rfl⟩ := list17 hl
  obtain ⟨b0, b1, b2, b3, b4, b5, b6, b7, b8, b9, b10, b11, b12, b13, b14, b15, b16, rfl⟩ := list17 hm
  obtain ⟨c0, c1, c2, c3, c4, c5, c6, c7, c8, c9, c10, c11, c12, c13, c14, c15, c16, rfl⟩ := list17 hn
  kernel_rfl

theorem groups_ok : FnOk Tryd.prog gl 10 (FT [17, 17, 17]) := by
  refine fnOk_FT (C := lawC) lawC_ok Tryd.func10 (by kernel_rfl) rfl (by kernel_rfl) (fun ls h _ => ?_)
  obtain ⟨l, m, n, rfl, hl, hm, hn⟩ := map3 h
  refine ⟨300, _, groups_run l m n hl hm hn, holds2 (dT ?_) (dT ?_)⟩
  · unfold cA
    rw [num_q, num_q, Int.emod_add_emod, Int.add_emod_emod, Int.add_assoc]
  · unfold cM
    rw [num_q, num_q, emm, mem, Int.mul_assoc]

theorem spreads_run (l m n : List Int) (hl : l.length = 17) (hm : m.length = 17) (hn : n.length = 17) : plainRun lawC Tryd.f11 300 [.agg .u8 l, .agg .u8 m, .agg .u8 n] =
    some (.bool true, [decide (cM l (cA m n) = cA (cM l m) (cM l n)) = true]) := by
  obtain ⟨a0, a1, a2, a3, a4, a5, a6, a7, a8, a9, a10, a11, a12, a13, a14, a15, a16, rfl⟩ := list17 hl
  obtain ⟨b0, b1, b2, b3, b4, b5, b6, b7, b8, b9, b10, b11, b12, b13, b14, b15, b16, rfl⟩ := list17 hm
  obtain ⟨c0, c1, c2, c3, c4, c5, c6, c7, c8, c9, c10, c11, c12, c13, c14, c15, c16, rfl⟩ := list17 hn
  kernel_rfl

theorem spreads_ok : FnOk Tryd.prog gl 11 (FT [17, 17, 17]) := by
  refine fnOk_FT (C := lawC) lawC_ok Tryd.func11 (by kernel_rfl) rfl (by kernel_rfl) (fun ls h _ => ?_)
  obtain ⟨l, m, n, rfl, hl, hm, hn⟩ := map3 h
  refine ⟨300, _, spreads_run l m n hl hm hn, Holds.one (dT ?_)⟩
  unfold cM cA
  rw [num_q, num_q, num_q, mem, Int.emod_add_emod, Int.add_emod_emod, Int.mul_add]

theorem stands_run (l m : List Int) (hl : l.length = 17) (hm : m.length = 17) : plainRun lawC Tryd.f13 300 [.agg .u8 l, .agg .u8 m] =
    some (.bool true, [decide (cA l m = cA (cC l) (cC m)) = true, decide (cM l m = cM (cC l) (cC m)) = true]) := by
  obtain ⟨a0, a1, a2, a3, a4, a5, a6, a7, a8, a9, a10, a11, a12, a13, a14, a15, a16, rfl⟩ := list17 hl
  obtain ⟨b0, b1, b2, b3, b4, b5, b6, b7, b8, b9, b10, b11, b12, b13, b14, b15, b16, rfl⟩ := list17 hm
  kernel_rfl

theorem stands_ok : FnOk Tryd.prog gl 13 (FT [17, 17]) := by
  refine fnOk_FT (C := lawC) lawC_ok Tryd.func13 (by kernel_rfl) rfl (by kernel_rfl) (fun ls h _ => ?_)
  obtain ⟨l, m, rfl, hl, hm⟩ := map2 h
  refine ⟨300, _, stands_run l m hl hm, holds2 (dT ?_) (dT ?_)⟩
  · unfold cA cC
    rw [num_q, num_q, Int.emod_add_emod, Int.add_emod_emod]
  · unfold cM cC
    rw [num_q, num_q, emm, mem]

def zeros17 : List Int := List.replicate 17 0
def one17 : List Int := 1 :: List.replicate 16 0

theorem onesL_run (l : List Int) (hl : l.length = 17) : plainRun lawC Tryd.f12 300 [.agg .u8 l] =
    some (.bool true, [decide (cA l zeros17 = cC l) = true, decide (cM l one17 = cC l) = true, decide (cM l zeros17 = zeros17) = true, decide ((cC l).getD 16 0 ≤ 3) = true]) := by
  obtain ⟨a0, a1, a2, a3, a4, a5, a6, a7, a8, a9, a10, a11, a12, a13, a14, a15, a16, rfl⟩ := list17 hl
  kernel_rfl

theorem onesL_ok : FnOk Tryd.prog gl 12 (FT [17]) := by
  refine fnOk_FT (C := lawC) lawC_ok Tryd.func12 (by kernel_rfl) rfl (by kernel_rfl) (fun ls h hw => ?_)
  obtain ⟨l, rfl, hl⟩ := map1 h
  refine ⟨300, _, onesL_run l hl, fun p hp => ?_⟩
  have z : num zeros17 = 0 := by decide
  have o : num one17 = 1 := by decide
  simp only [List.mem_cons, List.not_mem_nil, or_false] at hp
  rcases hp with rfl | rfl | rfl | rfl
  · exact dT (by unfold cA cC; rw [z, Int.add_zero])
  · exact dT (by unfold cM cC; rw [o, Int.mul_one])
  · refine dT ?_
    unfold cM
    rw [z, Int.mul_zero]
    decide
  · refine dT ?_
    have h16 : (cC l).getD 16 0 = num l % q130 / 256 ^ 16 % 256 := rfl
    have := mod130 (num l)
    rw [h16, show (256 : Int) ^ 16 = 340282366920938463463374607431768211456 by decide]
    unfold q130 at *
    omega

end Go.Proofs.YtbdmahidobjaoaaDoor.Sx
