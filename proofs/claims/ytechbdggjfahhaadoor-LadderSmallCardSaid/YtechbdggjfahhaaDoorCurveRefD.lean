/-
  The document's Canon: its contract.
-/
import Derived.Test.YtechbdggjfahhaaDoorCurveRefC
namespace Go.Proofs.YtechbdggjfahhaaDoor.Sx
open Go
set_option maxRecDepth 100000

theorem dgs_dnum (n : Int) (h : 0 ≤ n ∧ n < 115792089237316195423570985008687907853269984665640564039457584007913129639936) : dnum 16 (dgs n) = n := by
  have z : dnum 16 (zeros 16) = 0 := by decide
  unfold dgs
  rw [dnum_append, z, dnum_digsOf, p256, Int.mul_zero, Int.add_zero]
  exact Int.emod_eq_of_lt h.1 h.2

theorem dig16_range (n : Int) : ∀ x ∈ digsOf 16 16 n, 0 ≤ x ∧ x < 65536 := by
  intro x hx
  obtain ⟨i, hi, rfl⟩ := List.getElem_of_mem hx
  have hl : (digsOf 16 16 n).length = 16 := digsFrom_length _ _ _ _
  have := digsOf_get 16 16 n i (by omega)
  rw [List.getElem?_eq_getElem hi] at this
  rw [Option.some.inj this]
  have := dig_range 16 n i
  rwa [p16] at this

theorem dgs_range (n : Int) : ∀ x ∈ dgs n, 0 ≤ x ∧ x < 65536 := by
  intro x hx
  rcases List.mem_append.1 hx with hx | hx
  · exact dig16_range n x hx
  · have := List.eq_of_mem_replicate hx
    omega

def okD (x : Int) : Prop := 0 ≤ x ∧ x < 4503599627370496

theorem holds_map {l : List Int} (h : ∀ x ∈ l, okD x) : Holds (l.map okD) := fun p hp => by
  obtain ⟨x, hx, rfl⟩ := List.mem_map.1 hp
  exact h x hx

noncomputable abbrev ref1F : List (FuncId × (List A → List Blk → Option Res)) := [(41, fPrime), (33, fDigits), (32, fReduce)]
theorem ref1F_ok : ∀ p ∈ ref1F, FnOk Tryd.prog gl p.1 p.2 := by
  intro p hp
  simp only [ref1F, List.mem_cons, List.not_mem_nil, or_false] at hp
  rcases hp with rfl | rfl | rfl
  · exact prime_ok
  · exact digits_ok
  · exact reduce_ok

/-- From a run with obligations on digits. -/
theorem fnOk_F1o {C : Ctx} (hC : C.Ok) {f : FuncId} {fn : Func} {c : Code} {k k' : IntKind} {n : Nat} {g : List Int → List Int} (hf : C.P.funcs[f]? = some fn) (hname : (fn.name == "runtime.NumGoroutine") = false) (hb : fn.body = some c) (ht : Nat.ble 1 fn.ntmps = true)
    (h : ∀ l : List Int, l.length = n → (∀ x ∈ l, wf k x) → ∃ fuel v ob, plainRun C fn fuel [.agg k l] = some (.agg k' v, ob) ∧ v = g l ∧ Holds ob) : FnOk C.P C.gl f (F1 k k' n g) := by
  refine fnOk_plain hC hf hname hb (fun args mem r hr _ => ?_)
  unfold F1 at hr
  split at hr
  · rename_i k0 l
    split at hr
    · rename_i hc
      simp only [Bool.and_eq_true] at hc
      have e1 := of_decide_eq_true hc.1
      have e2 := Nat.eq_of_beq_eq_true hc.2
      subst e1
      simp only [Option.some.injEq] at hr
      subst hr
      refine ⟨rfl, rfl, rfl, beq_le ht, fun hw => ?_⟩
      obtain ⟨fuel, v, ob, hrun, hv, hob⟩ := h l e2 (hw (.agg k0 l) (by simp))
      exact ⟨fuel, ob, by rw [hrun, hv], hob⟩
    · cases hr
  · cases hr

theorem fnOk_F2o {C : Ctx} (hC : C.Ok) {f : FuncId} {fn : Func} {c : Code} {k k1 k' : IntKind} {n n1 : Nat} {g : List Int → List Int → List Int} (hf : C.P.funcs[f]? = some fn) (hname : (fn.name == "runtime.NumGoroutine") = false) (hb : fn.body = some c) (ht : Nat.ble 2 fn.ntmps = true)
    (h : ∀ l m : List Int, l.length = n → m.length = n1 → (∀ x ∈ l, wf k x) → (∀ x ∈ m, wf k1 x) → ∃ fuel v ob, plainRun C fn fuel [.agg k l, .agg k1 m] = some (.agg k' v, ob) ∧ v = g l m ∧ Holds ob) : FnOk C.P C.gl f (F2 k k1 k' n n1 g) := by
  refine fnOk_plain hC hf hname hb (fun args mem r hr _ => ?_)
  unfold F2 at hr
  split at hr
  · rename_i k0 l k2 m
    split at hr
    · rename_i hc
      simp only [Bool.and_eq_true] at hc
      have e0 := of_decide_eq_true hc.1.1.1
      have e1 := of_decide_eq_true hc.1.1.2
      have e2 := Nat.eq_of_beq_eq_true hc.1.2
      have e3 := Nat.eq_of_beq_eq_true hc.2
      subst e0; subst e1
      simp only [Option.some.injEq] at hr
      subst hr
      refine ⟨rfl, rfl, rfl, beq_le ht, fun hw => ?_⟩
      obtain ⟨fuel, v, ob, hrun, hv, hob⟩ := h l m e2 e3 (hw (.agg k0 l) (by simp)) (hw (.agg k2 m) (by simp))
      exact ⟨fuel, ob, by rw [hrun, hv], hob⟩
    · cases hr
  · cases hr


end Go.Proofs.YtechbdggjfahhaaDoor.Sx
