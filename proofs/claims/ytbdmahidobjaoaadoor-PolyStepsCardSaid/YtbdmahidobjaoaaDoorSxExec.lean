/-
  The shadow's run of code and of functions: the model keeps to it ('tri_exec', 'fnOk_of_tri'), and rules for loops that are not run out.
-/
import Derived.Test.YtbdmahidobjaoaaDoorSxDraw
namespace Go.Proofs.YtbdmahidobjaoaaDoor.Sx
open Go

def exOf : Ex → Exit
  | .normal => .normal
  | .exit id => .exit id
  | .ret => .ret

section
variable {C : Ctx} {W : World} {fx : List Fx}

theorem execRegion_ob {ops : List Oper} {draw : Bool} {s s' : St} {ex : Ex} (h : execRegion C ops draw s = some (ex, s')) (hob : Holds s'.ob) : Holds s.ob := by
  unfold execRegion at h
  split at h
  · rename_i s1 qs hr
    split at h
    · simp only [Option.some.injEq, Prod.mk.injEq] at h
      obtain ⟨rfl, rfl⟩ := h
      exact (runOps_ob _ _ _ _ hr hob).1
    · split at h
      · simp only [Option.some.injEq, Prod.mk.injEq] at h
        obtain ⟨rfl, rfl⟩ := h
        exact (runOps_ob _ _ _ _ hr hob).1
      · cases h
  · cases h

theorem exec_ob : ∀ (f : Nat) (c : Code) (s s' : St) (ex : Ex), exec C f c s = some (ex, s') → Holds s'.ob → Holds s.ob
  | 0, c, s, s', ex, h, _ => by cases h
  | f + 1, c, s, s', ex, h, hob => by
    unfold exec at h
    split at h
    · simp only [Option.some.injEq, Prod.mk.injEq] at h; obtain ⟨_, rfl⟩ := h; exact hob
    · simp only [Option.some.injEq, Prod.mk.injEq] at h; obtain ⟨_, rfl⟩ := h; exact hob
    · simp only [Option.some.injEq, Prod.mk.injEq] at h; obtain ⟨_, rfl⟩ := h; exact hob
    · exact execRegion_ob h hob
    · split at h
      · rename_i s1 h1
        exact exec_ob f _ _ _ _ h1 (exec_ob f _ _ _ _ h hob)
      · exact exec_ob f _ _ _ _ h hob
    · split at h
      · exact exec_ob f _ _ _ _ h hob
      · exact exec_ob f _ _ _ _ h hob
      · cases h
    · split at h
      · rename_i j s1 h1
        split at h
        · simp only [Option.some.injEq, Prod.mk.injEq] at h; obtain ⟨_, rfl⟩ := h; exact exec_ob f _ _ _ _ h1 hob
        · simp only [Option.some.injEq, Prod.mk.injEq] at h; obtain ⟨_, rfl⟩ := h; exact exec_ob f _ _ _ _ h1 hob
      · exact exec_ob f _ _ _ _ h hob
    · split at h
      · rename_i s1 h1
        exact exec_ob f _ _ _ _ h1 (exec_ob f _ _ _ _ h hob)
      · exact exec_ob f _ _ _ _ h hob
    · cases h

theorem region_wp (hC : C.Ok) {id : Nat} {ops : Array Oper} {draw : Bool} {s s' : St} {ex : Ex} {Q : Exit → Act → World → Prop} {a : Act} {w : World} (h : execRegion C ops.toList draw s = some (ex, s')) (hob : Holds s'.ob)
    (hR : RelS C.gl W fx s a w) (hQ : ∀ a' w', RelS C.gl W fx s' a' w' → Q (exOf ex) a' w') : (Code.region id ops draw).wp C.P Q a w := by
  unfold execRegion at h
  split at h
  · rename_i s1 qs hr
    split at h
    · simp only [Option.some.injEq, Prod.mk.injEq] at h
      obtain ⟨rfl, rfl⟩ := h
      exact wp_region_list (runOps_wp hC ops.toList s s1 qs a w hr hob hR hQ)
    · split at h
      · rename_i hord
        simp only [Option.some.injEq, Prod.mk.injEq] at h
        obtain ⟨rfl, rfl⟩ := h
        refine wp_region_any hC.mixed ?_
        refine draw_any hC hr hord hob hQ ops.size _ a _ ?_ (by simp) (fun j o hj hS => ?_) ?_
        · unfold unl
          rw [List.filter_eq_self.2]
          · simp
          · intro i hi
            have := List.mem_range.1 hi
            simp [Array.getD, this]
        · exfalso
          unfold inS at hS
          simp only [Array.getD, Array.size_replicate] at hS
          split at hS
          · simp at hS
          · cases hS
        · obtain ⟨loc, hL⟩ := hR
          refine ⟨loc, ?_⟩
          have hfalse : ∀ j, inS (Array.replicate ops.size false) j = false := fun j => by
            unfold inS
            simp only [Array.getD, Array.size_replicate]
            split
            · simp
            · rfl
          have e1 : (fun t => tmVal s.tm.length (inS (Array.replicate ops.size false)) t qs 0 (tmOf s t)) = tmOf s := by
            funext t
            exact tmVal_none _ _ _ (fun j _ _ _ => hfalse _)
          have e2 : (fun i => lkVal (inS (Array.replicate ops.size false)) i qs 0 (look s.h i)) = look s.h := by
            funext i
            exact lkVal_none _ _ _ (fun j _ _ _ => hfalse _)
          rw [e1, e2]
          exact hL.other rfl rfl rfl rfl
      · cases h
  · cases h

theorem exec_wp (hC : C.Ok) : ∀ (f : Nat) (c : Code) (s s' : St) (ex : Ex) (Q : Exit → Act → World → Prop) (a : Act) (w : World), exec C f c s = some (ex, s') → Holds s'.ob → RelS C.gl W fx s a w →
    (∀ a' w', RelS C.gl W fx s' a' w' → Q (exOf ex) a' w') → c.wp C.P Q a w
  | 0, c, s, s', ex, Q, a, w, h, _, _, _ => by cases h
  | f + 1, c, s, s', ex, Q, a, w, h, hob, hR, hQ => by
    unfold exec at h
    split at h
    · simp only [Option.some.injEq, Prod.mk.injEq] at h; obtain ⟨rfl, rfl⟩ := h; exact wp_skip (hQ _ _ hR)
    · simp only [Option.some.injEq, Prod.mk.injEq] at h; obtain ⟨rfl, rfl⟩ := h; exact wp_ret (hQ _ _ hR)
    · simp only [Option.some.injEq, Prod.mk.injEq] at h; obtain ⟨rfl, rfl⟩ := h; exact wp_exit (hQ _ _ hR)
    · exact region_wp hC h hob hR hQ
    · rename_i x y
      split at h
      · rename_i s1 h1
        exact wp_seq (exec_wp hC f x s s1 .normal _ a w h1 (exec_ob f _ _ _ _ h hob) hR (fun a' w' hR' => exec_wp hC f y s1 s' ex Q a' w' h hob hR' hQ))
      · rename_i hne
        refine wp_seq (exec_wp hC f x s s' ex _ a w h hob hR (fun a' w' hR' => ?_))
        cases ex with
        | normal => exact absurd h (hne s')
        | exit id => exact hQ _ _ hR'
        | ret => exact hQ _ _ hR'
    · rename_i c x y
      obtain ⟨loc, hL⟩ := hR
      have hv := hL.ev c
      split at h
      · rename_i hc
        rw [hc] at hv
        exact wp_cond_true hv (exec_wp hC f x s s' ex Q a w h hob ⟨loc, hL⟩ hQ)
      · rename_i hc
        rw [hc] at hv
        exact wp_cond_false hv (exec_wp hC f y s s' ex Q a w h hob ⟨loc, hL⟩ hQ)
      · cases h
    · rename_i id b
      split at h
      · rename_i j s1 h1
        split at h
        · rename_i hb
          have e := Nat.eq_of_beq_eq_true hb
          subst e
          simp only [Option.some.injEq, Prod.mk.injEq] at h
          obtain ⟨rfl, rfl⟩ := h
          refine wp_block (exec_wp hC f b s s1 (.exit j) _ a w h1 hob hR (fun a' w' hR' => ?_))
          simp only [exOf, Exit.inBlock, if_true]
          exact hQ _ _ hR'
        · rename_i hb
          have e : ¬ j = id := fun e => by rw [e, Nat.beq_refl] at hb; cases hb
          simp only [Option.some.injEq, Prod.mk.injEq] at h
          obtain ⟨rfl, rfl⟩ := h
          refine wp_block (exec_wp hC f b s s1 (.exit j) _ a w h1 hob hR (fun a' w' hR' => ?_))
          simp only [exOf, Exit.inBlock, if_neg e]
          exact hQ _ _ hR'
      · rename_i hne
        refine wp_block (exec_wp hC f b s s' ex _ a w h hob hR (fun a' w' hR' => ?_))
        cases ex with
        | normal => exact hQ _ _ hR'
        | exit j => exact absurd h (hne j s')
        | ret => exact hQ _ _ hR'
    · rename_i b
      have rounds : ∀ (g : Nat) (s : St) (a : Act) (w : World), g ≤ f → exec C (g + 1) (.loop b) s = some (ex, s') → RelS C.gl W fx s a w → Code.rounds C.P b Q (g + 1) a w := by
        intro g
        induction g with
        | zero => intro s a w _ h hR; simp [exec] at h
        | succ g ih =>
          intro s a w hg h hR
          rw [rounds_succ]
          have hg1 : g + 1 ≤ f := hg
          unfold exec at h
          simp only at h
          split at h
          · rename_i s1 h1
            exact exec_wp hC (g + 1) b s s1 .normal _ a w h1 (exec_ob (g + 1) _ _ _ _ h hob) hR (fun a' w' hR' => ih s1 a' w' (by omega) h hR')
          · rename_i hne
            refine exec_wp hC (g + 1) b s s' ex _ a w h hob hR (fun a' w' hR' => ?_)
            cases ex with
            | normal => exact absurd h (hne s')
            | exit id => exact hQ _ _ hR'
            | ret => exact hQ _ _ hR'
      refine wp_loop_rounds (f + 1) (rounds f s a w (Nat.le_refl _) ?_ hR)
      unfold exec
      simp only
      exact h
    · cases h
termination_by f => f

end

end Go.Proofs.YtbdmahidobjaoaaDoor.Sx
