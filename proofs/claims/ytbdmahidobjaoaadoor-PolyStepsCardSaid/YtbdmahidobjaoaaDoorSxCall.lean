/-
  A call by contract ('callA_ok'), and one operation whole ('op1_sound').
-/
import Derived.Test.YtbdmahidobjaoaaDoorSxOp
namespace Go.Proofs.YtbdmahidobjaoaaDoor.Sx
open Go

/-- A spot of which nobody may say that it is the call's own. -/
abbrev bare (s : Spot) : Spot := ⟨s.1, s.2, s.3, false⟩

theorem okMem_ok : ∀ (l : List (Option Blk)) (m : Nat) (b : Blk), okMem l = true → l[m]? = some (some b) → b.rw = true
  | [], m, b, _, h => by simp at h
  | none :: r, 0, b, _, h => by simp at h
  | none :: r, m + 1, b, h, h' => okMem_ok r m b h (by simpa using h')
  | some c :: r, 0, b, h, h' => by
    simp only [okMem, Bool.and_eq_true] at h
    simp at h'
    rw [← h']; exact h.1
  | some c :: r, m + 1, b, h, h' => by
    simp only [okMem, Bool.and_eq_true] at h
    exact okMem_ok r m b h.2 (by simpa using h')

/-- Where a callee's blocks lie. -/
def locIn (ng : Nat) (loc : Loc) (is : List Nat) : Loc := fun j =>
  if j < ng then ⟨j, 0, 0, false⟩ else match is[j - ng]? with
    | some i => bare (loc i)
    | none => ⟨0, 0, 0, false⟩

theorem look_mem {i : Nat} {b : Blk} : ∀ l : List (Nat × Blk), (i, b) ∈ l → (look l i).isSome = true
  | (j, c) :: l, h => by
    unfold look
    split
    · rfl
    · rename_i hb
      refine look_mem (b := b) l ?_
      rcases List.mem_cons.1 h with e | h
      · simp only [Prod.mk.injEq] at e
        rw [e.1, Nat.beq_refl] at hb
        cases hb
      · exact h

theorem updL_append (lk : Lk) : ∀ (p q : List (Nat × Blk)), updL lk (p ++ q) = updL (updL lk p) q := by
  intro p
  induction p generalizing lk with
  | nil => intro q; rfl
  | cons x p ih => intro q; exact ih _ q

theorem updL_putsOf : ∀ (is : List Nat) (ms : List (Option Blk)) (lk : Lk), is.Nodup → ∀ i,
    (∀ m : Nat, is[m]? = some i → updL lk (putsOf is ms) i = orElse (lk i) ms[m]?) ∧ (i ∉ is → updL lk (putsOf is ms) i = lk i)
  | [], _, lk, _, i => ⟨fun m h => by simp at h, fun _ => rfl⟩
  | j :: is, [], lk, _, i => ⟨fun m _ => by simp [putsOf, updL, orElse], fun _ => rfl⟩
  | j :: is, none :: ms, lk, hn, i => by
    obtain ⟨n1, n2⟩ := List.nodup_cons.1 hn
    obtain ⟨h1, h2⟩ := updL_putsOf is ms lk n2 i
    refine ⟨fun m hm => ?_, fun hi => h2 (fun h => hi (List.mem_cons_of_mem _ h))⟩
    cases m with
    | zero =>
      simp only [List.getElem?_cons_zero, Option.some.injEq] at hm
      subst hm
      have := h2 n1
      simpa [putsOf, orElse] using this
    | succ m =>
      have := h1 m (by simpa using hm)
      simpa [putsOf] using this
  | j :: is, some b :: ms, lk, hn, i => by
    obtain ⟨n1, n2⟩ := List.nodup_cons.1 hn
    obtain ⟨h1, h2⟩ := updL_putsOf is ms (fun q => if q = j then some b else lk q) n2 i
    refine ⟨fun m hm => ?_, fun hi => ?_⟩
    · cases m with
      | zero =>
        simp only [List.getElem?_cons_zero, Option.some.injEq] at hm
        subst hm
        have := h2 n1
        simpa [putsOf, updL, orElse] using this
      | succ m =>
        have hm' : is[m]? = some i := by simpa using hm
        have hij : i ≠ j := fun e => n1 (by subst e; exact List.mem_of_getElem? hm')
        have := h1 m hm'
        simpa [putsOf, updL, hij] using this
    · have hij : i ≠ j := fun e => hi (by simp [e])
      have := h2 (fun h => hi (List.mem_cons_of_mem _ h))
      simpa [putsOf, updL, hij] using this

section
variable {C : Ctx} {n nid : Nat} {W w : World} {fx : List Fx} {loc : Loc} {tm : Nat → A} {lk : Lk} {a : Act} {o : Oper}

theorem VRs_of {ρ : Operand → A} {loc' : Loc} {lk' : Lk} {f : Nat → Option Nat} (hρ : ∀ x, VR loc lk (ρ x) (a.eval x))
    (hf : ∀ i j, f i = some j → (lk i).isSome = true → ((loc' j).1 = (loc i).1 ∧ (loc' j).2 = (loc i).2) ∧ (lk' j).isSome = true) : ∀ (args : List Operand) (cargs : List A),
    allSome ((args.map ρ).map (renA f)) = some cargs → VRs loc' lk' cargs (args.map a.eval)
  | [], cargs, h => by simp only [List.map_nil, allSome, Option.some.injEq] at h; subst h; exact .nil
  | x :: args, cargs, h => by
    simp only [List.map_cons] at h
    cases hq : renA f (ρ x) with
    | none => rw [hq] at h; cases h
    | some y =>
      rw [hq] at h
      unfold allSome at h
      split at h
      · rename_i l hl
        simp only [Option.some.injEq] at h
        subst h
        exact .cons (VR.ren hf _ _ _ hq (hρ x)) (VRs_of hρ hf args l hl)
      · cases h

theorem live_of {b b0 : Blk} (h : b.rw = b0.rw ∧ (b.rw = true ∨ b = b0)) (hl : Live b) : Live b0 := by
  rcases h.2 with e | e
  · exact Or.inr (by rw [← h.1]; exact e)
  · rw [← e]; exact hl

theorem callA_ok (hC : C.Ok) (h : RelL C.gl W fx loc n tm lk a w) {f : FuncId} {c : Call} {e : Eff} (ho : o.op = .call c) (hc : c.callee = .value (.func f)) (hx : C.ext f = 0)
    (he : callA C lk nid f (c.args.toList.map (ev C.gl.length tm)) = some e) (hn : (look e.puts nid).isSome = true → lk nid = none) (hob : Holds e.ob) : Does C.P o a w (Post C W fx n tm lk a o.dst e) := by
  unfold callA at he
  simp only [Ctx.ng] at he
  generalize his : roots C.gl.length ((c.args.toList.map (ev C.gl.length tm)).flatMap ids) = is at he
  have hroots := roots_spec C.gl.length ((c.args.toList.map (ev C.gl.length tm)).flatMap ids)
  rw [his] at hroots
  obtain ⟨hnd, hmem⟩ := hroots
  split at he
  · rename_i cargs mem hargs hmm
    split at he
    · rename_i r hr
      split at he
      rotate_left
      · cases he
      rename_i hokm
      split at he
      · rename_i v hv
        simp only [Option.some.injEq] at he
        subst he
        obtain ⟨⟨fn, hfn, hname, hbody⟩, hcon⟩ := hC.fn f hx cargs mem r hr
        obtain ⟨hmrw, hnrw, hcall⟩ := hcon cargs mem r hr hob
        have hlk := allSome_spec _ _ hmm
        have hlen : mem.length = is.length := by
          have := congrArg List.length hlk
          simpa using this.symm
        have hget : ∀ (m i : Nat), is[m]? = some i → mem[m]? = lk i := fun m i hi => by
          have := congrArg (fun q : List (Option Blk) => q[m]?) hlk
          simp only [List.getElem?_map, hi, Option.map_some] at this
          cases hq : mem[m]? with
          | none => rw [hq] at this; cases this
          | some b => rw [hq] at this; simp only [Option.map_some, Option.some.injEq] at this; exact this.symm
        have hpres : ∀ (m i : Nat), is[m]? = some i → ∃ b, mem[m]? = some b ∧ lk i = some b := fun m i hi => by
          have hm : m < mem.length := by rw [hlen]; exact (List.getElem?_eq_some_iff.1 hi).1
          have := hget m i hi
          rw [List.getElem?_eq_getElem hm] at this
          exact ⟨_, List.getElem?_eq_getElem hm, this.symm⟩
        have hge : ∀ (m i : Nat), is[m]? = some i → C.gl.length ≤ i := fun m i hi => ((hmem i).1 (List.mem_of_getElem? hi)).1
        -- the callee's place
        have hin : ∀ i j, inward C.gl.length is i = some j → (lk i).isSome = true → ((locIn C.gl.length loc is j).1 = (loc i).1 ∧ (locIn C.gl.length loc is j).2 = (loc i).2) ∧ (inLk C.gl mem j).isSome = true := by
          intro i j hij hs
          unfold inward at hij
          split at hij
          · rename_i hb
            have hlt : i < C.gl.length := beq_le hb
            simp only [Option.some.injEq] at hij
            subst hij
            refine ⟨⟨by simp [locIn, hlt, (h.glob i hlt).1], by simp [locIn, hlt, (h.glob i hlt).1]⟩, by simp [inLk, hlt]⟩
          · obtain ⟨h1, h2⟩ := idxOf_spec _ _ _ _ hij
            refine ⟨⟨by simp [locIn, Nat.not_lt.2 h1, h2], by simp [locIn, Nat.not_lt.2 h1, h2]⟩, ?_⟩
            simp only [inLk, Nat.not_lt.2 h1, if_false]
            rw [hget _ _ h2]; exact hs
        have hVRs := VRs_of (a := a) (fun x => h.ev x) hin c.args.toList cargs hargs
        have hout_in : ∀ j b, inLk C.gl mem j = some b → (j < C.gl.length ∧ C.gl[j]? = some b) ∨ (C.gl.length ≤ j ∧ ∃ i, is[j - C.gl.length]? = some i ∧ lk i = some b ∧ locIn C.gl.length loc is j = bare (loc i)) := by
          intro j b hb
          unfold inLk at hb
          split at hb
          · rename_i hlt; exact Or.inl ⟨hlt, hb⟩
          · rename_i hlt
            have hj : j - C.gl.length < is.length := by rw [← hlen]; exact (List.getElem?_eq_some_iff.1 hb).1
            have h2 : is[j - C.gl.length]? = some is[j - C.gl.length] := List.getElem?_eq_getElem hj
            refine Or.inr ⟨by omega, _, h2, ?_, by simp [locIn, hlt, h2]⟩
            rw [← hget _ _ h2]; exact hb
        have hHR : HRel (locIn C.gl.length loc is) (inLk C.gl mem) w := by
          intro j b hb
          rcases hout_in j b hb with ⟨hlt, hg⟩ | ⟨hge', i, hi, hli, hloc⟩
          · have hl : lk j = some b := by rw [(h.glob j hlt).2]; exact hg
            obtain ⟨a1, a2, a3, a4⟩ := h.heap j b hl
            have hloc : locIn C.gl.length loc is j = loc j := by simp [locIn, hlt, (h.glob j hlt).1]
            refine ⟨a1, by rw [hloc]; exact a2, fun q y hy => by rw [hloc]; exact a3 q y hy, fun hrw => ?_⟩
            have := hC.glro j b hg
            rw [hrw] at this; cases this
          · obtain ⟨a1, a2, a3, a4⟩ := h.heap i b hli
            refine ⟨a1, by rw [hloc]; exact a2, fun q y hy => by rw [hloc]; exact a3 q y hy, fun hrw => ?_⟩
            obtain ⟨o1, o2, o4⟩ := a4 hrw
            rw [hloc]
            refine ⟨o1, o2, fun j' b' hne hb' hlv => ?_⟩
            rcases hout_in j' b' hb' with ⟨hlt', hg'⟩ | ⟨hge'', i', hi', hli', hloc'⟩
            · have e1 : locIn C.gl.length loc is j' = loc j' := by simp [locIn, hlt', (h.glob j' hlt').1]
              rw [e1]
              refine o4 j' b' (fun e => ?_) (by rw [(h.glob j' hlt').2]; exact hg') hlv
              have := hge _ _ hi
              omega
            · rw [hloc']
              refine o4 i' b' (fun e => hne ?_) hli' hlv
              subst e
              have hp := List.pairwise_iff_getElem.1 hnd
              obtain ⟨b1, b2⟩ := List.getElem?_eq_some_iff.1 hi
              obtain ⟨b1', b2'⟩ := List.getElem?_eq_some_iff.1 hi'
              rcases Nat.lt_trichotomy (j' - C.gl.length) (j - C.gl.length) with hl | hl | hl
              · exact absurd (b2'.trans b2.symm) (hp _ _ b1' b1 hl)
              · omega
              · exact absurd (b2.trans b2'.symm) (hp _ _ b1 b1' hl)
        have hfr := hcall (locIn C.gl.length loc is) w (c.args.toList.map a.eval) hVRs hHR (fun g hg => by simp [locIn, hg]) (fun i _ => by
          unfold locIn
          split
          · rfl
          · split <;> rfl) hC.glro
        refine Or.inr (Or.inr ⟨f, (c.args.toList.map a.eval).toArray, w, ?_, hfr.mono ?_⟩)
        · rw [does_call ho hc]
          have : (c.args.map a.eval) = (c.args.toList.map a.eval).toArray := by apply Array.ext'; simp
          rw [this]
          have h1 : fn.name ≠ "runtime.NumGoroutine" := by simpa using hname
          have h2 : fn.body ≠ none := fun e => by rw [e] at hbody; cases hbody
          simp [callFunc, hfn, h1, h2]
        · rintro e w' ⟨u, loc', rfl, hu, hH', hloc', hnew', hfr'⟩
          refine ⟨u, rfl, ?_⟩
          -- the caller's place behind the call
          have hlkn : ∀ b, r.new = some b → lk nid = none := fun b hb => hn (look_mem (b := b) _ (by rw [hb]; exact List.mem_append_right _ (List.mem_singleton.2 rfl)))
          have hnin : ∀ b, r.new = some b → nid ∉ is := fun b hb hi => by
            obtain ⟨m, hm⟩ := List.getElem?_of_mem hi
            obtain ⟨b', _, h2⟩ := hpres m nid hm
            rw [hlkn b hb] at h2; cases h2
          have hput : ∀ i, (∀ m : Nat, is[m]? = some i → updL lk (putsOf is r.mem ++ newOf nid r.new) i = outLk C.gl mem r (C.gl.length + m)) ∧
              (i ∉ is → (∀ b, r.new = some b → i ≠ nid) → updL lk (putsOf is r.mem ++ newOf nid r.new) i = lk i) ∧
              (∀ b, r.new = some b → i = nid → updL lk (putsOf is r.mem ++ newOf nid r.new) i = some b) := by
            intro i
            obtain ⟨p1, p2⟩ := updL_putsOf is r.mem lk hnd i
            rw [updL_append]
            refine ⟨fun m hm => ?_, fun hi hne => ?_, fun b hb e => ?_⟩
            · have hm' : m < mem.length := by rw [hlen]; exact (List.getElem?_eq_some_iff.1 hm).1
              have q1 : outLk C.gl mem r (C.gl.length + m) = orElse mem[m]? r.mem[m]? := by
                unfold outLk
                rw [if_neg (by omega), Nat.add_sub_cancel_left, if_pos hm']
              rw [q1, hget m i hm, ← p1 m hm]
              cases hq : r.new with
              | none => rfl
              | some b =>
                have : i ≠ nid := fun e => hnin b hq (by rw [← e]; exact List.mem_of_getElem? hm)
                simp [newOf, updL, this]
            · rw [← p2 hi]
              cases hq : r.new with
              | none => rfl
              | some b => simp [newOf, updL, hne b hq]
            · rw [hb]
              simp [newOf, updL, e]
          let loc2 : Loc := fun i => if i = nid ∧ r.new.isSome = true then loc' (C.gl.length + mem.length) else loc i
          have hl2 : ∀ i, (lk i).isSome = true → loc2 i = loc i := fun i hi => by
            show (if _ then _ else _) = _
            rw [if_neg]
            rintro ⟨e, hs⟩
            obtain ⟨b, hb⟩ := Option.isSome_iff_exists.1 hs
            rw [e, hlkn b hb] at hi; cases hi
          have hk2 : ∀ i, (lk i).isSome = true → (updL lk (putsOf is r.mem ++ newOf nid r.new) i).isSome = true := fun i hi => by
            obtain ⟨q1, q2, q3⟩ := hput i
            by_cases hi' : i ∈ is
            · obtain ⟨m, hm⟩ := List.getElem?_of_mem hi'
              rw [q1 m hm]
              obtain ⟨b, hb, _⟩ := hpres m i hm
              have hm' : m < mem.length := (List.getElem?_eq_some_iff.1 hb).1
              unfold outLk
              rw [if_neg (by omega), Nat.add_sub_cancel_left, if_pos hm']
              rw [hb]
              unfold orElse
              split <;> rfl
            · rw [q2 hi' (fun b hb e => by rw [e, hlkn b hb] at hi; cases hi)]; exact hi
          have hmono : ∀ i, (lk i).isSome = true → loc2 i = loc i ∧ (updL lk (putsOf is r.mem ++ newOf nid r.new) i).isSome = true := fun i hi => ⟨hl2 i hi, hk2 i hi⟩
          -- where each block of the caller comes from
          have hsrc : ∀ i b, updL lk (putsOf is r.mem ++ newOf nid r.new) i = some b →
              (r.new = some b ∧ i = nid ∧ loc2 i = loc' (C.gl.length + mem.length) ∧ outLk C.gl mem r (C.gl.length + mem.length) = some b) ∨
              (∃ (m : Nat) (b0 : Blk), is[m]? = some i ∧ lk i = some b0 ∧ (b.rw = b0.rw ∧ (b.rw = true ∨ b = b0)) ∧ loc2 i = loc i ∧ loc' (C.gl.length + m) = bare (loc i) ∧ outLk C.gl mem r (C.gl.length + m) = some b) ∨
              (i ∉ is ∧ lk i = some b ∧ loc2 i = loc i) := by
            intro i b hb
            obtain ⟨q1, q2, q3⟩ := hput i
            by_cases hi' : i ∈ is
            · right; left
              obtain ⟨m, hm⟩ := List.getElem?_of_mem hi'
              obtain ⟨b0, hb0, hl0⟩ := hpres m i hm
              have hm' : m < mem.length := (List.getElem?_eq_some_iff.1 hb0).1
              rw [q1 m hm] at hb
              refine ⟨m, b0, hm, hl0, ?_, hl2 i (by rw [hl0]; rfl), ?_, hb⟩
              · unfold outLk at hb
                rw [if_neg (by omega), Nat.add_sub_cancel_left, if_pos hm'] at hb
                unfold orElse at hb
                split at hb
                · rename_i b1 hb1
                  simp only [Option.some.injEq] at hb
                  subst hb
                  obtain ⟨b2, hb2, e2⟩ := hmrw m b1 hb1
                  rw [hb0] at hb2
                  simp only [Option.some.injEq] at hb2
                  exact ⟨by rw [e2, hb2], Or.inl (okMem_ok _ _ _ hokm hb1)⟩
                · rw [hb0] at hb
                  simp only [Option.some.injEq] at hb
                  rw [hb]
                  exact ⟨rfl, Or.inr rfl⟩
              · rw [hloc' _ (by omega)]
                unfold locIn
                rw [if_neg (by omega), Nat.add_sub_cancel_left, hm]
            · by_cases hni : ∃ b', r.new = some b' ∧ i = nid
              · obtain ⟨b', hb', e⟩ := hni
                left
                rw [q3 b' hb' e] at hb
                simp only [Option.some.injEq] at hb
                subst hb
                refine ⟨hb', e, by show (if _ then _ else _) = _; rw [if_pos ⟨e, by rw [hb']; rfl⟩], ?_⟩
                unfold outLk
                rw [if_neg (by omega), Nat.add_sub_cancel_left, if_neg (by omega), if_pos rfl]
                exact hb'
              · right; right
                rw [q2 hi' (fun b' hb' e => hni ⟨b', hb', e⟩)] at hb
                exact ⟨hi', hb, hl2 i (by rw [hb]; rfl)⟩
          have hfxw : ∀ q ∈ fxIn C.gl (locIn C.gl.length loc is) mem, q.rw = true → ∃ (m i : Nat) (b : Blk), is[m]? = some i ∧ lk i = some b ∧ b.rw = true ∧ q.blk = (loc i).1 := by
            intro q hq hrw
            obtain ⟨⟨b, m⟩, hbm, rfl⟩ := List.mem_map.1 hq
            have hbm' := List.mem_zipIdx_iff_getElem?.1 hbm
            simp only at hbm' hrw
            have hm' : m < is.length := by rw [← hlen]; exact (List.getElem?_eq_some_iff.1 hbm').1
            have hi : is[m]? = some is[m] := List.getElem?_eq_getElem hm'
            refine ⟨m, is[m], b, hi, ?_, hrw, ?_⟩
            · rw [← hget m _ hi]; exact hbm'
            · show (locIn C.gl.length loc is (C.gl.length + m)).1 = _
              unfold locIn
              rw [if_neg (by omega), Nat.add_sub_cancel_left, hi]
          have hold : ∀ k, k < w.heap.size → (∀ (m i : Nat) (b : Blk), is[m]? = some i → lk i = some b → b.rw = true → (loc i).1 ≠ k) → w'.heap[k]? = w.heap[k]? := fun k hk hq =>
            hfr'.block k hk (fun q hq1 hq2 => by
              obtain ⟨m, i, b, h1, h2, h3, h4⟩ := hfxw q hq1 hq2
              rw [h4]; exact hq m i b h1 h2 h3)
          refine ⟨loc2, RelL.val ⟨fun p hp => ⟨by rw [hl2 _ (h.fix p hp).2]; exact (h.fix p hp).1, hk2 _ (h.fix p hp).2⟩, fun g hg => ?_, h.size, fun t ht => VR.mono hmono _ _ (h.tmps t ht), h.far, h.defers, ?_, ?_, ?_, ?_⟩ o.dst ?_⟩
          · have hs : (lk g).isSome = true := by rw [(h.glob g hg).2]; simp [hg]
            refine ⟨(hl2 g hs).trans (h.glob g hg).1, ?_⟩
            rw [(hput g).2.1 (fun hi => by obtain ⟨m, hm⟩ := List.getElem?_of_mem hi; have := hge m g hm; omega) (fun b hb e => by rw [e, hlkn b hb] at hs; cases hs)]
            exact (h.glob g hg).2
          · intro i b hb
            rcases hsrc i b hb with ⟨hnb, hi, hloc, hob'⟩ | ⟨m, b0, hm, hl0, hrwe, hloc, hloc2, hob'⟩ | ⟨hni, hli, hloc⟩
            · obtain ⟨a1, a2, a3, a4⟩ := hH' _ b hob'
              rw [← hloc] at a2 a3 a4
              refine ⟨a1, a2, a3, fun hrw => ?_⟩
              obtain ⟨o1, o2, o4⟩ := a4 hrw
              refine ⟨o1, o2, fun i' b' hne hb' _ => ?_⟩
              have hnewge := hnew' b hnb
              rw [← hloc] at hnewge
              rcases hsrc i' b' hb' with ⟨_, hi', _, _⟩ | ⟨m', b0', hm', hl0', _, hloc', _, _⟩ | ⟨_, hli', hloc'⟩
              · exact absurd (hi'.trans hi.symm) hne
              · rw [hloc']
                have := (h.heap i' b0' hl0').lt
                omega
              · rw [hloc']
                have := (h.heap i' b' hli').lt
                omega
            · obtain ⟨a1, a2, a3, a4⟩ := hH' _ b hob'
              rw [hloc2] at a2 a3 a4
              refine ⟨a1, by rw [hloc]; exact a2, fun q y hy => by rw [hloc]; exact a3 q y hy, fun hrw => ?_⟩
              obtain ⟨o1, o2, o4⟩ := a4 hrw
              refine ⟨by rw [hloc]; exact o1, by rw [hloc]; exact o2, fun i' b' hne hb' hlv => ?_⟩
              obtain ⟨_, _, _, d4⟩ := h.heap i b0 hl0
              obtain ⟨_, _, dd⟩ := d4 (by rw [← hrwe.1]; exact hrw)
              rw [hloc]
              rcases hsrc i' b' hb' with ⟨hnb, hi', hlocn, _⟩ | ⟨m', b0', hm', hl0', hrwe', hloc', _, _⟩ | ⟨_, hli', hloc'⟩
              · have hnewge := hnew' b' hnb
                rw [← hlocn] at hnewge
                have := (h.heap i b0 hl0).lt
                omega
              · rw [hloc']; exact dd i' b0' hne hl0' (live_of hrwe' hlv)
              · rw [hloc']; exact dd i' b' hne hli' hlv
            · obtain ⟨a1, a2, a3, a4⟩ := h.heap i b hli
              have hbl : Live b → w'.heap[(loc i).1]? = w.heap[(loc i).1]? := fun hlv => hold _ a2 (fun m i' b' h1 h2 h3 e => by
                obtain ⟨_, _, _, d4⟩ := h.heap i' b' h2
                obtain ⟨_, _, dd⟩ := d4 h3
                exact dd i b (fun e' => hni (by rw [e']; exact List.mem_of_getElem? h1)) hli hlv e.symm)
              refine ⟨a1, by rw [hloc]; exact Nat.lt_of_lt_of_le a2 hfr'.size, fun q y hy => ?_, fun hrw => ?_⟩
              · rw [hloc]
                have := a3 q y hy
                rw [← this]
                simp only [World.cell?, hbl (Or.inl (fun e => by rw [e] at hy; simp at hy))]
              · obtain ⟨o1, o2, o4⟩ := a4 hrw
                rw [hloc]
                refine ⟨o1, ?_, fun i' b' hne hb' hlv => ?_⟩
                · rw [hbl (Or.inr hrw)]; exact o2
                · rcases hsrc i' b' hb' with ⟨hnb, hi', hlocn, _⟩ | ⟨m', b0', hm', hl0', hrwe', hloc', _, _⟩ | ⟨_, hli', hloc'⟩
                  · have hnewge := hnew' b' hnb
                    rw [← hlocn] at hnewge
                    omega
                  · rw [hloc']; exact o4 i' b0' hne hl0' (live_of hrwe' hlv)
                  · rw [hloc']; exact o4 i' b' hne hli' hlv
          · intro i b hb hfx hgi
            rcases hsrc i b hb with ⟨hnb, hi, hloc, _⟩ | ⟨m, b0, hm, hl0, _, hloc, _, _⟩ | ⟨hni, hli, hloc⟩
            · rw [hloc]
              exact Nat.le_trans h.fr.size (hnew' b hnb)
            · rw [hloc]; exact h.new i b0 hl0 hfx hgi
            · rw [hloc]; exact h.new i b hli hfx hgi
          · intro i b hb hrw
            rcases hsrc i b hb with ⟨hnb, hi, hloc, _⟩ | ⟨m, b0, hm, hl0, hrwe, hloc, _, _⟩ | ⟨hni, hli, hloc⟩
            · have hnone := hlkn b hnb
              refine ⟨?_, fun p hp e => ?_⟩
              · rcases Nat.lt_or_ge i C.gl.length with hlt | hge'
                · have := (h.glob i hlt).2
                  rw [hi, hnone] at this
                  rw [hi] at hlt
                  simp [hlt] at this
                · exact hge'
              · have := (h.fix p hp).2
                rw [e, hi, hnone] at this; cases this
            · exact h.rwfix i b0 hl0 (by rw [← hrwe.1]; exact hrw)
            · exact h.rwfix i b hli hrw
          · obtain ⟨f1, f2, f3, f4, f5⟩ := h.fr
            refine ⟨hfr'.os.trans f1, hfr'.tape.trans f2, hfr'.output.trans f3, Nat.le_trans f4 hfr'.size, fun k hk hq => ?_⟩
            rw [hold k (by omega) (fun m i b h1 h2 h3 e => ?_)]
            · exact f5 k hk hq
            · obtain ⟨g1, g2⟩ := h.rwfix i b h2 h3
              by_cases hfx : ∃ p ∈ fx, p.id = i
              · obtain ⟨p, hp, e'⟩ := hfx
                have e2 := (h.fix p hp).1
                rw [e'] at e2
                exact hq p hp (g2 p hp e') (by rw [← e, e2])
              · have := h.new i b h2 (fun p hp e' => hfx ⟨p, hp, e'⟩) g1
                omega
          · refine VR.ren (fun i j hij hpr => ?_) _ _ _ hv hu
            unfold outward at hij
            split at hij
            · rename_i hb
              have hlt : i < C.gl.length := beq_le hb
              simp only [Option.some.injEq] at hij
              subst hij
              have hs : (lk i).isSome = true := by rw [(h.glob i hlt).2]; simp [hlt]
              have e : loc2 i = loc' i := by
                rw [hl2 i hs, (h.glob i hlt).1, hloc' i (by omega)]
                simp [locIn, hlt]
              exact ⟨⟨by rw [e], by rw [e]⟩, hk2 i hs⟩
            · rename_i hb
              have hge' : C.gl.length ≤ i := by
                rcases Nat.lt_or_ge i C.gl.length with hlt | hge'
                · rw [Nat.ble_eq_true_of_le hlt] at hb; cases hb
                · exact hge'
              split at hij
              · rename_i i0 hi0
                simp only [Option.some.injEq] at hij
                subst hij
                obtain ⟨b, hb1, hb2⟩ := hpres _ _ hi0
                have hs : (lk i0).isSome = true := by rw [hb2]; rfl
                refine ⟨?_, hk2 _ hs⟩
                have hlt2 : i - C.gl.length < mem.length := (List.getElem?_eq_some_iff.1 hb1).1
                have e : loc' i = bare (loc i0) := by
                  rw [hloc' i (by omega)]
                  simp [locIn, Nat.not_lt.2 hge', hi0]
                rw [hl2 _ hs, e]
                exact ⟨rfl, rfl⟩
              · split at hij
                · rename_i hb2
                  have e2 := Nat.eq_of_beq_eq_true hb2
                  simp only [Option.some.injEq] at hij
                  subst hij
                  have ei : i = C.gl.length + mem.length := by omega
                  subst ei
                  have hout : outLk C.gl mem r (C.gl.length + mem.length) = r.new := by
                    unfold outLk
                    rw [if_neg (by omega), Nat.add_sub_cancel_left, if_neg (by omega), if_pos rfl]
                  rw [hout] at hpr
                  obtain ⟨b, hb⟩ := Option.isSome_iff_exists.1 hpr
                  refine ⟨?_, by rw [(hput nid).2.2 b hb rfl]; rfl⟩
                  have e : loc2 nid = loc' (C.gl.length + mem.length) := by
                    show (if _ then _ else _) = _
                    rw [if_pos ⟨rfl, hpr⟩]
                  exact ⟨by rw [e], by rw [e]⟩
                · cases hij
      · cases he
    · cases he
  · cases he

theorem boundV_spec {top d : Nat} {X : Option A} {i : Int} (h : boundV (d : Int) X = some i) (h0 : 0 ≤ i) (h1 : i ≤ (top : Int)) : bound top d X = some i.toNat := by
  unfold boundV at h
  unfold bound
  split at h
  · simp only [Option.some.injEq] at h
    subst h
    simp
  · split at h
    · rename_i k j hj
      simp only [Option.some.injEq] at h
      subst h
      simp only [decide_eq_true h0, decide_eq_true h1, Bool.and_self]
    · cases h

theorem sliceH_spec {t : TypeId} {x : A} {lo hi : Option A} {e : Eff} (h : sliceH C t x lo hi = some e) (hob : Holds e.ob) : sliceA C t x lo hi = some e.val ∧ e.puts = [] := by
  unfold sliceH at h
  split at h
  · rename_i id off len cap hA
    split at h
    · rename_i k2 e2 m bt hk
      split at h
      · rename_i hh ll h1 h2
        simp only [Option.some.injEq] at h
        subst h
        obtain ⟨p0, p1, p2⟩ := hob _ (List.mem_singleton.2 rfl)
        have b1 := boundV_spec (top := cap) h1 (by omega) p2
        have h2' : boundV ((0 : Nat) : Int) lo = some ll := h2
        have b2 := boundV_spec (top := hh.toNat) h2' p0 (by omega)
        refine ⟨?_, rfl⟩
        unfold sliceA
        simp only [hA, hk, b1, b2]
      · cases h
    · cases h
  · cases h

theorem op1_sound (hC : C.Ok) (h : RelL C.gl W fx loc n tm lk a w) {e : Eff} (he : op1 C lk nid (ev C.gl.length tm) o = some e) (hn : (look e.puts nid).isSome = true → lk nid = none) (hob : Holds e.ob) :
    Does C.P o a w (Post C W fx n tm lk a o.dst e) := by
  have new1 : ∀ (b : Blk), e.puts = [(nid, b)] → lk nid = none := fun b hb => hn (by rw [hb]; simp [look, Nat.beq_refl])
  unfold op1 at he
  split at he
  · rename_i x ho
    have hx := h.ev x
    split at he
    · rename_i i len s hX
      rw [hX] at hx
      split at he
      · simp only [Option.some.injEq] at he
        subst he
        obtain ⟨c, ex, h1, h2, h3, h4, h5⟩ := hx
        exact does_pure h (x := a.eval x) (by simp [execOp, ho]) ⟨⟨Nat.le_refl _, by omega⟩, _, c, ex, h1, fun _ => ⟨rfl, h5⟩⟩
      · simp only [Option.some.injEq] at he
        subst he
        exact does_pure h (x := a.eval x) (by simp [execOp, ho]) hx
    · simp only [Option.some.injEq] at he
      subst he
      exact does_pure h (x := a.eval x) (by simp [execOp, ho]) hx
  · rename_i x ho
    simp only [Option.some.injEq] at he
    subst he
    exact does_pure h (x := a.eval x) (by simp [execOp, ho]) (h.ev x)
  · rename_i c x y ho
    have hc := h.ev c
    split at he
    · rename_i hcv
      rw [hcv] at hc
      have hc' : a.eval c = .bool true := hc
      simp only [Option.some.injEq] at he
      subst he
      exact does_pure h (x := a.eval x) (by simp [execOp, ho, hc', asBool]) (h.ev x)
    · rename_i hcv
      rw [hcv] at hc
      have hc' : a.eval c = .bool false := hc
      simp only [Option.some.injEq] at he
      subst he
      exact does_pure h (x := a.eval y) (by simp [execOp, ho, hc', asBool]) (h.ev y)
    · cases he
  · rename_i t ho
    split at he
    · rename_i k m ht
      simp only [Option.some.injEq] at he
      subst he
      exact alloc_ok h (new1 _ rfl) ho ht
    · cases he
  · rename_i t x ho
    have hx := h.ev x
    split at he
    · rename_i k l hX
      rw [hX] at hx
      obtain ⟨ex, wx⟩ := hx
      simp only [Option.some.injEq] at he
      subst he
      exact box_ok h (new1 _ rfl) ho (by rw [ex]; rfl) wx
    · split at he
      · rename_i k m hI
        obtain ⟨ex, wx⟩ := asI_ok hx hI
        simp only [Option.some.injEq] at he
        subst he
        exact box_ok h (new1 _ rfl) ho (by rw [ex]; rfl) (by simpa using wx)
      · cases he
  · rename_i t ps ho
    split at he
    · rename_i m k e2 ht
      split at he
      · rename_i l hf
        simp only [Option.some.injEq] at he
        subst he
        exact build_ok h ho ht hf
      · cases he
    · cases he
  · rename_i t m ps ho
    split at he
    · rename_i k e2 bt ht
      split at he
      · rename_i hb
        split at he
        · rename_i l hf
          obtain ⟨hr, hl⟩ := buildSlice_ok h ho ht (beq_le hb) hf
          split at he
          · simp only [Option.some.injEq] at he
            subst he
            exact Or.inl ⟨_, _, hr, loc, (h.junk _).val o.dst (v := .emp) ⟨_, rfl⟩⟩
          · simp only [Option.some.injEq] at he
            subst he
            have hm := beq_le hb
            exact does_new h (new1 _ rfl) k e2 l hl _ _ hr (fun loc' lk' e1 e3 => ⟨⟨Nat.le_refl _, by omega⟩, _, _, rfl, Nat.le_refl _, fun _ => ⟨by rw [e1], e3⟩⟩)
        · cases he
      · cases he
    · rename_i k e2 m2 bt _ ht
      split at he
      · rename_i hb
        simp only [Bool.and_eq_true] at hb
        split at he
        · rename_i l hf
          simp only [Option.some.injEq] at he
          subst he
          obtain ⟨hr, hl, hlen⟩ := buildRow_ok h ho ht (beq_le hb.1) (beq_le hb.2) hf
          have hm1 : 1 ≤ m2 := by
            rcases Nat.eq_zero_or_pos m2 with e | e
            · rw [e, Nat.mul_zero] at hb; exact absurd (beq_le hb.2) (by omega)
            · exact e
          have hmm : m ≤ m * m2 := Nat.le_mul_of_pos_right _ hm1
          have hb1 := beq_le hb.1
          exact does_new h (new1 _ rfl) k e2 l hl _ _ hr (fun loc' lk' e1 e3 => slcOr_ok e1 rfl rfl e3 (Nat.le_refl _) (by omega) (by rw [hlen]; exact Nat.le_refl _))
        · cases he
      · cases he
    · cases he
  · rename_i t x ho
    rw [Option.map_eq_some_iff] at he
    obtain ⟨v, hv, rfl⟩ := he
    exact loadA_ok h ho hv
  · rename_i t x y ho
    exact storeA_ok h ho he
  · rename_i x ho
    have hx := h.ev x
    split at he
    · rename_i i off hX
      rw [hX] at hx
      simp only [Option.some.injEq] at he
      subst he
      exact does_pure h (x := a.eval x) (by rw [hx.1]; simp [execOp, ho, hx.1]) hx
    · cases he
  · rename_i op t x y t' ho
    exact binA_ok h ho he hob
  · rename_i op t x ho
    rw [Option.map_eq_some_iff] at he
    obtain ⟨v, hv, rfl⟩ := he
    exact unA_ok h ho hv
  · rename_i s t x ho
    split at he
    · rename_i i off l c hX
      split at he
      · rename_i hu
        have hx := h.ev x
        rw [hX] at hx
        obtain ⟨⟨hlc, -⟩, ad, cc, ex, -, had⟩ := hx
        exact strA_ok h ho hu ⟨ad, cc, ex, fun h0 => (had (by omega)).1⟩ he hob
      · exact convS_ok h ho hX he
    · rename_i hX
      split at he
      · rename_i hu
        have hx := h.ev x
        rw [hX] at hx
        obtain ⟨ad, ex⟩ := hx
        exact strA_ok h ho hu ⟨ad, 0, ex, fun h0 => absurd h0 (Nat.lt_irrefl _)⟩ he hob
      · cases he
    · rw [Option.map_eq_some_iff] at he
      obtain ⟨v, hv, rfl⟩ := he
      exact convA_ok h ho hv
  · rename_i t x i ho
    rw [Option.map_eq_some_iff] at he
    obtain ⟨v, hv, rfl⟩ := he
    exact indexAddrA_ok h ho hv
  · rename_i t x i ho
    rw [Option.map_eq_some_iff] at he
    obtain ⟨v, hv, rfl⟩ := he
    exact indexA_ok h ho hv
  · rename_i x i ho
    have hx := h.ev x
    split at he
    · rename_i X Y hX
      rw [hX] at hx
      obtain ⟨u1, u2, ex, v1, v2⟩ := hx
      simp only [Option.some.injEq] at he
      subst he
      exact does_pure h (x := u1) (by simp [execOp, ho, ex, Instr.extract]) v1
    · rename_i X Y hX
      rw [hX] at hx
      obtain ⟨u1, u2, ex, v1, v2⟩ := hx
      simp only [Option.some.injEq] at he
      subst he
      exact does_pure h (x := u2) (by simp [execOp, ho, ex, Instr.extract]) v2
    · cases he
  · rename_i t x lo hi ho
    split at he
    · obtain ⟨hv, hp⟩ := sliceH_spec he hob
      have hr := sliceA_ok h ho hv
      obtain ⟨val, pu, ob⟩ := e
      simp only at hp hv
      subst hp
      exact hr
    · rw [Option.map_eq_some_iff] at he
      obtain ⟨v, hv, rfl⟩ := he
      exact sliceA_ok h ho hv
  · rename_i t x y ho
    exact makeA_ok h ho he hn
  · rename_i t x ho
    rw [Option.map_eq_some_iff] at he
    obtain ⟨v, hv, rfl⟩ := he
    exact arrayAtA_ok h ho hv
  · rename_i c ho
    split at he
    · rename_i hb
      exact appendA_ok h ho hb he hn hob
    · rename_i b _ hb
      exact builtA_ok h ho hb he
    · rename_i f hf
      split at he
      · rename_i hx
        exact callA_ok hC h ho hf hx he hn hob
      · rw [Option.map_eq_some_iff] at he
        obtain ⟨v, hv, rfl⟩ := he
        exact extA_ok hC h ho hf hv
    · cases he
  · cases he

end

end Go.Proofs.YtbdmahidobjaoaaDoor.Sx
