/-
  The law Trims: a number to multiply by; a piece of any length.
-/
import Derived.Test.YtbdmahidobjaoaaDoorClampLaws
namespace Go.Proofs.YtbdmahidobjaoaaDoor.Sx
open Go
set_option maxRecDepth 100000

theorem fnOk_imp {P : Program} {gl : List Blk} {f : FuncId} {F F' : List A → List Blk → Option Res} (h : FnOk P gl f F)
    (hi : ∀ args mem r', F' args mem = some r' → Holds r'.ob → ∃ r, F args mem = some r ∧ Holds r.ob ∧ r.val = r'.val ∧ r.mem = r'.mem ∧ r.new = r'.new) : FnOk P gl f F' := by
  refine ⟨h.1, fun args mem r' hr hob => ?_⟩
  obtain ⟨r, e, ho, e1, e2, e3⟩ := hi args mem r' hr hob
  have H := h.2 args mem r e ho
  have eo : outLk gl mem r = outLk gl mem r' := by
    funext i
    unfold outLk
    rw [e2, e3]
  rw [← e1, ← e2, ← e3, ← eo]
  exact H

/-- A row of m numbers, whose length is plain. -/
def tabFrom (l : List Int) : Nat → Nat → List Int
  | _, 0 => []
  | i, m + 1 => l.getD i 0 :: tabFrom l (i + 1) m

def tab (m : Nat) (l : List Int) : List Int := tabFrom l 0 m

theorem tabFrom_eq : ∀ (m i : Nat) (l : List Int), l.length = i + m → tabFrom l i m = l.drop i
  | 0, i, l, h => by rw [List.drop_eq_nil_of_le (by omega)]; rfl
  | m + 1, i, l, h => by
    unfold tabFrom
    rw [tabFrom_eq m (i + 1) l (by omega), List.drop_eq_getElem_cons (show i < l.length by omega), List.getD, List.getElem?_eq_getElem (show i < l.length by omega)]
    rfl

theorem tab_eq (m : Nat) (l : List Int) (h : l.length = m) : tab m l = l := by
  unfold tab
  rw [tabFrom_eq m 0 l (by omega), List.drop_zero]

def blk (x : List Int) : List Int := if x.length ≤ 16 then blockL x else List.replicate 17 0
def blkE (x : List Int) : Int := if x.length ≤ 16 then 0 else 2
def blkA (x : List Int) : A := .pair (.agg .u8 (tab 17 (blk x))) (.int .i64 (blkE x))

theorem blk_length (x : List Int) : (blk x).length = 17 := by
  unfold blk
  split
  · simp [blockL]; omega
  · simp

theorem blkA_eq (x : List Int) : blockA x = blkA x := by
  unfold blockA blkA
  rw [tab_eq 17 _ (blk_length x)]
  unfold blk blkE
  cases h : Nat.ble x.length 16 with
  | true => rw [if_pos (Nat.le_of_ble_eq_true h), if_pos (Nat.le_of_ble_eq_true h)]
  | false =>
    have hn : ¬ x.length ≤ 16 := fun hc => by rw [nble hc] at h; cases h
    rw [if_neg hn, if_neg hn]

/-- A function of one slice of bytes; what cannot be reckoned of symbols is taken for granted. -/
def FSo (g : List Int → A) : List A → List Blk → Option Res
  | [.slc i o n _], [b] => match Nat.beq i 1 && decide (b.k = .u8) with
    | true => some ⟨g (sub b.l o n), [none], none, [o + n ≤ b.l.length ∧ 1 ≤ n]⟩
    | false => none
  | [.slc 0 0 0 0], [] => some ⟨g [], [], none, []⟩
  | _, _ => none

theorem fso_ok {f : FuncId} {g g' : List Int → A} (hg : ∀ x, g x = g' x) (h : FnOk Tryd.prog gl f (FS g)) : FnOk Tryd.prog gl f (FSo g') := by
  refine fnOk_imp h (fun args mem r' hr hob => ?_)
  unfold FSo at hr
  split at hr
  · rename_i i o n c b
    split at hr
    · rename_i hc
      simp only [Option.some.injEq] at hr
      subst hr
      obtain ⟨h1, h2⟩ := hob _ (List.mem_singleton.2 rfl)
      simp only [Bool.and_eq_true] at hc
      refine ⟨⟨g (sub b.l o n), [none], none, []⟩, ?_, Holds.nil, hg _, rfl, rfl⟩
      simp only [FS, hc.1, hc.2, nble h1, nble h2, Bool.and_self]
    · cases hr
  · simp only [Option.some.injEq] at hr
    subst hr
    exact ⟨⟨g [], [], none, []⟩, rfl, Holds.nil, hg _, rfl, rfl⟩
  · cases hr

theorem blockO_ok : FnOk Tryd.prog gl 21 (FSo blkA) := fso_ok blkA_eq block_ok
theorem blockRefO_ok : FnOk Tryd.prog gl 22 (FSo blkA) := fso_ok blkA_eq blockRef_ok

noncomputable abbrev trimsF : List (FuncId × (List A → List Blk → Option Res)) :=
  [(20, fTrim), (23, fTrim), (21, FSo blkA), (22, FSo blkA), (19, FC (.bool true))]
theorem trimsF_ok : ∀ p ∈ trimsF, FnOk Tryd.prog gl p.1 p.2 := by
  intro p hp
  simp only [trimsF, List.mem_cons, List.not_mem_nil, or_false] at hp
  rcases hp with rfl | rfl | rfl | rfl | rfl
  · exact trim_ok
  · exact trimRef_ok
  · exact blockO_ok
  · exact blockRefO_ok
  · exact shown_ok
noncomputable abbrev trimsC : Ctx := mkh (fun _ => some true) trimsF

/-- A law of an array and a slice: true. -/
def FAS (n : Nat) : List A → List Blk → Option Res
  | [.agg k l, .slc i 0 m c], [b] => match decide (k = .u8) && Nat.beq l.length n && Nat.beq i 1 && Nat.beq m b.l.length && Nat.beq c m && Nat.ble 1 m && decide (b.k = .u8) && !b.rw with
    | true => some ⟨.bool true, [none], none, []⟩
    | false => none
  | [.agg k l, .slc 0 0 0 0], [] => match decide (k = .u8) && Nat.beq l.length n with
    | true => some ⟨.bool true, [], none, []⟩
    | false => none
  | _, _ => none

theorem fas_run {C : Ctx} (hC : C.Ok) (hP : C.P = Tryd.prog) (hgl : C.gl = gl) {f : FuncId} {fn : Func} {c : Code} {n : Nat} (hf : Tryd.prog.funcs[f]? = some fn) (hname : (fn.name == "runtime.NumGoroutine") = false) (hb : fn.body = some c) (ht : Nat.ble 2 fn.ntmps = true)
    (h0 : ∀ l : List Int, l.length = n → (∀ y ∈ l, wf .u8 y) → ∃ fuel ob, callRes C fn fuel [.agg .u8 l, .slc 0 0 0 0] [] = some ⟨.bool true, [], none, ob⟩ ∧ Holds ob)
    (h : ∀ (l x : List Int) (t : TypeId), l.length = n → 1 ≤ x.length → (∀ y ∈ l, wf .u8 y) → (∀ y ∈ x, wf .u8 y) → ∃ fuel ob, callRes C fn fuel [.agg .u8 l, .slc 1 0 x.length x.length] [⟨.u8, t, x, false⟩] = some ⟨.bool true, [some ⟨.u8, t, x, false⟩], none, ob⟩ ∧ Holds ob) : FnOk Tryd.prog gl f (FAS n) := by
  rw [← hP, ← hgl]
  refine fnOk_run hC (by rw [hP]; exact hf) hname hb (fun args mem r hr _ => ?_)
  unfold FAS at hr
  split at hr
  · rename_i k l i m c b
    split at hr
    · rename_i hc
      simp only [Option.some.injEq] at hr
      subst hr
      simp only [Bool.and_eq_true] at hc
      obtain ⟨⟨⟨⟨⟨⟨⟨hk, hl⟩, hi⟩, hm⟩, hcm⟩, h1⟩, hbk⟩, hrw⟩ := hc
      have hk' := of_decide_eq_true hk
      have hl' := Nat.eq_of_beq_eq_true hl
      have hi' := Nat.eq_of_beq_eq_true hi
      have hm' := Nat.eq_of_beq_eq_true hm
      have hc' := Nat.eq_of_beq_eq_true hcm
      have hbk' := of_decide_eq_true hbk
      obtain ⟨kb, t, x, rw⟩ := b
      simp only at hbk' hm' hrw
      subst hk' hi' hc' hm' hbk'
      have hrw' : rw = false := by cases rw <;> simp_all
      subst hrw'
      refine ⟨beq_le ht, fun j b hj => ?_, fun b hb => (by cases hb), fun hw hw' => ?_⟩
      · match j, hj with
        | 0, hj => simp at hj
        | j + 1, hj => simp at hj
      · obtain ⟨fuel, ob, hr, hob⟩ := h l x t hl' (beq_le h1) (hw (.agg .u8 l) (by simp)) (hw' ⟨.u8, t, x, false⟩ (by simp))
        refine ⟨fuel, _, hr, hob, ⟨rfl, rfl, fun j hj => ?_⟩⟩
        match j, hj with
        | 0, hj => rfl
        | j + 1, hj => simp at hj
    · cases hr
  · rename_i k l
    split at hr
    · rename_i hc
      simp only [Option.some.injEq] at hr
      subst hr
      simp only [Bool.and_eq_true] at hc
      have hk' := of_decide_eq_true hc.1
      have hl' := Nat.eq_of_beq_eq_true hc.2
      subst hk'
      refine ⟨beq_le ht, fun j b hj => (by simp at hj), fun b hb => (by cases hb), fun hw _ => ?_⟩
      obtain ⟨fuel, ob, hr, hob⟩ := h0 l hl' (hw (.agg .u8 l) (by simp))
      exact ⟨fuel, _, hr, hob, ⟨rfl, rfl, fun j hj => by simp at hj⟩⟩
    · cases hr
  · cases hr

theorem trims_run0 (l : List Int) (h : l.length = 16) : callRes trimsC Tryd.f3 300 [.agg .u8 l, .slc 0 0 0 0] [] =
    some ⟨.bool true, [], none, [decide (trimL l = trimL l) = true, decide (trimL (trimL l) = trimL l) = true, decide (tab 17 (blk []) = tab 17 (blk [])) = true, (blkE [] == blkE []) = true]⟩ := by
  obtain ⟨b0, b1, b2, b3, b4, b5, b6, b7, b8, b9, b10, b11, b12, b13, b14, b15, rfl⟩ := list16 h
  kernel_rfl

theorem trims_run (l x : List Int) (n : Nat) (t : TypeId) (h : l.length = 16) : callRes trimsC Tryd.f3 300 [.agg .u8 l, .slc 1 0 n n] [⟨.u8, t, x, false⟩] =
    some ⟨.bool true, [some ⟨.u8, t, x, false⟩], none, [0 + n ≤ x.length ∧ 1 ≤ n, 0 + n ≤ x.length ∧ 1 ≤ n, decide (trimL l = trimL l) = true, decide (trimL (trimL l) = trimL l) = true, decide (tab 17 (blk (sub x 0 n)) = tab 17 (blk (sub x 0 n))) = true, (blkE (sub x 0 n) == blkE (sub x 0 n)) = true]⟩ := by
  obtain ⟨b0, b1, b2, b3, b4, b5, b6, b7, b8, b9, b10, b11, b12, b13, b14, b15, rfl⟩ := list16 h
  kernel_rfl

theorem and15 (x : Int) (h0 : 0 ≤ x) (h1 : x < 256) : bits .and .u8 (bits .and .u8 x 15) 15 = bits .and .u8 x 15 := by
  have : ∀ i : Fin 256, bits .and .u8 (bits .and .u8 (i.val : Int) 15) 15 = bits .and .u8 (i.val : Int) 15 := by decide +kernel
  have h := this ⟨x.toNat, by omega⟩
  rwa [show ((⟨x.toNat, by omega⟩ : Fin 256).val : Int) = x from Int.toNat_of_nonneg h0] at h

theorem and252 (x : Int) (h0 : 0 ≤ x) (h1 : x < 256) : bits .and .u8 (bits .and .u8 x 252) 252 = bits .and .u8 x 252 := by
  have : ∀ i : Fin 256, bits .and .u8 (bits .and .u8 (i.val : Int) 252) 252 = bits .and .u8 (i.val : Int) 252 := by decide +kernel
  have h := this ⟨x.toNat, by omega⟩
  rwa [show ((⟨x.toNat, by omega⟩ : Fin 256).val : Int) = x from Int.toNat_of_nonneg h0] at h

theorem trimL_twice (l : List Int) (h : l.length = 16) (hw : ∀ x ∈ l, wf .u8 x) : trimL (trimL l) = trimL l := by
  obtain ⟨b0, b1, b2, b3, b4, b5, b6, b7, b8, b9, b10, b11, b12, b13, b14, b15, rfl⟩ := list16 h
  have hb : ∀ x ∈ [b0, b1, b2, b3, b4, b5, b6, b7, b8, b9, b10, b11, b12, b13, b14, b15], 0 ≤ x ∧ x < 256 := fun x hx => wf_u8.1 (hw x hx)
  have g15 : ∀ x ∈ [b0, b1, b2, b3, b4, b5, b6, b7, b8, b9, b10, b11, b12, b13, b14, b15], bits .and .u8 (bits .and .u8 x 15) 15 = bits .and .u8 x 15 := fun x hx => and15 x (hb x hx).1 (hb x hx).2
  have g252 : ∀ x ∈ [b0, b1, b2, b3, b4, b5, b6, b7, b8, b9, b10, b11, b12, b13, b14, b15], bits .and .u8 (bits .and .u8 x 252) 252 = bits .and .u8 x 252 := fun x hx => and252 x (hb x hx).1 (hb x hx).2
  simp only [trimL]
  rw [g15 b3 (by simp), g15 b7 (by simp), g15 b11 (by simp), g15 b15 (by simp), g252 b4 (by simp), g252 b8 (by simp), g252 b12 (by simp)]

theorem trimsL_ok : FnOk Tryd.prog gl 3 (FAS 16) := by
  refine fas_run (C := trimsC) (mkh_ok trimsF_ok) rfl rfl Tryd.func3 (by kernel_rfl) rfl (by kernel_rfl) (fun l hl hw => ⟨300, _, trims_run0 l hl, fun p hp => ?_⟩) (fun l x t hl hx hw _ => ⟨300, _, trims_run l x _ t hl, fun p hp => ?_⟩)
  · simp only [List.mem_cons, List.not_mem_nil, or_false] at hp
    rcases hp with rfl | rfl | rfl | rfl
    · exact dT trivial
    · exact dT (trimL_twice l hl hw)
    · exact dT trivial
    · exact beq_self_eq_true _
  · simp only [List.mem_cons, List.not_mem_nil, or_false] at hp
    rcases hp with rfl | rfl | rfl | rfl | rfl | rfl
    · exact ⟨by omega, hx⟩
    · exact ⟨by omega, hx⟩
    · exact dT trivial
    · exact dT (trimL_twice l hl hw)
    · exact dT trivial
    · exact beq_self_eq_true _

end Go.Proofs.YtbdmahidobjaoaaDoor.Sx
