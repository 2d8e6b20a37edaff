/-
  The contracts of clamp's Block and of the document's.
-/
import Derived.Test.YtbdmahidobjaoaaDoorSxSlice
import Derived.Test.YtbdmahidobjaoaaDoorClampFns4
namespace Go.Proofs.YtbdmahidobjaoaaDoor.Sx
open Go
set_option maxRecDepth 100000

/-- The number of a piece, its bytes: the piece, 1, noughts. -/
def blockL (x : List Int) : List Int := x ++ 1 :: List.replicate (16 - x.length) 0

def blockA (x : List Int) : A :=
  match Nat.ble x.length 16 with
  | true => .pair (.agg .u8 (blockL x)) (.int .i64 0)
  | false => .pair (.agg .u8 (List.replicate 17 0)) (.int .i64 2)

/-- What a function of one slice of bytes answers. -/
def FS (g : List Int → A) : List A → List Blk → Option Res
  | [.slc i o n _], [b] => match Nat.beq i 1 && decide (b.k = .u8) && Nat.ble (o + n) b.l.length && Nat.ble 1 n with
    | true => some ⟨g (sub b.l o n), [none], none, []⟩
    | false => none
  | [.slc 0 0 0 0], [] => some ⟨g [], [], none, []⟩
  | _, _ => none

def FS0 (p : Nat → Bool) (g : List Int → A) : List A → List Blk → Option Res
  | [.slc i 0 n c], [b] => match Nat.beq i 1 && decide (b.k = .u8) && Nat.beq n b.l.length && Nat.beq c n && Nat.ble 1 n && !b.rw && p n with
    | true => some ⟨g b.l, [none], none, []⟩
    | false => none
  | [.slc 0 0 0 0], [] => match p 0 with
    | true => some ⟨g [], [], none, []⟩
    | false => none
  | _, _ => none

theorem fnOk_split {P : Program} {gl : List Blk} {f : FuncId} {F F1 F2 : List A → List Blk → Option Res} (h1 : FnOk P gl f F1) (h2 : FnOk P gl f F2) (h : ∀ args mem r, F args mem = some r → F1 args mem = some r ∨ F2 args mem = some r) : FnOk P gl f F :=
  ⟨h1.1, fun args mem r hr hob => (h args mem r hr).elim (fun e => h1.2 args mem r e hob) (fun e => h2.2 args mem r e hob)⟩

theorem fs0_split {P : Program} {gl : List Blk} {f : FuncId} {g : List Int → A} (p : Nat → Bool) (h1 : FnOk P gl f (FS0 p g)) (h2 : FnOk P gl f (FS0 (fun n => !p n) g)) : FnOk P gl f (FS0 (fun _ => true) g) := by
  refine fnOk_split h1 h2 (fun args mem r hr => ?_)
  unfold FS0 at hr ⊢
  split at hr
  · rename_i i n c b
    simp only [Bool.and_true] at hr
    cases hp : p n with
    | true => left; simpa using hr
    | false => right; simpa [hp] using hr
  · cases hp : p 0 with
    | true => left; simpa using hr
    | false => right; simpa [hp] using hr
  · cases hr

theorem sub_length {l : List Int} {o n : Nat} (h : o + n ≤ l.length) : (sub l o n).length = n := by
  rw [sub_eq, List.length_take, List.length_drop]; omega

theorem nbeq (n : Nat) : Nat.beq n n = true := Nat.beq_refl n
theorem nble {a b : Nat} (h : a ≤ b) : Nat.ble a b = true := Nat.ble_eq_true_of_le h

theorem fs_ok {f : FuncId} {g : List Int → A} (hg : ∀ x, ids (g x) = []) (h : FnOk Tryd.prog gl f (FS0 (fun _ => true) g)) : FnOk Tryd.prog gl f (FS g) := by
  refine fnOk_narrow h (fun args mem r hr hob => ?_)
  unfold FS at hr
  split at hr
  · rename_i i o n c b
    split at hr
    · rename_i hc
      simp only [Option.some.injEq] at hr
      subst hr
      simp only [Bool.and_eq_true] at hc
      obtain ⟨⟨⟨hi, hk⟩, hf⟩, hn⟩ := hc
      have hi' := Nat.eq_of_beq_eq_true hi
      subst hi'
      have hl := sub_length (beq_le hf)
      refine Or.inr ⟨[], [], o, n, c, b, [], rfl, rfl, by simp, by simp, beq_le hf, beq_le hn, rfl, rfl, hg _, Holds.nil, ?_⟩
      show FS0 (fun _ => true) g [.slc 1 0 n n] [⟨b.k, b.t, sub b.l o n, false⟩] = _
      simp only [FS0, hl, nbeq, hk, hn, Bool.and_self, Bool.not_false]
    · cases hr
  · simp only [Option.some.injEq] at hr
    subst hr
    exact Or.inl rfl
  · cases hr

theorem fs0_run {C : Ctx} {p : Nat → Bool} (hC : C.Ok) (hP : C.P = Tryd.prog) (hgl : C.gl = gl) {f : FuncId} {fn : Func} {c : Code} {g : List Int → A} (hf : Tryd.prog.funcs[f]? = some fn) (hname : (fn.name == "runtime.NumGoroutine") = false) (hb : fn.body = some c) (ht : Nat.ble 1 fn.ntmps = true)
    (h0 : p 0 = true → callRes C fn 300 [.slc 0 0 0 0] [] = some ⟨g [], [], none, []⟩)
    (h : ∀ (x : List Int) (t : TypeId), 1 ≤ x.length → p x.length = true → (∀ y ∈ x, wf .u8 y) → ∃ fuel ob, callRes C fn fuel [.slc 1 0 x.length x.length] [⟨.u8, t, x, false⟩] = some ⟨g x, [some ⟨.u8, t, x, false⟩], none, ob⟩ ∧ Holds ob) : FnOk Tryd.prog gl f (FS0 p g) := by
  rw [← hP, ← hgl]
  refine fnOk_run hC (by rw [hP]; exact hf) hname hb (fun args mem r hr _ => ?_)
  unfold FS0 at hr
  split at hr
  · rename_i i n c b
    split at hr
    · rename_i hc
      simp only [Option.some.injEq] at hr
      subst hr
      simp only [Bool.and_eq_true] at hc
      obtain ⟨⟨⟨⟨⟨⟨hi, hk⟩, hl⟩, hcn⟩, hn⟩, hrw⟩, hp⟩ := hc
      have hi' := Nat.eq_of_beq_eq_true hi
      have hl' := Nat.eq_of_beq_eq_true hl
      have hc' := Nat.eq_of_beq_eq_true hcn
      have hk' := of_decide_eq_true hk
      obtain ⟨k, t, x, rw⟩ := b
      simp only at hk' hl' hrw
      subst hi' hc' hl' hk'
      have hrw' : rw = false := by cases rw <;> simp_all
      subst hrw'
      refine ⟨beq_le ht, fun j b hj => ?_, fun b hb => (by cases hb), fun _ hw => ?_⟩
      · match j, hj with
        | 0, hj => simp at hj
        | j + 1, hj => simp at hj
      · obtain ⟨fuel, ob, hr, hob⟩ := h x t (beq_le hn) hp (hw ⟨.u8, t, x, false⟩ (by simp))
        refine ⟨fuel, _, hr, hob, ⟨rfl, rfl, fun j hj => ?_⟩⟩
        match j, hj with
        | 0, hj => rfl
        | j + 1, hj => simp at hj
    · cases hr
  · split at hr
    · rename_i hp
      simp only [Option.some.injEq] at hr
      subst hr
      refine ⟨beq_le ht, fun j b hj => (by simp at hj), fun b hb => (by cases hb), fun _ _ => ⟨300, _, h0 hp, Holds.nil, ⟨rfl, rfl, fun j hj => by simp at hj⟩⟩⟩
    · cases hr
  · cases hr

noncomputable abbrev mkh (hint : Tmp → Option Bool) (l : List (FuncId × (List A → List Blk → Option Res))) : Ctx := mkC Tryd.prog gl 45 46 hint l

theorem mkh_ok {hint : Tmp → Option Bool} {l : List (FuncId × (List A → List Blk → Option Res))} (hl : ∀ p ∈ l, FnOk Tryd.prog gl p.1 p.2) : (mkh hint l).Ok := mkC_ok base _ l hl

def hintAt (d : Nat) (b : Bool) (t : Tmp) : Option Bool :=
  match Nat.beq t d with
  | true => some b
  | false => none
/-! ### Runs -/

theorem block_run0 : callRes (mkh (fun _ => none) []) Tryd.f21 300 [.slc 0 0 0 0] [] = some ⟨blockA [], [], none, []⟩ := by kernel_rfl

theorem block_run1 (t : TypeId) (a0 : Int) : callRes (mkh (fun _ => none) []) Tryd.f21 600 [.slc 1 0 1 1] [⟨.u8, t, [a0], false⟩] = some ⟨blockA [a0], [some ⟨.u8, t, [a0], false⟩], none, []⟩ := by kernel_rfl

theorem block_run2 (t : TypeId) (a0 a1 : Int) : callRes (mkh (fun _ => none) []) Tryd.f21 600 [.slc 1 0 2 2] [⟨.u8, t, [a0, a1], false⟩] = some ⟨blockA [a0, a1], [some ⟨.u8, t, [a0, a1], false⟩], none, []⟩ := by kernel_rfl

theorem block_run3 (t : TypeId) (a0 a1 a2 : Int) : callRes (mkh (fun _ => none) []) Tryd.f21 600 [.slc 1 0 3 3] [⟨.u8, t, [a0, a1, a2], false⟩] = some ⟨blockA [a0, a1, a2], [some ⟨.u8, t, [a0, a1, a2], false⟩], none, []⟩ := by kernel_rfl

theorem block_run4 (t : TypeId) (a0 a1 a2 a3 : Int) : callRes (mkh (fun _ => none) []) Tryd.f21 600 [.slc 1 0 4 4] [⟨.u8, t, [a0, a1, a2, a3], false⟩] = some ⟨blockA [a0, a1, a2, a3], [some ⟨.u8, t, [a0, a1, a2, a3], false⟩], none, []⟩ := by kernel_rfl

theorem block_run5 (t : TypeId) (a0 a1 a2 a3 a4 : Int) : callRes (mkh (fun _ => none) []) Tryd.f21 600 [.slc 1 0 5 5] [⟨.u8, t, [a0, a1, a2, a3, a4], false⟩] = some ⟨blockA [a0, a1, a2, a3, a4], [some ⟨.u8, t, [a0, a1, a2, a3, a4], false⟩], none, []⟩ := by kernel_rfl

theorem block_run6 (t : TypeId) (a0 a1 a2 a3 a4 a5 : Int) : callRes (mkh (fun _ => none) []) Tryd.f21 600 [.slc 1 0 6 6] [⟨.u8, t, [a0, a1, a2, a3, a4, a5], false⟩] = some ⟨blockA [a0, a1, a2, a3, a4, a5], [some ⟨.u8, t, [a0, a1, a2, a3, a4, a5], false⟩], none, []⟩ := by kernel_rfl

theorem block_run7 (t : TypeId) (a0 a1 a2 a3 a4 a5 a6 : Int) : callRes (mkh (fun _ => none) []) Tryd.f21 600 [.slc 1 0 7 7] [⟨.u8, t, [a0, a1, a2, a3, a4, a5, a6], false⟩] = some ⟨blockA [a0, a1, a2, a3, a4, a5, a6], [some ⟨.u8, t, [a0, a1, a2, a3, a4, a5, a6], false⟩], none, []⟩ := by kernel_rfl

theorem block_run8 (t : TypeId) (a0 a1 a2 a3 a4 a5 a6 a7 : Int) : callRes (mkh (fun _ => none) []) Tryd.f21 600 [.slc 1 0 8 8] [⟨.u8, t, [a0, a1, a2, a3, a4, a5, a6, a7], false⟩] = some ⟨blockA [a0, a1, a2, a3, a4, a5, a6, a7], [some ⟨.u8, t, [a0, a1, a2, a3, a4, a5, a6, a7], false⟩], none, []⟩ := by kernel_rfl

theorem block_run9 (t : TypeId) (a0 a1 a2 a3 a4 a5 a6 a7 a8 : Int) : callRes (mkh (fun _ => none) []) Tryd.f21 600 [.slc 1 0 9 9] [⟨.u8, t, [a0, a1, a2, a3, a4, a5, a6, a7, a8], false⟩] = some ⟨blockA [a0, a1, a2, a3, a4, a5, a6, a7, a8], [some ⟨.u8, t, [a0, a1, a2, a3, a4, a5, a6, a7, a8], false⟩], none, []⟩ := by kernel_rfl

theorem block_run10 (t : TypeId) (a0 a1 a2 a3 a4 a5 a6 a7 a8 a9 : Int) : callRes (mkh (fun _ => none) []) Tryd.f21 600 [.slc 1 0 10 10] [⟨.u8, t, [a0, a1, a2, a3, a4, a5, a6, a7, a8, a9], false⟩] = some ⟨blockA [a0, a1, a2, a3, a4, a5, a6, a7, a8, a9], [some ⟨.u8, t, [a0, a1, a2, a3, a4, a5, a6, a7, a8, a9], false⟩], none, []⟩ := by kernel_rfl

theorem block_run11 (t : TypeId) (a0 a1 a2 a3 a4 a5 a6 a7 a8 a9 a10 : Int) : callRes (mkh (fun _ => none) []) Tryd.f21 600 [.slc 1 0 11 11] [⟨.u8, t, [a0, a1, a2, a3, a4, a5, a6, a7, a8, a9, a10], false⟩] = some ⟨blockA [a0, a1, a2, a3, a4, a5, a6, a7, a8, a9, a10], [some ⟨.u8, t, [a0, a1, a2, a3, a4, a5, a6, a7, a8, a9, a10], false⟩], none, []⟩ := by kernel_rfl

theorem block_run12 (t : TypeId) (a0 a1 a2 a3 a4 a5 a6 a7 a8 a9 a10 a11 : Int) : callRes (mkh (fun _ => none) []) Tryd.f21 600 [.slc 1 0 12 12] [⟨.u8, t, [a0, a1, a2, a3, a4, a5, a6, a7, a8, a9, a10, a11], false⟩] = some ⟨blockA [a0, a1, a2, a3, a4, a5, a6, a7, a8, a9, a10, a11], [some ⟨.u8, t, [a0, a1, a2, a3, a4, a5, a6, a7, a8, a9, a10, a11], false⟩], none, []⟩ := by kernel_rfl

theorem block_run13 (t : TypeId) (a0 a1 a2 a3 a4 a5 a6 a7 a8 a9 a10 a11 a12 : Int) : callRes (mkh (fun _ => none) []) Tryd.f21 600 [.slc 1 0 13 13] [⟨.u8, t, [a0, a1, a2, a3, a4, a5, a6, a7, a8, a9, a10, a11, a12], false⟩] = some ⟨blockA [a0, a1, a2, a3, a4, a5, a6, a7, a8, a9, a10, a11, a12], [some ⟨.u8, t, [a0, a1, a2, a3, a4, a5, a6, a7, a8, a9, a10, a11, a12], false⟩], none, []⟩ := by kernel_rfl

theorem block_run14 (t : TypeId) (a0 a1 a2 a3 a4 a5 a6 a7 a8 a9 a10 a11 a12 a13 : Int) : callRes (mkh (fun _ => none) []) Tryd.f21 600 [.slc 1 0 14 14] [⟨.u8, t, [a0, a1, a2, a3, a4, a5, a6, a7, a8, a9, a10, a11, a12, a13], false⟩] = some ⟨blockA [a0, a1, a2, a3, a4, a5, a6, a7, a8, a9, a10, a11, a12, a13], [some ⟨.u8, t, [a0, a1, a2, a3, a4, a5, a6, a7, a8, a9, a10, a11, a12, a13], false⟩], none, []⟩ := by kernel_rfl

theorem block_run15 (t : TypeId) (a0 a1 a2 a3 a4 a5 a6 a7 a8 a9 a10 a11 a12 a13 a14 : Int) : callRes (mkh (fun _ => none) []) Tryd.f21 600 [.slc 1 0 15 15] [⟨.u8, t, [a0, a1, a2, a3, a4, a5, a6, a7, a8, a9, a10, a11, a12, a13, a14], false⟩] = some ⟨blockA [a0, a1, a2, a3, a4, a5, a6, a7, a8, a9, a10, a11, a12, a13, a14], [some ⟨.u8, t, [a0, a1, a2, a3, a4, a5, a6, a7, a8, a9, a10, a11, a12, a13, a14], false⟩], none, []⟩ := by kernel_rfl

theorem block_run16 (t : TypeId) (a0 a1 a2 a3 a4 a5 a6 a7 a8 a9 a10 a11 a12 a13 a14 a15 : Int) : callRes (mkh (fun _ => none) []) Tryd.f21 600 [.slc 1 0 16 16] [⟨.u8, t, [a0, a1, a2, a3, a4, a5, a6, a7, a8, a9, a10, a11, a12, a13, a14, a15], false⟩] = some ⟨blockA [a0, a1, a2, a3, a4, a5, a6, a7, a8, a9, a10, a11, a12, a13, a14, a15], [some ⟨.u8, t, [a0, a1, a2, a3, a4, a5, a6, a7, a8, a9, a10, a11, a12, a13, a14, a15], false⟩], none, []⟩ := by kernel_rfl

theorem blockRef_run0 : callRes (mkh (fun _ => none) []) Tryd.f22 300 [.slc 0 0 0 0] [] = some ⟨blockA [], [], none, []⟩ := by kernel_rfl

theorem blockRef_run1 (t : TypeId) (a0 : Int) : callRes (mkh (fun _ => none) []) Tryd.f22 600 [.slc 1 0 1 1] [⟨.u8, t, [a0], false⟩] = some ⟨blockA [a0], [some ⟨.u8, t, [a0], false⟩], none, []⟩ := by kernel_rfl

theorem blockRef_run2 (t : TypeId) (a0 a1 : Int) : callRes (mkh (fun _ => none) []) Tryd.f22 600 [.slc 1 0 2 2] [⟨.u8, t, [a0, a1], false⟩] = some ⟨blockA [a0, a1], [some ⟨.u8, t, [a0, a1], false⟩], none, []⟩ := by kernel_rfl

theorem blockRef_run3 (t : TypeId) (a0 a1 a2 : Int) : callRes (mkh (fun _ => none) []) Tryd.f22 600 [.slc 1 0 3 3] [⟨.u8, t, [a0, a1, a2], false⟩] = some ⟨blockA [a0, a1, a2], [some ⟨.u8, t, [a0, a1, a2], false⟩], none, []⟩ := by kernel_rfl

theorem blockRef_run4 (t : TypeId) (a0 a1 a2 a3 : Int) : callRes (mkh (fun _ => none) []) Tryd.f22 600 [.slc 1 0 4 4] [⟨.u8, t, [a0, a1, a2, a3], false⟩] = some ⟨blockA [a0, a1, a2, a3], [some ⟨.u8, t, [a0, a1, a2, a3], false⟩], none, []⟩ := by kernel_rfl

theorem blockRef_run5 (t : TypeId) (a0 a1 a2 a3 a4 : Int) : callRes (mkh (fun _ => none) []) Tryd.f22 600 [.slc 1 0 5 5] [⟨.u8, t, [a0, a1, a2, a3, a4], false⟩] = some ⟨blockA [a0, a1, a2, a3, a4], [some ⟨.u8, t, [a0, a1, a2, a3, a4], false⟩], none, []⟩ := by kernel_rfl

theorem blockRef_run6 (t : TypeId) (a0 a1 a2 a3 a4 a5 : Int) : callRes (mkh (fun _ => none) []) Tryd.f22 600 [.slc 1 0 6 6] [⟨.u8, t, [a0, a1, a2, a3, a4, a5], false⟩] = some ⟨blockA [a0, a1, a2, a3, a4, a5], [some ⟨.u8, t, [a0, a1, a2, a3, a4, a5], false⟩], none, []⟩ := by kernel_rfl

theorem blockRef_run7 (t : TypeId) (a0 a1 a2 a3 a4 a5 a6 : Int) : callRes (mkh (fun _ => none) []) Tryd.f22 600 [.slc 1 0 7 7] [⟨.u8, t, [a0, a1, a2, a3, a4, a5, a6], false⟩] = some ⟨blockA [a0, a1, a2, a3, a4, a5, a6], [some ⟨.u8, t, [a0, a1, a2, a3, a4, a5, a6], false⟩], none, []⟩ := by kernel_rfl

theorem blockRef_run8 (t : TypeId) (a0 a1 a2 a3 a4 a5 a6 a7 : Int) : callRes (mkh (fun _ => none) []) Tryd.f22 600 [.slc 1 0 8 8] [⟨.u8, t, [a0, a1, a2, a3, a4, a5, a6, a7], false⟩] = some ⟨blockA [a0, a1, a2, a3, a4, a5, a6, a7], [some ⟨.u8, t, [a0, a1, a2, a3, a4, a5, a6, a7], false⟩], none, []⟩ := by kernel_rfl

theorem blockRef_run9 (t : TypeId) (a0 a1 a2 a3 a4 a5 a6 a7 a8 : Int) : callRes (mkh (fun _ => none) []) Tryd.f22 600 [.slc 1 0 9 9] [⟨.u8, t, [a0, a1, a2, a3, a4, a5, a6, a7, a8], false⟩] = some ⟨blockA [a0, a1, a2, a3, a4, a5, a6, a7, a8], [some ⟨.u8, t, [a0, a1, a2, a3, a4, a5, a6, a7, a8], false⟩], none, []⟩ := by kernel_rfl

theorem blockRef_run10 (t : TypeId) (a0 a1 a2 a3 a4 a5 a6 a7 a8 a9 : Int) : callRes (mkh (fun _ => none) []) Tryd.f22 600 [.slc 1 0 10 10] [⟨.u8, t, [a0, a1, a2, a3, a4, a5, a6, a7, a8, a9], false⟩] = some ⟨blockA [a0, a1, a2, a3, a4, a5, a6, a7, a8, a9], [some ⟨.u8, t, [a0, a1, a2, a3, a4, a5, a6, a7, a8, a9], false⟩], none, []⟩ := by kernel_rfl

theorem blockRef_run11 (t : TypeId) (a0 a1 a2 a3 a4 a5 a6 a7 a8 a9 a10 : Int) : callRes (mkh (fun _ => none) []) Tryd.f22 600 [.slc 1 0 11 11] [⟨.u8, t, [a0, a1, a2, a3, a4, a5, a6, a7, a8, a9, a10], false⟩] = some ⟨blockA [a0, a1, a2, a3, a4, a5, a6, a7, a8, a9, a10], [some ⟨.u8, t, [a0, a1, a2, a3, a4, a5, a6, a7, a8, a9, a10], false⟩], none, []⟩ := by kernel_rfl

theorem blockRef_run12 (t : TypeId) (a0 a1 a2 a3 a4 a5 a6 a7 a8 a9 a10 a11 : Int) : callRes (mkh (fun _ => none) []) Tryd.f22 600 [.slc 1 0 12 12] [⟨.u8, t, [a0, a1, a2, a3, a4, a5, a6, a7, a8, a9, a10, a11], false⟩] = some ⟨blockA [a0, a1, a2, a3, a4, a5, a6, a7, a8, a9, a10, a11], [some ⟨.u8, t, [a0, a1, a2, a3, a4, a5, a6, a7, a8, a9, a10, a11], false⟩], none, []⟩ := by kernel_rfl

theorem blockRef_run13 (t : TypeId) (a0 a1 a2 a3 a4 a5 a6 a7 a8 a9 a10 a11 a12 : Int) : callRes (mkh (fun _ => none) []) Tryd.f22 600 [.slc 1 0 13 13] [⟨.u8, t, [a0, a1, a2, a3, a4, a5, a6, a7, a8, a9, a10, a11, a12], false⟩] = some ⟨blockA [a0, a1, a2, a3, a4, a5, a6, a7, a8, a9, a10, a11, a12], [some ⟨.u8, t, [a0, a1, a2, a3, a4, a5, a6, a7, a8, a9, a10, a11, a12], false⟩], none, []⟩ := by kernel_rfl

theorem blockRef_run14 (t : TypeId) (a0 a1 a2 a3 a4 a5 a6 a7 a8 a9 a10 a11 a12 a13 : Int) : callRes (mkh (fun _ => none) []) Tryd.f22 600 [.slc 1 0 14 14] [⟨.u8, t, [a0, a1, a2, a3, a4, a5, a6, a7, a8, a9, a10, a11, a12, a13], false⟩] = some ⟨blockA [a0, a1, a2, a3, a4, a5, a6, a7, a8, a9, a10, a11, a12, a13], [some ⟨.u8, t, [a0, a1, a2, a3, a4, a5, a6, a7, a8, a9, a10, a11, a12, a13], false⟩], none, []⟩ := by kernel_rfl

theorem blockRef_run15 (t : TypeId) (a0 a1 a2 a3 a4 a5 a6 a7 a8 a9 a10 a11 a12 a13 a14 : Int) : callRes (mkh (fun _ => none) []) Tryd.f22 600 [.slc 1 0 15 15] [⟨.u8, t, [a0, a1, a2, a3, a4, a5, a6, a7, a8, a9, a10, a11, a12, a13, a14], false⟩] = some ⟨blockA [a0, a1, a2, a3, a4, a5, a6, a7, a8, a9, a10, a11, a12, a13, a14], [some ⟨.u8, t, [a0, a1, a2, a3, a4, a5, a6, a7, a8, a9, a10, a11, a12, a13, a14], false⟩], none, []⟩ := by kernel_rfl

theorem blockRef_run16 (t : TypeId) (a0 a1 a2 a3 a4 a5 a6 a7 a8 a9 a10 a11 a12 a13 a14 a15 : Int) : callRes (mkh (fun _ => none) []) Tryd.f22 600 [.slc 1 0 16 16] [⟨.u8, t, [a0, a1, a2, a3, a4, a5, a6, a7, a8, a9, a10, a11, a12, a13, a14, a15], false⟩] = some ⟨blockA [a0, a1, a2, a3, a4, a5, a6, a7, a8, a9, a10, a11, a12, a13, a14, a15], [some ⟨.u8, t, [a0, a1, a2, a3, a4, a5, a6, a7, a8, a9, a10, a11, a12, a13, a14, a15], false⟩], none, []⟩ := by kernel_rfl

theorem list_le16 {x : List Int} (h1 : 1 ≤ x.length) (h2 : x.length ≤ 16) : (∃ a0, x = [a0]) ∨ (∃ a0 a1, x = [a0, a1]) ∨ (∃ a0 a1 a2, x = [a0, a1, a2]) ∨ (∃ a0 a1 a2 a3, x = [a0, a1, a2, a3]) ∨ (∃ a0 a1 a2 a3 a4, x = [a0, a1, a2, a3, a4]) ∨ (∃ a0 a1 a2 a3 a4 a5, x = [a0, a1, a2, a3, a4, a5]) ∨ (∃ a0 a1 a2 a3 a4 a5 a6, x = [a0, a1, a2, a3, a4, a5, a6]) ∨ (∃ a0 a1 a2 a3 a4 a5 a6 a7, x = [a0, a1, a2, a3, a4, a5, a6, a7]) ∨ (∃ a0 a1 a2 a3 a4 a5 a6 a7 a8, x = [a0, a1, a2, a3, a4, a5, a6, a7, a8]) ∨ (∃ a0 a1 a2 a3 a4 a5 a6 a7 a8 a9, x = [a0, a1, a2, a3, a4, a5, a6, a7, a8, a9]) ∨ (∃ a0 a1 a2 a3 a4 a5 a6 a7 a8 a9 a10, x = [a0, a1, a2, a3, a4, a5, a6, a7, a8, a9, a10]) ∨ (∃ a0 a1 a2 a3 a4 a5 a6 a7 a8 a9 a10 a11, x = [a0, a1, a2, a3, a4, a5, a6, a7, a8, a9, a10, a11]) ∨ (∃ a0 a1 a2 a3 a4 a5 a6 a7 a8 a9 a10 a11 a12, x = [a0, a1, a2, a3, a4, a5, a6, a7, a8, a9, a10, a11, a12]) ∨ (∃ a0 a1 a2 a3 a4 a5 a6 a7 a8 a9 a10 a11 a12 a13, x = [a0, a1, a2, a3, a4, a5, a6, a7, a8, a9, a10, a11, a12, a13]) ∨ (∃ a0 a1 a2 a3 a4 a5 a6 a7 a8 a9 a10 a11 a12 a13 a14, x = [a0, a1, a2, a3, a4, a5, a6, a7, a8, a9, a10, a11, a12, a13, a14]) ∨ (∃ a0 a1 a2 a3 a4 a5 a6 a7 a8 a9 a10 a11 a12 a13 a14 a15, x = [a0, a1, a2, a3, a4, a5, a6, a7, a8, a9, a10, a11, a12, a13, a14, a15]) := by
  match x, h1, h2 with
  | [a0], _, _ => exact Or.inl ⟨a0, rfl⟩
  | [a0, a1], _, _ => exact Or.inr (Or.inl ⟨a0, a1, rfl⟩)
  | [a0, a1, a2], _, _ => exact Or.inr (Or.inr (Or.inl ⟨a0, a1, a2, rfl⟩))
  | [a0, a1, a2, a3], _, _ => exact Or.inr (Or.inr (Or.inr (Or.inl ⟨a0, a1, a2, a3, rfl⟩)))
  | [a0, a1, a2, a3, a4], _, _ => exact Or.inr (Or.inr (Or.inr (Or.inr (Or.inl ⟨a0, a1, a2, a3, a4, rfl⟩))))
  | [a0, a1, a2, a3, a4, a5], _, _ => exact Or.inr (Or.inr (Or.inr (Or.inr (Or.inr (Or.inl ⟨a0, a1, a2, a3, a4, a5, rfl⟩)))))
  | [a0, a1, a2, a3, a4, a5, a6], _, _ => exact Or.inr (Or.inr (Or.inr (Or.inr (Or.inr (Or.inr (Or.inl ⟨a0, a1, a2, a3, a4, a5, a6, rfl⟩))))))
  | [a0, a1, a2, a3, a4, a5, a6, a7], _, _ => exact Or.inr (Or.inr (Or.inr (Or.inr (Or.inr (Or.inr (Or.inr (Or.inl ⟨a0, a1, a2, a3, a4, a5, a6, a7, rfl⟩)))))))
  | [a0, a1, a2, a3, a4, a5, a6, a7, a8], _, _ => exact Or.inr (Or.inr (Or.inr (Or.inr (Or.inr (Or.inr (Or.inr (Or.inr (Or.inl ⟨a0, a1, a2, a3, a4, a5, a6, a7, a8, rfl⟩))))))))
  | [a0, a1, a2, a3, a4, a5, a6, a7, a8, a9], _, _ => exact Or.inr (Or.inr (Or.inr (Or.inr (Or.inr (Or.inr (Or.inr (Or.inr (Or.inr (Or.inl ⟨a0, a1, a2, a3, a4, a5, a6, a7, a8, a9, rfl⟩)))))))))
  | [a0, a1, a2, a3, a4, a5, a6, a7, a8, a9, a10], _, _ => exact Or.inr (Or.inr (Or.inr (Or.inr (Or.inr (Or.inr (Or.inr (Or.inr (Or.inr (Or.inr (Or.inl ⟨a0, a1, a2, a3, a4, a5, a6, a7, a8, a9, a10, rfl⟩))))))))))
  | [a0, a1, a2, a3, a4, a5, a6, a7, a8, a9, a10, a11], _, _ => exact Or.inr (Or.inr (Or.inr (Or.inr (Or.inr (Or.inr (Or.inr (Or.inr (Or.inr (Or.inr (Or.inr (Or.inl ⟨a0, a1, a2, a3, a4, a5, a6, a7, a8, a9, a10, a11, rfl⟩)))))))))))
  | [a0, a1, a2, a3, a4, a5, a6, a7, a8, a9, a10, a11, a12], _, _ => exact Or.inr (Or.inr (Or.inr (Or.inr (Or.inr (Or.inr (Or.inr (Or.inr (Or.inr (Or.inr (Or.inr (Or.inr (Or.inl ⟨a0, a1, a2, a3, a4, a5, a6, a7, a8, a9, a10, a11, a12, rfl⟩))))))))))))
  | [a0, a1, a2, a3, a4, a5, a6, a7, a8, a9, a10, a11, a12, a13], _, _ => exact Or.inr (Or.inr (Or.inr (Or.inr (Or.inr (Or.inr (Or.inr (Or.inr (Or.inr (Or.inr (Or.inr (Or.inr (Or.inr (Or.inl ⟨a0, a1, a2, a3, a4, a5, a6, a7, a8, a9, a10, a11, a12, a13, rfl⟩)))))))))))))
  | [a0, a1, a2, a3, a4, a5, a6, a7, a8, a9, a10, a11, a12, a13, a14], _, _ => exact Or.inr (Or.inr (Or.inr (Or.inr (Or.inr (Or.inr (Or.inr (Or.inr (Or.inr (Or.inr (Or.inr (Or.inr (Or.inr (Or.inr (Or.inl ⟨a0, a1, a2, a3, a4, a5, a6, a7, a8, a9, a10, a11, a12, a13, a14, rfl⟩))))))))))))))
  | [a0, a1, a2, a3, a4, a5, a6, a7, a8, a9, a10, a11, a12, a13, a14, a15], _, _ => exact Or.inr (Or.inr (Or.inr (Or.inr (Or.inr (Or.inr (Or.inr (Or.inr (Or.inr (Or.inr (Or.inr (Or.inr (Or.inr (Or.inr (Or.inr (⟨a0, a1, a2, a3, a4, a5, a6, a7, a8, a9, a10, a11, a12, a13, a14, a15, rfl⟩)))))))))))))))
  | _ :: _ :: _ :: _ :: _ :: _ :: _ :: _ :: _ :: _ :: _ :: _ :: _ :: _ :: _ :: _ :: _ :: _, _, h2 => simp at h2

theorem block_runL (x : List Int) (n : Nat) (t : TypeId) : callRes (mkh (hintAt 7 true) []) Tryd.f21 300 [.slc 1 0 n n] [⟨.u8, t, x, false⟩] = some ⟨.pair (.agg .u8 (List.replicate 17 0)) (.int .i64 2), [some ⟨.u8, t, x, false⟩], none, [decide ((n : Int) > 16) = true]⟩ := by kernel_rfl

theorem block0_ok : FnOk Tryd.prog gl 21 (FS0 (fun _ => true) blockA) := by
  refine fs0_split (fun n => Nat.ble n 16) (fs0_run (C := mk []) (mk_ok (by simp)) rfl rfl Tryd.func21 (by kernel_rfl) rfl (by kernel_rfl) (fun _ => block_run0) (fun x t h1 hp _ => ⟨600, [], ?_, Holds.nil⟩))
    (fs0_run (C := mkh (hintAt 7 true) []) (mkh_ok (by simp)) rfl rfl Tryd.func21 (by kernel_rfl) rfl (by kernel_rfl) (fun hp => by cases hp) (fun x t h1 hp _ => ⟨300, [decide ((x.length : Int) > 16) = true], ?_, ?_⟩))
  · rcases list_le16 h1 (beq_le hp) with ⟨a0, rfl⟩ | ⟨a0, a1, rfl⟩ | ⟨a0, a1, a2, rfl⟩ | ⟨a0, a1, a2, a3, rfl⟩ | ⟨a0, a1, a2, a3, a4, rfl⟩ | ⟨a0, a1, a2, a3, a4, a5, rfl⟩ | ⟨a0, a1, a2, a3, a4, a5, a6, rfl⟩ | ⟨a0, a1, a2, a3, a4, a5, a6, a7, rfl⟩ | ⟨a0, a1, a2, a3, a4, a5, a6, a7, a8, rfl⟩ | ⟨a0, a1, a2, a3, a4, a5, a6, a7, a8, a9, rfl⟩ | ⟨a0, a1, a2, a3, a4, a5, a6, a7, a8, a9, a10, rfl⟩ | ⟨a0, a1, a2, a3, a4, a5, a6, a7, a8, a9, a10, a11, rfl⟩ | ⟨a0, a1, a2, a3, a4, a5, a6, a7, a8, a9, a10, a11, a12, rfl⟩ | ⟨a0, a1, a2, a3, a4, a5, a6, a7, a8, a9, a10, a11, a12, a13, rfl⟩ | ⟨a0, a1, a2, a3, a4, a5, a6, a7, a8, a9, a10, a11, a12, a13, a14, rfl⟩ | ⟨a0, a1, a2, a3, a4, a5, a6, a7, a8, a9, a10, a11, a12, a13, a14, a15, rfl⟩
    · exact block_run1 t a0
    · exact block_run2 t a0 a1
    · exact block_run3 t a0 a1 a2
    · exact block_run4 t a0 a1 a2 a3
    · exact block_run5 t a0 a1 a2 a3 a4
    · exact block_run6 t a0 a1 a2 a3 a4 a5
    · exact block_run7 t a0 a1 a2 a3 a4 a5 a6
    · exact block_run8 t a0 a1 a2 a3 a4 a5 a6 a7
    · exact block_run9 t a0 a1 a2 a3 a4 a5 a6 a7 a8
    · exact block_run10 t a0 a1 a2 a3 a4 a5 a6 a7 a8 a9
    · exact block_run11 t a0 a1 a2 a3 a4 a5 a6 a7 a8 a9 a10
    · exact block_run12 t a0 a1 a2 a3 a4 a5 a6 a7 a8 a9 a10 a11
    · exact block_run13 t a0 a1 a2 a3 a4 a5 a6 a7 a8 a9 a10 a11 a12
    · exact block_run14 t a0 a1 a2 a3 a4 a5 a6 a7 a8 a9 a10 a11 a12 a13
    · exact block_run15 t a0 a1 a2 a3 a4 a5 a6 a7 a8 a9 a10 a11 a12 a13 a14
    · exact block_run16 t a0 a1 a2 a3 a4 a5 a6 a7 a8 a9 a10 a11 a12 a13 a14 a15
  · rw [block_runL]
    have : Nat.ble x.length 16 = false := by simpa using hp
    simp only [blockA, this]
  · have hn : ¬ x.length ≤ 16 := fun h => by
      have := nble h
      simp [this] at hp
    exact Holds.one (decide_eq_true (by omega))

theorem block_ok : FnOk Tryd.prog gl 21 (FS blockA) := fs_ok (fun x => by unfold blockA; split <;> rfl) block0_ok

theorem blockRef_runL (x : List Int) (n : Nat) (t : TypeId) : callRes (mkh (hintAt 9 true) []) Tryd.f22 300 [.slc 1 0 n n] [⟨.u8, t, x, false⟩] = some ⟨.pair (.agg .u8 (List.replicate 17 0)) (.int .i64 2), [some ⟨.u8, t, x, false⟩], none, [decide ((n : Int) > 16) = true]⟩ := by kernel_rfl

theorem blockRef0_ok : FnOk Tryd.prog gl 22 (FS0 (fun _ => true) blockA) := by
  refine fs0_split (fun n => Nat.ble n 16) (fs0_run (C := mk []) (mk_ok (by simp)) rfl rfl Tryd.func22 (by kernel_rfl) rfl (by kernel_rfl) (fun _ => blockRef_run0) (fun x t h1 hp _ => ⟨600, [], ?_, Holds.nil⟩))
    (fs0_run (C := mkh (hintAt 9 true) []) (mkh_ok (by simp)) rfl rfl Tryd.func22 (by kernel_rfl) rfl (by kernel_rfl) (fun hp => by cases hp) (fun x t h1 hp _ => ⟨300, [decide ((x.length : Int) > 16) = true], ?_, ?_⟩))
  · rcases list_le16 h1 (beq_le hp) with ⟨a0, rfl⟩ | ⟨a0, a1, rfl⟩ | ⟨a0, a1, a2, rfl⟩ | ⟨a0, a1, a2, a3, rfl⟩ | ⟨a0, a1, a2, a3, a4, rfl⟩ | ⟨a0, a1, a2, a3, a4, a5, rfl⟩ | ⟨a0, a1, a2, a3, a4, a5, a6, rfl⟩ | ⟨a0, a1, a2, a3, a4, a5, a6, a7, rfl⟩ | ⟨a0, a1, a2, a3, a4, a5, a6, a7, a8, rfl⟩ | ⟨a0, a1, a2, a3, a4, a5, a6, a7, a8, a9, rfl⟩ | ⟨a0, a1, a2, a3, a4, a5, a6, a7, a8, a9, a10, rfl⟩ | ⟨a0, a1, a2, a3, a4, a5, a6, a7, a8, a9, a10, a11, rfl⟩ | ⟨a0, a1, a2, a3, a4, a5, a6, a7, a8, a9, a10, a11, a12, rfl⟩ | ⟨a0, a1, a2, a3, a4, a5, a6, a7, a8, a9, a10, a11, a12, a13, rfl⟩ | ⟨a0, a1, a2, a3, a4, a5, a6, a7, a8, a9, a10, a11, a12, a13, a14, rfl⟩ | ⟨a0, a1, a2, a3, a4, a5, a6, a7, a8, a9, a10, a11, a12, a13, a14, a15, rfl⟩
    · exact blockRef_run1 t a0
    · exact blockRef_run2 t a0 a1
    · exact blockRef_run3 t a0 a1 a2
    · exact blockRef_run4 t a0 a1 a2 a3
    · exact blockRef_run5 t a0 a1 a2 a3 a4
    · exact blockRef_run6 t a0 a1 a2 a3 a4 a5
    · exact blockRef_run7 t a0 a1 a2 a3 a4 a5 a6
    · exact blockRef_run8 t a0 a1 a2 a3 a4 a5 a6 a7
    · exact blockRef_run9 t a0 a1 a2 a3 a4 a5 a6 a7 a8
    · exact blockRef_run10 t a0 a1 a2 a3 a4 a5 a6 a7 a8 a9
    · exact blockRef_run11 t a0 a1 a2 a3 a4 a5 a6 a7 a8 a9 a10
    · exact blockRef_run12 t a0 a1 a2 a3 a4 a5 a6 a7 a8 a9 a10 a11
    · exact blockRef_run13 t a0 a1 a2 a3 a4 a5 a6 a7 a8 a9 a10 a11 a12
    · exact blockRef_run14 t a0 a1 a2 a3 a4 a5 a6 a7 a8 a9 a10 a11 a12 a13
    · exact blockRef_run15 t a0 a1 a2 a3 a4 a5 a6 a7 a8 a9 a10 a11 a12 a13 a14
    · exact blockRef_run16 t a0 a1 a2 a3 a4 a5 a6 a7 a8 a9 a10 a11 a12 a13 a14 a15
  · rw [blockRef_runL]
    have : Nat.ble x.length 16 = false := by simpa using hp
    simp only [blockA, this]
  · have hn : ¬ x.length ≤ 16 := fun h => by
      have := nble h
      simp [this] at hp
    exact Holds.one (decide_eq_true (by omega))

theorem blockRef_ok : FnOk Tryd.prog gl 22 (FS blockA) := fs_ok (fun x => by unfold blockA; split <;> rfl) blockRef0_ok

end Go.Proofs.YtbdmahidobjaoaaDoor.Sx
