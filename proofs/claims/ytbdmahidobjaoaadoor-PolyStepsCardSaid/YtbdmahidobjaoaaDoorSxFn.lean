/-
  Functions: from the shadow's run of a body to the function's contract ('fnOk_of_tri', 'fnOk_of_run').
-/
import Derived.Test.YtbdmahidobjaoaaDoorSxExec
namespace Go.Proofs.YtbdmahidobjaoaaDoor.Sx
open Go

/-- What code does from a state on, whatever block numbers the world gives. 'lim': the blocks below it came in. -/
def Tri (C : Ctx) (lim : Nat) (c : Code) (s : St) (Post : Ex → St → Prop) : Prop :=
  ∀ (W : World) (fx : List Fx), (∀ p ∈ fx, p.id < lim) → ∀ (a : Act) (w : World), RelS C.gl W fx s a w →
    c.wp C.P (fun e a' w' => ∃ ex s', e = exOf ex ∧ Post ex s' ∧ RelS C.gl W fx s' a' w') a w

section
variable {C : Ctx} {lim : Nat} {s : St} {Post : Ex → St → Prop}

theorem tri_exec (hC : C.Ok) {c : Code} (f : Nat) {ex : Ex} {s' : St} (h : exec C f c s = some (ex, s')) (hob : Holds s'.ob) (hP : Post ex s') : Tri C lim c s Post :=
  fun _ _ _ a w hR => exec_wp hC f c s s' ex _ a w h hob hR (fun _ _ hR' => ⟨ex, s', rfl, hP, hR'⟩)

theorem Tri.mono {c : Code} {Post' : Ex → St → Prop} (h : Tri C lim c s Post) (hq : ∀ ex s', Post ex s' → Post' ex s') : Tri C lim c s Post' :=
  fun W fx hfx a w hR => Code.wp_mono (fun _ _ _ ⟨ex, s', e, p, r⟩ => ⟨ex, s', e, hq _ _ p, r⟩) (h W fx hfx a w hR)

theorem tri_seq {x y : Code} {Mid : Ex → St → Prop} (hx : Tri C lim x s Mid) (hy : ∀ s1, Mid .normal s1 → Tri C lim y s1 Post) (ho : ∀ ex s1, ex ≠ .normal → Mid ex s1 → Post ex s1) : Tri C lim (.seq x y) s Post :=
  fun W fx hfx a w hR => wp_seq (Code.wp_mono (fun e a' w' ⟨ex, s1, he, p, r⟩ => by
    subst he
    cases ex with
    | normal => exact hy s1 p W fx hfx a' w' r
    | exit id => exact ⟨.exit id, s1, rfl, ho _ _ (by simp) p, r⟩
    | ret => exact ⟨.ret, s1, rfl, ho _ _ (by simp) p, r⟩) (hx W fx hfx a w hR))

theorem tri_block {id : Nat} {c : Code} (h : Tri C lim c s (fun ex s' => match ex with
    | .exit j => if j = id then Post .normal s' else Post (.exit j) s'
    | ex => Post ex s')) : Tri C lim (.block id c) s Post :=
  fun W fx hfx a w hR => wp_block (Code.wp_mono (fun e a' w' ⟨ex, s1, he, p, r⟩ => by
    subst he
    cases ex with
    | normal => exact ⟨.normal, s1, rfl, p, r⟩
    | ret => exact ⟨.ret, s1, rfl, p, r⟩
    | exit j =>
      simp only [exOf, Exit.inBlock]
      by_cases hj : j = id
      · rw [if_pos hj]
        simp only [hj, if_true] at p
        exact ⟨.normal, s1, rfl, p, r⟩
      · rw [if_neg hj]
        simp only [hj, if_false] at p
        exact ⟨.exit j, s1, rfl, p, r⟩) (h W fx hfx a w hR))

theorem tri_cond {c : Operand} {x y : Code} {b : Bool} (hc : ev C.gl.length (tmOf s) c = .bool b) (ht : b = true → Tri C lim x s Post) (hf : b = false → Tri C lim y s Post) : Tri C lim (.cond c x y) s Post :=
  fun W fx hfx a w hR => by
    obtain ⟨loc, hL⟩ := hR
    have hv := hL.ev c
    rw [hc] at hv
    exact wp_cond_split hv (fun e => ht e W fx hfx a w ⟨loc, hL⟩) (fun e => hf e W fx hfx a w ⟨loc, hL⟩)

theorem tri_loop {b : Code} (I : St → Prop) (μ : St → Nat) (h0 : I s) (hr : ∀ s, I s → Tri C lim b s (fun ex s' => match ex with
    | .normal => I s' ∧ μ s' < μ s
    | ex => Post ex s')) : Tri C lim (.loop b) s Post :=
  fun W fx hfx a w hR => by
    have key : ∀ (n : Nat) (s : St) (a : Act) (w : World), I s → μ s < n → RelS C.gl W fx s a w →
        Code.rounds C.P b (fun e a' w' => ∃ ex s', e = exOf ex ∧ Post ex s' ∧ RelS C.gl W fx s' a' w') n a w := by
      intro n
      induction n with
      | zero => intro s a w _ h _; omega
      | succ n ih =>
        intro s a w hI hn hR
        rw [rounds_succ]
        refine Code.wp_mono (fun e a' w' ⟨ex, s1, he, p, r⟩ => ?_) (hr s hI W fx hfx a w hR)
        subst he
        cases ex with
        | normal => exact ih s1 a' w' p.1 (by have := p.2; omega) r
        | exit id => exact ⟨.exit id, s1, rfl, p, r⟩
        | ret => exact ⟨.ret, s1, rfl, p, r⟩
    exact wp_loop_rounds (μ s + 1) (key (μ s + 1) s a w h0 (by omega) hR)

/-- What is known may be forgotten. -/
theorem relS_weaken {s1 : St} {W w : World} {fx : List Fx} {a : Act} (hfx : ∀ p ∈ fx, p.id < lim) (hn : s1.tm.length = s.tm.length) (ht : ∀ t, tmOf s1 t = .any ∨ (tmOf s1 t = tmOf s t ∧ ∀ i ∈ ids (tmOf s t), (look s.h i).isSome = true → (look s1.h i).isSome = true))
    (hh : ∀ i b, look s1.h i = some b → look s.h i = some b) (hl : ∀ i, i < lim → look s1.h i = look s.h i) (hg : C.gl.length ≤ lim) (hR : RelS C.gl W fx s a w) : RelS C.gl W fx s1 a w := by
  obtain ⟨loc, hL⟩ := hR
  refine ⟨loc, ⟨fun p hp => ⟨(hL.fix p hp).1, by rw [hl _ (hfx p hp)]; exact (hL.fix p hp).2⟩, fun g hg' => ⟨(hL.glob g hg').1, by rw [hl _ (by omega)]; exact (hL.glob g hg').2⟩, by rw [hL.size, hn],
    fun t htl => ?_, fun t htl => ?_, hL.defers, fun i b hb => ?_, fun i b hb => hL.new i b (hh i b hb), fun i b hb => hL.rwfix i b (hh i b hb), hL.fr⟩⟩
  · rcases ht t with e | ⟨e, hi⟩
    · rw [e]; trivial
    · rw [e]
      have hv := hL.tmps t (by omega)
      have key : ∀ (x : A) (v : Value), (∀ i ∈ ids x, (look s.h i).isSome = true → (look s1.h i).isSome = true) → VR loc (look s.h) x v → VR loc (look s1.h) x v := by
        intro x
        induction x with
        | ptr i o => intro v hi hv; exact ⟨hv.1, hi i (by simp [ids]) hv.2⟩
        | slc i o l c => intro v hi hv; obtain ⟨h0, ad, cc, h1, h2, h3⟩ := hv; exact ⟨h0, ad, cc, h1, h2, fun hc => ⟨(h3 hc).1, hi i (by simp [ids]) (h3 hc).2⟩⟩
        | pair x y ihx ihy =>
          intro v hi hv
          obtain ⟨u1, u2, e, v1, v2⟩ := hv
          exact ⟨u1, u2, e, ihx u1 (fun i h => hi i (by simp [ids, h])) v1, ihy u2 (fun i h => hi i (by simp [ids, h])) v2⟩
        | any => intro v _ hv; trivial
        | undef => intro v _ hv; exact hv
        | bool b => intro v _ hv; exact hv
        | int k n => intro v _ hv; exact hv
        | bit b => intro v _ hv; exact hv
        | str q => intro v _ hv; exact hv
        | emp => intro v _ hv; exact hv
        | app i o l => intro v hi hv; obtain ⟨c, h1, h2, h3, h4, h5, h6⟩ := hv; exact ⟨c, h1, h2, h3, h4, h5, hi i (by simp [ids]) h6⟩
        | agg k l => intro v _ hv; exact hv
      exact key _ _ hi hv
  · rcases ht t with e | ⟨e, _⟩
    · exact e
    · rw [e]; exact hL.far t (by omega)
  · obtain ⟨a1, a2, a3, a4⟩ := hL.heap i b (hh i b hb)
    refine ⟨a1, a2, a3, fun hrw => ?_⟩
    obtain ⟨o1, o2, o4⟩ := a4 hrw
    exact ⟨o1, o2, fun i' b' hne hb' => o4 i' b' hne (hh i' b' hb')⟩

theorem tri_forget {c : Code} (s1 : St) (hn : s1.tm.length = s.tm.length) (ht : ∀ t, tmOf s1 t = .any ∨ (tmOf s1 t = tmOf s t ∧ ∀ i ∈ ids (tmOf s t), (look s.h i).isSome = true → (look s1.h i).isSome = true))
    (hh : ∀ i b, look s1.h i = some b → look s.h i = some b) (hl : ∀ i, i < lim → look s1.h i = look s.h i) (hg : C.gl.length ≤ lim) (h : Tri C lim c s1 Post) : Tri C lim c s Post :=
  fun W fx hfx a w hR => h W fx hfx a w (relS_weaken hfx hn ht hh hl hg hR)

end

/-! ### Functions -/

/-- What a function hands back. -/
def resA (C : Ctx) (s : St) : List ResultVar → Option A
  | [.tmp t] => some (tmOf s t)
  | [.cell p ty] => loadA C (look s.h) ty (tmOf s p)
  | [.cell p ty, .tmp t] => match loadA C (look s.h) ty (tmOf s p) with
    | some v => some (.pair v (tmOf s t))
    | none => none
  | [.tmp t, .tmp u] => some (.pair (tmOf s t) (tmOf s u))
  | [.cell p ty, .cell q tq] => match loadA C (look s.h) ty (tmOf s p), loadA C (look s.h) tq (tmOf s q) with
    | some v, some w => some (.pair v w)
    | _, _ => none
  | _ => none

def glHp (gl : List Blk) (i : Nat) : Hp := gl.zipIdx.map fun p => (i + p.2, p.1)

/-- The state in which a body begins. -/
def s0 (C : Ctx) (ntmps : Nat) (args : List A) (mem : List Blk) : St :=
  ⟨args ++ List.replicate (ntmps - args.length) .undef, (C.gl ++ mem).zipIdx.map (fun p => (p.2, p.1)), []⟩

/-- Of a result its one block that is new: by its number here. -/
def newId (lim : Nat) : List Nat → Option Nat
  | [] => none
  | i :: r => match Nat.ble lim i with
    | true => some i
    | false => newId lim r

def shutRen (lim : Nat) (m : Option Nat) (i : Nat) : Option Nat :=
  match Nat.ble (i + 1) lim with
  | true => some i
  | false => match m with
    | some m => match Nat.beq i m with
      | true => some lim
      | false => none
    | none => none

/-- The canonical answer of a function that ended in state s with value v: 'r' has that value, that new block, those changes. -/
structure Ends (C : Ctx) (mem : List Blk) (s : St) (v : A) (r : Res) : Prop where
  val : renA (shutRen (C.gl.length + mem.length) (newId (C.gl.length + mem.length) (ids v))) v = some r.val
  new : r.new = (newId (C.gl.length + mem.length) (ids v)).bind (look s.h)
  mem : ∀ j, j < mem.length → look s.h (C.gl.length + j) = orElse mem[j]? r.mem[j]?

theorem look_zipIdx : ∀ (l : List Blk) (k i : Nat), look ((l.zipIdx k).map fun p => (p.2, p.1)) i = if k ≤ i then l[i - k]? else none
  | [], k, i => by simp [look]
  | b :: l, k, i => by
    simp only [List.zipIdx_cons, List.map_cons]
    unfold look
    split
    · rename_i hb
      have := Nat.eq_of_beq_eq_true hb
      subst this
      simp
    · rename_i hb
      have hne : i ≠ k := fun e => by rw [e, Nat.beq_refl] at hb; cases hb
      rw [look_zipIdx l (k + 1) i]
      by_cases h : k ≤ i
      · rw [if_pos h, if_pos (by omega), show i - k = (i - (k + 1)) + 1 by omega]
        rfl
      · rw [if_neg h, if_neg (by omega)]

theorem look_s0 (C : Ctx) (n : Nat) (args : List A) (mem : List Blk) : look (s0 C n args mem).h = inLk C.gl mem := by
  funext i
  unfold s0 inLk
  simp only
  rw [look_zipIdx, if_pos (Nat.zero_le _), Nat.sub_zero]
  by_cases h : i < C.gl.length
  · rw [if_pos h, List.getElem?_append_left h]
  · rw [if_neg h, List.getElem?_append_right (by omega)]

section
variable {C : Ctx}

theorem VRs_length {loc : Loc} {lk : Lk} : ∀ (args : List A) (vals : List Value), VRs loc lk args vals → args.length = vals.length
  | _, _, .nil => rfl
  | _, _, .cons _ h => by simp [VRs_length _ _ h]

theorem VRs_get {loc : Loc} {lk : Lk} : ∀ (args : List A) (vals : List Value), VRs loc lk args vals → ∀ (j : Nat) (x : A), args[j]? = some x → ∃ v, vals[j]? = some v ∧ VR loc lk x v
  | _, _, .nil, j, x, h => by simp at h
  | _, _, .cons hv h, 0, x, hx => by
    simp only [List.getElem?_cons_zero, Option.some.injEq] at hx
    subst hx
    exact ⟨_, rfl, hv⟩
  | _, _, .cons hv h, j + 1, x, hx => by
    obtain ⟨v, h1, h2⟩ := VRs_get _ _ h j x (by simpa using hx)
    exact ⟨v, by simpa using h1, h2⟩

theorem rel_s0 {n : Nat} {args : List A} {mem : List Blk} {loc : Loc} {W : World} {vals : List Value} (hargs : args.length ≤ n) (hV : VRs loc (inLk C.gl mem) args vals) (hH : HRel loc (inLk C.gl mem) W) (hg : ∀ g, g < C.gl.length → loc g = ⟨g, 0, 0, false⟩) (hfl : ∀ i, i < C.gl.length + mem.length → (loc i).4 = false) (hro : ∀ (g : Nat) (b : Blk), C.gl[g]? = some b → b.rw = false) :
    RelS C.gl W (fxIn C.gl loc mem) (s0 C n args mem) { tmps := vals.toArray ++ Array.replicate (n - vals.toArray.size) Go.undef, defers := [] } W := by
  have hlen := VRs_length _ _ hV
  refine ⟨loc, ?_⟩
  rw [look_s0]
  have htl : (s0 C n args mem).tm.length = n := by simp [s0]; omega
  have hfxi : ∀ p ∈ fxIn C.gl loc mem, ∃ (b : Blk) (m : Nat), mem[m]? = some b ∧ p = ⟨C.gl.length + m, (loc (C.gl.length + m)).1, (loc (C.gl.length + m)).2, b.rw, (loc (C.gl.length + m)).3⟩ := by
    intro p hp
    obtain ⟨⟨b, m⟩, hbm, rfl⟩ := List.mem_map.1 hp
    exact ⟨b, m, List.mem_zipIdx_iff_getElem?.1 hbm, rfl⟩
  refine ⟨fun p hp => ?_, fun g hgl => ⟨hg g hgl, by simp [inLk, hgl]⟩, ?_, fun t ht => ?_, fun t ht => ?_, rfl, hH, fun i b hb hfx hge => ?_, fun i b hb hrw => ?_, ⟨rfl, rfl, rfl, Nat.le_refl _, fun _ _ _ => rfl⟩⟩
  · obtain ⟨b, m, hm, rfl⟩ := hfxi p hp
    have hml : m < mem.length := (List.getElem?_eq_some_iff.1 hm).1
    refine ⟨by
      have := hfl (C.gl.length + m) (by omega)
      show loc (C.gl.length + m) = _
      rw [← this], ?_⟩
    simp only [inLk]
    rw [if_neg (by omega), Nat.add_sub_cancel_left, hm]
    rfl
  · rw [htl]; simp; omega
  · rw [htl] at ht
    by_cases h : t < args.length
    · have e1 : tmOf (s0 C n args mem) t = args[t] := by
        simp [tmOf, s0, List.getD, List.getElem?_append_left h, h]
      obtain ⟨v, hv, hr⟩ := VRs_get _ _ hV t args[t] (List.getElem?_eq_getElem h)
      have e2 : ((vals.toArray ++ Array.replicate (n - vals.toArray.size) Go.undef).getD t Go.undef) = v := by
        have : t < vals.length := by omega
        have hv' : vals[t] = v := by rw [List.getElem?_eq_getElem this] at hv; exact Option.some.inj hv
        simp [Array.getD, this, hv']
        omega
      rw [e1]
      show VR loc (inLk C.gl mem) args[t] ((vals.toArray ++ Array.replicate (n - vals.toArray.size) Go.undef).getD t Go.undef)
      rw [e2]
      exact hr
    · have e1 : tmOf (s0 C n args mem) t = .undef := by
        have : t - args.length < n - args.length := by omega
        simp [tmOf, s0, List.getD, List.getElem?_append_right (Nat.le_of_not_lt h), this]
      have e2 : ((vals.toArray ++ Array.replicate (n - vals.toArray.size) Go.undef).getD t Go.undef) = Go.undef := by
        simp only [Array.getD]
        split
        · rename_i hlt
          have hnv : ¬ t < vals.length := by omega
          simp [Array.getElem_append, hnv]
        · rfl
      rw [e1]
      show ((vals.toArray ++ Array.replicate (n - vals.toArray.size) Go.undef).getD t Go.undef) = Go.undef
      exact e2
  · rw [htl] at ht
    have : (s0 C n args mem).tm.length ≤ t := by omega
    simp [tmOf, List.getD, List.getElem?_eq_none this]
  · exfalso
    simp only [inLk] at hb
    rw [if_neg (by omega)] at hb
    refine hfx ⟨C.gl.length + (i - C.gl.length), _, _, b.rw, _⟩ (List.mem_map.2 ⟨(b, i - C.gl.length), List.mem_zipIdx_iff_getElem?.2 hb, rfl⟩) ?_
    show C.gl.length + (i - C.gl.length) = i
    omega
  · simp only [inLk] at hb
    split at hb
    · have := hro i b hb
      rw [hrw] at this; cases this
    · rename_i hlt
      refine ⟨by omega, fun p hp e => ?_⟩
      obtain ⟨b', m, hm, rfl⟩ := hfxi p hp
      have e' : C.gl.length + m = i := e
      have : i - C.gl.length = m := by omega
      rw [this, hm] at hb
      simp only [Option.some.injEq] at hb
      show b'.rw = true
      rw [hb]; exact hrw

theorem results_ok {fn : Func} {s : St} {v : A} {n : Nat} {W w : World} {fx : List Fx} {loc : Loc} {a : Act} (hL : RelL C.gl W fx loc n (tmOf s) (look s.h) a w) (h : resA C s fn.results.toList = some v) :
    ∃ u, (results fn a.tmps).run C.P w = .ok u w ∧ VR loc (look s.h) v u := by
  have load : ∀ (p : Tmp) (ty : TypeId) (v : A), loadA C (look s.h) ty (tmOf s p) = some v → ∃ ad u, a.tmps.getD p Go.undef = .pointer (some ad) ∧ (loadVar ty ad).run C.P w = .ok u w ∧ VR loc (look s.h) v u := by
    intro p ty v hv
    exact loadVar_ok hL (hL.getVR p) hv
  have hres : fn.results = fn.results.toList.toArray := by simp
  unfold resA at h
  split at h
  · rename_i t hl
    simp only [Option.some.injEq] at h
    subst h
    refine ⟨a.tmps.getD t Go.undef, ?_, hL.getVR t⟩
    rw [hl] at hres
    simp [results, hres]
  · rename_i p ty hl
    obtain ⟨ad, u, ex, hr, hu⟩ := load p ty v h
    refine ⟨u, ?_, hu⟩
    rw [hl] at hres
    simp only [Array.getD_eq_getD_getElem?] at ex
    simp [results, hres, ex, asAddr, hr]
  · rename_i p ty t hl
    split at h
    · rename_i x hx
      simp only [Option.some.injEq] at h
      subst h
      obtain ⟨ad, u, ex, hr, hu⟩ := load p ty x hx
      refine ⟨.tuple #[u, a.tmps.getD t Go.undef], ?_, _, _, rfl, hu, hL.getVR t⟩
      rw [hl] at hres
      simp only [Array.getD_eq_getD_getElem?] at ex
      simp [results, hres, ex, asAddr, hr]
    · cases h
  · rename_i t t' hl
    simp only [Option.some.injEq] at h
    subst h
    refine ⟨.tuple #[a.tmps.getD t Go.undef, a.tmps.getD t' Go.undef], ?_, _, _, rfl, hL.getVR t, hL.getVR t'⟩
    rw [hl] at hres
    simp [results, hres]
  · rename_i p ty q tq hl
    split at h
    · rename_i x y hx hy
      simp only [Option.some.injEq] at h
      subst h
      obtain ⟨ad, u, ex, hr, hu⟩ := load p ty x hx
      obtain ⟨ad', u', ex', hr', hu'⟩ := load q tq y hy
      refine ⟨.tuple #[u, u'], ?_, _, _, rfl, hu, hu'⟩
      rw [hl] at hres
      simp only [Array.getD_eq_getD_getElem?] at ex ex'
      simp [results, hres, ex, ex', asAddr, hr, hr']
    · cases h
  · cases h

theorem newId_spec (lim : Nat) : ∀ l : List Nat, ∀ m, newId lim l = some m → lim ≤ m ∧ m ∈ l
  | [], m, h => by cases h
  | i :: r, m, h => by
    unfold newId at h
    split at h
    · rename_i hb
      simp only [Option.some.injEq] at h
      subst h
      exact ⟨beq_le hb, by simp⟩
    · obtain ⟨h1, h2⟩ := newId_spec lim r m h
      exact ⟨h1, by simp [h2]⟩

/-- The numbers of a value fit their kinds. -/
def wfA : A → Prop
  | .int k n => wf k n
  | .agg k l => ∀ x ∈ l, wf k x
  | .pair x y => wfA x ∧ wfA y
  | _ => True

theorem wfA_of {loc : Loc} {lk : Lk} : ∀ (x : A) (v : Value), VR loc lk x v → wfA x
  | .int _ _, _, h => h.2
  | .agg _ _, _, h => h.2
  | .pair x y, _, ⟨_, _, _, h1, h2⟩ => ⟨wfA_of x _ h1, wfA_of y _ h2⟩
  | .any, _, _ => trivial
  | .undef, _, _ => trivial
  | .bool _, _, _ => trivial
  | .bit _, _, _ => trivial
  | .str _, _, _ => trivial
  | .ptr _ _, _, _ => trivial
  | .slc _ _ _ _, _, _ => trivial
  | .emp, _, _ => trivial
  | .app _ _ _, _, _ => trivial

theorem wfAs_of {loc : Loc} {lk : Lk} : ∀ (args : List A) (vals : List Value), VRs loc lk args vals → ∀ x ∈ args, wfA x
  | _, _, .nil, x, h => by cases h
  | _, _, .cons hv h, x, hx => by
    rcases List.mem_cons.1 hx with rfl | hx
    · exact wfA_of _ _ hv
    · exact wfAs_of _ _ h x hx

/-- From what a body does to the function's contract. -/
theorem fnOk_of_tri {f : FuncId} {fn : Func} {c : Code} {F : List A → List Blk → Option Res} (hf : C.P.funcs[f]? = some fn) (hname : (fn.name == "runtime.NumGoroutine") = false) (hb : fn.body = some c)
    (h : ∀ args mem r, F args mem = some r → Holds r.ob → args.length ≤ fn.ntmps ∧ (∀ (j : Nat) (b : Blk), r.mem[j]? = some (some b) → ∃ b0, mem[j]? = some b0 ∧ b.rw = b0.rw) ∧ (∀ b : Blk, r.new = some b → b.rw = true) ∧
      ((∀ x ∈ args, wfA x) → (∀ b ∈ mem, ∀ y ∈ b.l, wf b.k y) → Tri C (C.gl.length + mem.length) c (s0 C fn.ntmps args mem) (fun ex s' => (ex = .normal ∨ ex = .ret) ∧ ∃ v, resA C s' fn.results.toList = some v ∧ Ends C mem s' v r))) : FnOk C.P C.gl f F := by
  refine ⟨⟨fn, hf, hname, by rw [hb]; rfl⟩, fun args mem r hr hob => ?_⟩
  obtain ⟨hlen, h1, h2, h3⟩ := h args mem r hr hob
  refine ⟨h1, h2, fun loc W vals hV hH hg hfl hro => ?_⟩
  have hfxlt : ∀ p ∈ fxIn C.gl loc mem, p.id < C.gl.length + mem.length := by
    intro p hp
    obtain ⟨⟨b, m⟩, hbm, rfl⟩ := List.mem_map.1 hp
    have := (List.getElem?_eq_some_iff.1 (List.mem_zipIdx_iff_getElem?.1 hbm)).1
    show C.gl.length + m < _
    omega
  have hwm : ∀ b ∈ mem, ∀ y ∈ b.l, wf b.k y := fun b hb' => by
    obtain ⟨m, hm⟩ := List.getElem?_of_mem hb'
    exact (hH (C.gl.length + m) b (by unfold inLk; rw [if_neg (by omega), Nat.add_sub_cancel_left]; exact hm)).wfs
  refine calls_of_wp hf hb (Code.wp_mono (fun e a' w' ⟨ex, s', he, ⟨hex, v, hv, hE⟩, hR⟩ => ?_) (h3 (wfAs_of _ _ hV) hwm W (fxIn C.gl loc mem) hfxlt _ W (rel_s0 hlen hV hH hg hfl hro)))
  obtain ⟨loc1, hL⟩ := hR
  obtain ⟨u, hu, hvu⟩ := results_ok hL hv
  have hfin : a'.defers = [] ∧ ∃ v, (results fn a'.tmps).run C.P w' = .ok v w' ∧ ∃ v_1 loc', Ending.returned v = .returned v_1 ∧ VR loc' (outLk C.gl mem r) r.val v_1 ∧ HRel loc' (outLk C.gl mem r) w' ∧
        (∀ i, i < C.gl.length + mem.length → loc' i = loc i) ∧ (∀ b, r.new = some b → W.heap.size ≤ (loc' (C.gl.length + mem.length)).1) ∧ Fr W (fxIn C.gl loc mem) w' := by
    refine ⟨hL.defers, u, hu, u, fun i => if i = C.gl.length + mem.length then (match newId (C.gl.length + mem.length) (ids v) with | some m => loc1 m | none => ⟨0, 0, 0, false⟩) else loc1 i, rfl, ?_, ?_, ?_, ?_, hL.fr⟩
    · refine VR.ren (fun i j hij hpr => ?_) _ _ _ hE.val hvu
      unfold shutRen at hij
      split at hij
      · rename_i hb1
        have hlt : i < C.gl.length + mem.length := beq_le hb1
        simp only [Option.some.injEq] at hij
        subst hij
        refine ⟨by rw [if_neg (by omega)]; exact ⟨rfl, rfl⟩, ?_⟩
        unfold outLk
        by_cases hi : i < C.gl.length
        · rw [if_pos hi]; simp [hi]
        · rw [if_neg hi, if_pos (by omega)]
          have := hE.mem (i - C.gl.length) (by omega)
          rw [show C.gl.length + (i - C.gl.length) = i by omega] at this
          rw [← this]; exact hpr
      · rename_i hb1
        split at hij
        · rename_i m hm
          split at hij
          · rename_i hb2
            have e := Nat.eq_of_beq_eq_true hb2
            subst e
            simp only [Option.some.injEq] at hij
            subst hij
            refine ⟨by simp, ?_⟩
            unfold outLk
            rw [if_neg (by omega), Nat.add_sub_cancel_left, if_neg (by omega), if_pos rfl, hE.new, hm]
            exact hpr
          · cases hij
        · cases hij
    · have hsrc : ∀ i b, outLk C.gl mem r i = some b → (i < C.gl.length + mem.length ∧ look s'.h i = some b) ∨ (i = C.gl.length + mem.length ∧ ∃ m, newId (C.gl.length + mem.length) (ids v) = some m ∧ look s'.h m = some b ∧ C.gl.length + mem.length ≤ m) := by
        intro i b hb'
        unfold outLk at hb'
        split at hb'
        · rename_i hi
          left
          refine ⟨by omega, ?_⟩
          rw [(hL.glob i hi).2]; exact hb'
        · rename_i hi
          split at hb'
          · rename_i hi2
            left
            refine ⟨by omega, ?_⟩
            have := hE.mem (i - C.gl.length) hi2
            rw [show C.gl.length + (i - C.gl.length) = i by omega] at this
            rw [this]; exact hb'
          · split at hb'
            · rename_i hi3
              right
              refine ⟨hi3, ?_⟩
              rw [hE.new] at hb'
              cases hm : newId (C.gl.length + mem.length) (ids v) with
              | none => rw [hm] at hb'; cases hb'
              | some m =>
                rw [hm] at hb'
                exact ⟨m, rfl, hb', (newId_spec _ _ m hm).1⟩
            · cases hb'
      intro i b hb'
      rcases hsrc i b hb' with ⟨hi, hl⟩ | ⟨hi, m, hm, hl, hge⟩
      · obtain ⟨a1, a2, a3, a4⟩ := hL.heap i b hl
        have hne : i ≠ C.gl.length + mem.length := by omega
        refine ⟨a1, by rw [if_neg hne]; exact a2, fun q y hy => by rw [if_neg hne]; exact a3 q y hy, fun hrw => ?_⟩
        obtain ⟨o1, o2, o4⟩ := a4 hrw
        rw [if_neg hne]
        refine ⟨o1, o2, fun i' b' hne' hb'' hlv => ?_⟩
        rcases hsrc i' b' hb'' with ⟨hi', hl'⟩ | ⟨hi', m', hm', hl', hge'⟩
        · rw [if_neg (by omega)]; exact o4 i' b' hne' hl' hlv
        · rw [if_pos hi', hm']; exact o4 m' b' (by omega) hl' hlv
      · obtain ⟨a1, a2, a3, a4⟩ := hL.heap m b hl
        refine ⟨a1, by rw [if_pos hi, hm]; exact a2, fun q y hy => by rw [if_pos hi, hm]; exact a3 q y hy, fun hrw => ?_⟩
        obtain ⟨o1, o2, o4⟩ := a4 hrw
        rw [if_pos hi, hm]
        refine ⟨o1, o2, fun i' b' hne' hb'' hlv => ?_⟩
        rcases hsrc i' b' hb'' with ⟨hi', hl'⟩ | ⟨hi', m', hm', hl', hge'⟩
        · rw [if_neg (by omega)]; exact o4 i' b' (by omega) hl' hlv
        · exact absurd (hi'.trans hi.symm) hne'
    · intro i hi
      show (if _ then _ else _) = _
      rw [if_neg (by omega)]
      by_cases hgi : i < C.gl.length
      · rw [(hL.glob i hgi).1, hg i hgi]
      · have hm : i - C.gl.length < mem.length := by omega
        have hp : (⟨C.gl.length + (i - C.gl.length), (loc (C.gl.length + (i - C.gl.length))).1, (loc (C.gl.length + (i - C.gl.length))).2, mem[i - C.gl.length].rw, (loc (C.gl.length + (i - C.gl.length))).3⟩ : Fx) ∈ fxIn C.gl loc mem :=
          List.mem_map.2 ⟨(mem[i - C.gl.length], i - C.gl.length), List.mem_zipIdx_iff_getElem?.2 (List.getElem?_eq_getElem hm), rfl⟩
        have := (hL.fix _ hp).1
        simp only [show C.gl.length + (i - C.gl.length) = i by omega] at this
        have hf := hfl i hi
        rw [this, ← hf]
    · intro b hb'
      rw [hE.new] at hb'
      show W.heap.size ≤ (if _ then _ else _ : Spot).1
      rw [if_pos rfl]
      cases hm : newId (C.gl.length + mem.length) (ids v) with
      | none => rw [hm] at hb'; cases hb'
      | some m =>
        rw [hm] at hb'
        have hge := (newId_spec _ _ m hm).1
        exact hL.new m b hb' (fun p hp e => by have := hfxlt p hp; omega) (by omega)
  subst he
  rcases hex with rfl | rfl
  · exact hfin
  · exact hfin

/-- A body run out by the shadow. -/
def callRun (C : Ctx) (fn : Func) (fuel : Nat) (args : List A) (mem : List Blk) : Option (A × St) :=
  match fn.body with
  | some c => match exec C fuel c (s0 C fn.ntmps args mem) with
    | some (.exit _, _) => none
    | some (_, s') => match resA C s' fn.results.toList with
      | some v => some (v, s')
      | none => none
    | none => none
  | none => none

/-- For a function that takes and gives values alone. -/
def plainRun (C : Ctx) (fn : Func) (fuel : Nat) (args : List A) : Option (A × List Prop) :=
  match callRun C fn fuel args [] with
  | some (v, s') => match ids v with
    | [] => some (v, s'.ob)
    | _ => none
  | none => none

theorem renA_plain (g : Nat → Option Nat) : ∀ v : A, ids v = [] → renA g v = some v
  | .ptr i o, h => by simp [ids] at h
  | .slc i o l c, h => by simp [ids] at h
  | .pair x y, h => by
    simp only [ids, List.append_eq_nil_iff] at h
    simp [renA, renA_plain g x h.1, renA_plain g y h.2]
  | .any, _ => rfl
  | .undef, _ => rfl
  | .bool _, _ => rfl
  | .int _ _, _ => rfl
  | .bit _, _ => rfl
  | .str _, _ => rfl
  | .emp, _ => rfl
  | .agg _ _, _ => rfl

theorem fnOk_plain (hC : C.Ok) {f : FuncId} {fn : Func} {c : Code} {F : List A → List Blk → Option Res} (hf : C.P.funcs[f]? = some fn) (hname : (fn.name == "runtime.NumGoroutine") = false) (hb : fn.body = some c)
    (h : ∀ args mem r, F args mem = some r → Holds r.ob → mem = [] ∧ r.new = none ∧ r.mem = [] ∧ args.length ≤ fn.ntmps ∧ ((∀ x ∈ args, wfA x) → ∃ fuel ob, plainRun C fn fuel args = some (r.val, ob) ∧ Holds ob)) : FnOk C.P C.gl f F := by
  refine fnOk_of_tri hf hname hb (fun args mem r hr hob => ?_)
  obtain ⟨rfl, h2, h3, h4, h5⟩ := h args mem r hr hob
  refine ⟨h4, fun j b hj => (by rw [h3] at hj; simp at hj), fun b hb' => (by rw [h2] at hb'; cases hb'), fun hw _ => ?_⟩
  obtain ⟨fuel, ob, hrun, hob'⟩ := h5 hw
  unfold plainRun callRun at hrun
  rw [hb] at hrun
  simp only at hrun
  split at hrun
  · rename_i v s' hq
    split at hrun
    · rename_i hids
      simp only [Option.some.injEq, Prod.mk.injEq] at hrun
      obtain ⟨rfl, rfl⟩ := hrun
      split at hq
      · cases hq
      · rename_i ex s1 hne he
        split at hq
        · rename_i v' hv
          simp only [Option.some.injEq, Prod.mk.injEq] at hq
          obtain ⟨rfl, rfl⟩ := hq
          refine tri_exec hC fuel he hob' ⟨?_, _, hv, ⟨?_, ?_, fun j hj => by simp at hj⟩⟩
          · cases ex with
            | normal => exact Or.inl rfl
            | ret => exact Or.inr rfl
            | exit id => exact (hne id rfl).elim
          · rw [renA_plain _ _ hids]
          · rw [h2, hids]; rfl
        · cases hq
      · cases hq
    · cases hrun
  · cases hrun

/-! ### Pieces of a body -/

/-- The first n statements, and those behind them. -/
def pre : Nat → Code → Code
  | 0, _ => .skip
  | n + 1, .seq a b => .seq a (pre n b)
  | _ + 1, _ => .refuse ""

def post : Nat → Code → Code
  | 0, c => c
  | n + 1, .seq _ b => post n b
  | _ + 1, _ => .skip

def memN (x : Nat) : List Nat → Bool
  | [] => false
  | y :: r => match Nat.beq x y with
    | true => true
    | false => memN x r

def forgetT (keep : List Nat) : List A → Nat → List A
  | [], _ => []
  | v :: r, t => (match memN t keep with
    | true => v
    | false => .any) :: forgetT keep r (t + 1)

def forgetH (blks : List Nat) : Hp → Hp
  | [] => []
  | (i, b) :: h => match memN i blks with
    | true => (i, b) :: forgetH blks h
    | false => forgetH blks h

def belowB (blks : List Nat) : Nat → Bool
  | 0 => true
  | n + 1 => memN n blks && belowB blks n

def idsOk (blks : List Nat) : List A → Bool
  | [] => true
  | v :: r => (ids v).all (fun i => memN i blks) && idsOk blks r

/-- A state of which only some slots and some blocks are kept. -/
def forget (lim : Nat) (keep blks : List Nat) (s : St) : Option St :=
  match belowB blks lim && idsOk blks (forgetT keep s.tm 0) with
  | true => some ⟨forgetT keep s.tm 0, forgetH blks s.h, s.ob⟩
  | false => none

/-- A run and what is kept of its state. -/
def execF (C : Ctx) (f : Nat) (c : Code) (lim : Nat) (keep blks : List Nat) (s : St) : Option (Ex × St) :=
  match exec C f c s with
  | some (ex, s') => match forget lim keep blks s' with
    | some s'' => some (ex, s'')
    | none => none
  | none => none

theorem memN_iff (x : Nat) : ∀ l : List Nat, memN x l = true ↔ x ∈ l
  | [] => by simp [memN]
  | y :: r => by
    unfold memN
    split
    · rename_i hb
      have := Nat.eq_of_beq_eq_true hb
      simp [this]
    · rename_i hb
      rw [memN_iff x r, List.mem_cons]
      constructor
      · exact Or.inr
      · rintro (e | h)
        · rw [e, Nat.beq_refl] at hb; cases hb
        · exact h

theorem forgetT_length (keep : List Nat) : ∀ (l : List A) (t : Nat), (forgetT keep l t).length = l.length
  | [], _ => rfl
  | v :: r, t => by simp [forgetT, forgetT_length keep r (t + 1)]

theorem forgetT_get (keep : List Nat) : ∀ (l : List A) (k t : Nat), (forgetT keep l k).getD t .any = .any ∨ (forgetT keep l k).getD t .any = l.getD t .any
  | [], _, _ => Or.inl rfl
  | v :: r, k, 0 => by
    unfold forgetT
    cases memN k keep
    · exact Or.inl rfl
    · exact Or.inr rfl
  | v :: r, k, t + 1 => by
    have := forgetT_get keep r (k + 1) t
    simpa [forgetT] using this

theorem look_forgetH (blks : List Nat) : ∀ (h : Hp) (i : Nat), look (forgetH blks h) i = if memN i blks = true then look h i else none
  | [], i => by simp [forgetH, look]
  | (j, b) :: h, i => by
    unfold forgetH
    by_cases hij : i = j
    · subst hij
      cases hm : memN i blks with
      | true => simp [look, Nat.beq_refl]
      | false => simp only; rw [look_forgetH blks h i, hm]; simp
    · have hb : Nat.beq i j = false := by
        cases hq : Nat.beq i j with
        | false => rfl
        | true => exact absurd (Nat.eq_of_beq_eq_true hq) hij
      cases hm : memN j blks with
      | true => simp only [look, hb]; exact look_forgetH blks h i
      | false => simp only [look, hb]; exact look_forgetH blks h i

theorem belowB_spec (blks : List Nat) : ∀ n, belowB blks n = true → ∀ i, i < n → memN i blks = true
  | 0, _, i, h => by omega
  | n + 1, hb, i, h => by
    unfold belowB at hb
    rw [Bool.and_eq_true] at hb
    rcases Nat.lt_or_ge i n with hl | hl
    · exact belowB_spec blks n hb.2 i hl
    · have : i = n := by omega
      rw [this]; exact hb.1

theorem idsOk_spec (blks : List Nat) : ∀ (l : List A), idsOk blks l = true → ∀ t, ∀ i ∈ ids (l.getD t .any), memN i blks = true
  | [], _, t, i, hi => by simp [ids] at hi
  | v :: r, hb, 0, i, hi => by
    unfold idsOk at hb
    rw [Bool.and_eq_true] at hb
    exact List.all_eq_true.1 hb.1 i (by simpa using hi)
  | v :: r, hb, t + 1, i, hi => by
    unfold idsOk at hb
    rw [Bool.and_eq_true] at hb
    exact idsOk_spec blks r hb.2 t i (by simpa using hi)

theorem relS_forget {lim : Nat} {s s1 : St} {keep blks : List Nat} {W w : World} {fx : List Fx} {a : Act} (hg : C.gl.length ≤ lim) (hfx : ∀ p ∈ fx, p.id < lim) (h : forget lim keep blks s = some s1) (hR : RelS C.gl W fx s a w) : RelS C.gl W fx s1 a w := by
  unfold forget at h
  split at h
  · rename_i hb
    rw [Bool.and_eq_true] at hb
    simp only [Option.some.injEq] at h
    subst h
    refine relS_weaken (s := s) (s1 := ⟨forgetT keep s.tm 0, forgetH blks s.h, s.ob⟩) hfx (forgetT_length keep s.tm 0) (fun t => ?_) (fun i b hib => ?_) (fun i hi => ?_) hg hR
    · rcases forgetT_get keep s.tm 0 t with e | e
      · exact Or.inl e
      · right
        refine ⟨e, fun i hi hpr => ?_⟩
        have hm := idsOk_spec blks _ hb.2 t i (by rw [e]; exact hi)
        show (look (forgetH blks s.h) i).isSome = true
        rw [look_forgetH, if_pos hm]
        exact hpr
    · have hib' : look (forgetH blks s.h) i = some b := hib
      rw [look_forgetH] at hib'
      split at hib'
      · exact hib'
      · cases hib'
    · show look (forgetH blks s.h) i = _
      rw [look_forgetH, if_pos (belowB_spec blks lim hb.1 i hi)]
  · cases h

theorem tri_of_forget {lim : Nat} {c : Code} {s s1 : St} {keep blks : List Nat} {Post : Ex → St → Prop} (hg : C.gl.length ≤ lim) (h : forget lim keep blks s = some s1) (hT : Tri C lim c s1 Post) : Tri C lim c s Post :=
  fun W fx hfx a w hR => hT W fx hfx a w (relS_forget hg hfx h hR)

theorem tri_pre (hC : C.Ok) {lim : Nat} {Post : Ex → St → Prop} (f : Nat) : ∀ (n : Nat) (c : Code) (s s1 : St), exec C f (pre n c) s = some (.normal, s1) → Holds s1.ob → Tri C lim (post n c) s1 Post → Tri C lim c s Post
  | 0, c, s, s1, h, hob, hT => by
    cases f with
    | zero => cases h
    | succ f =>
      simp only [pre, exec, Option.some.injEq, Prod.mk.injEq, true_and] at h
      subst h
      exact hT
  | n + 1, c, s, s1, h, hob, hT => by
    cases c with
    | seq a b =>
      cases f with
      | zero => cases h
      | succ f =>
        simp only [pre, exec] at h
        split at h
        · rename_i s2 h2
          refine tri_seq (Mid := fun ex s' => ex = .normal ∧ s' = s2) (tri_exec hC f h2 (exec_ob f _ _ _ _ h hob) ⟨rfl, rfl⟩) (fun s3 h3 => ?_) (fun ex s3 hne h3 => absurd h3.1 hne)
          obtain ⟨_, rfl⟩ := h3
          exact tri_pre hC f n b s3 s1 h hob hT
        · rename_i hne
          exact absurd h (hne s1)
    | _ =>
      cases f with
      | zero => cases h
      | succ f => simp [pre, exec] at h

/-- Run the first n statements, forget, go on. -/
theorem tri_preF (hC : C.Ok) {lim : Nat} {Post : Ex → St → Prop} (hg : C.gl.length ≤ lim) (f n : Nat) (c : Code) (s s1 : St) (keep blks : List Nat) (h : execF C f (pre n c) lim keep blks s = some (.normal, s1)) (hob : Holds s1.ob)
    (hT : Tri C lim (post n c) s1 Post) : Tri C lim c s Post := by
  unfold execF at h
  split at h
  · rename_i ex s' he
    split at h
    · rename_i s'' hf
      simp only [Option.some.injEq, Prod.mk.injEq] at h
      obtain ⟨rfl, rfl⟩ := h
      have hob' : s''.ob = s'.ob := by
        unfold forget at hf
        split at hf
        · simp only [Option.some.injEq] at hf; subst hf; rfl
        · cases hf
      exact tri_pre hC f n c s s' he (by rw [← hob']; exact hob) (tri_of_forget hg hf hT)
    · cases h
  · cases h

/-- A round, or any code, run and forgotten of. -/
theorem tri_execF (hC : C.Ok) {lim : Nat} {Post : Ex → St → Prop} (hg : C.gl.length ≤ lim) (f : Nat) {c : Code} {s s1 : St} {ex : Ex} (keep blks : List Nat) (h : execF C f c lim keep blks s = some (ex, s1)) (hob : Holds s1.ob) (hP : Post ex s1) : Tri C lim c s Post := by
  unfold execF at h
  split at h
  · rename_i ex s' he
    split at h
    · rename_i s'' hf
      simp only [Option.some.injEq, Prod.mk.injEq] at h
      obtain ⟨rfl, rfl⟩ := h
      have hob' : s''.ob = s'.ob := by
        unfold forget at hf
        split at hf
        · simp only [Option.some.injEq] at hf; subst hf; rfl
        · cases hf
      intro W fx hfx a w hR
      exact exec_wp hC f c s s' ex _ a w he (by rw [← hob']; exact hob) hR (fun a' w' hR' => ⟨ex, s'', rfl, hP, relS_forget hg hfx hf hR'⟩)
    · cases h
  · cases h

/-- What a function that ended so hands back, by the caller's numbers. -/
def closeRes (C : Ctx) (mem : List Blk) (v : A) (s : St) : Option Res :=
  let lim := C.gl.length + mem.length
  let m := newId lim (ids v)
  match renA (shutRen lim m) v with
  | some v' => some ⟨v', mem.zipIdx.map (fun p => look s.h (C.gl.length + p.2)), match m with
    | some m => look s.h m
    | none => none, s.ob⟩
  | none => none

def callRes (C : Ctx) (fn : Func) (fuel : Nat) (args : List A) (mem : List Blk) : Option Res :=
  match callRun C fn fuel args mem with
  | some (v, s) => closeRes C mem v s
  | none => none

/-- The same answer: the changes told for the blocks that came in may be told in two ways. -/
structure ResEq (mem : List Blk) (r r' : Res) : Prop where
  val : r.val = r'.val
  new : r.new = r'.new
  mem : ∀ j, j < mem.length → r.mem[j]? = some (orElse mem[j]? r'.mem[j]?)

theorem closeRes_ends {mem : List Blk} {v : A} {s : St} {r r' : Res} (h : closeRes C mem v s = some r) (hE : ResEq mem r r') : Ends C mem s v r' := by
  unfold closeRes at h
  simp only at h
  split at h
  · rename_i v' hv
    simp only [Option.some.injEq] at h
    subst h
    refine ⟨by rw [hv, ← hE.val], ?_, fun j hj => ?_⟩
    · rw [← hE.new]
      cases newId (C.gl.length + mem.length) (ids v) <;> rfl
    · have := hE.mem j hj
      simp only [List.getElem?_map, List.getElem?_zipIdx, List.getElem?_eq_getElem hj, Option.map_some, Option.some.injEq, Nat.zero_add] at this
      rw [← List.getElem?_eq_getElem hj] at this
      exact this
  · cases h

theorem fnOk_run (hC : C.Ok) {f : FuncId} {fn : Func} {c : Code} {F : List A → List Blk → Option Res} (hf : C.P.funcs[f]? = some fn) (hname : (fn.name == "runtime.NumGoroutine") = false) (hb : fn.body = some c)
    (h : ∀ args mem r, F args mem = some r → Holds r.ob → args.length ≤ fn.ntmps ∧ (∀ (j : Nat) (b : Blk), r.mem[j]? = some (some b) → ∃ b0, mem[j]? = some b0 ∧ b.rw = b0.rw) ∧ (∀ b : Blk, r.new = some b → b.rw = true) ∧
      ((∀ x ∈ args, wfA x) → (∀ b ∈ mem, ∀ y ∈ b.l, wf b.k y) → ∃ fuel r', callRes C fn fuel args mem = some r' ∧ Holds r'.ob ∧ ResEq mem r' r)) : FnOk C.P C.gl f F := by
  refine fnOk_of_tri hf hname hb (fun args mem r hr hob => ?_)
  obtain ⟨h1, h2, h3, h4⟩ := h args mem r hr hob
  refine ⟨h1, h2, h3, fun hw hw' => ?_⟩
  obtain ⟨fuel, r', hrun, hob', hE⟩ := h4 hw hw'
  unfold callRes callRun at hrun
  rw [hb] at hrun
  simp only at hrun
  split at hrun
  · rename_i v s' hq
    split at hq
    · cases hq
    · rename_i ex s1 hne he
      split at hq
      · rename_i v' hv
        simp only [Option.some.injEq, Prod.mk.injEq] at hq
        obtain ⟨rfl, rfl⟩ := hq
        have hobs : r'.ob = s1.ob := by
          unfold closeRes at hrun
          simp only at hrun
          split at hrun
          · simp only [Option.some.injEq] at hrun; rw [← hrun]
          · cases hrun
        refine tri_exec hC fuel he (by rw [← hobs]; exact hob') ⟨?_, _, hv, closeRes_ends hrun hE⟩
        cases ex with
        | normal => exact Or.inl rfl
        | ret => exact Or.inr rfl
        | exit id => exact (hne id rfl).elim
      · cases hq
    · cases hq
  · cases hrun

/-! ### Contexts by lists of contracts -/

def lookF : List (FuncId × (List A → List Blk → Option Res)) → FuncId → List A → List Blk → Option Res
  | [], _, _, _ => none
  | (g, F) :: r, f, a, m => match Nat.beq f g with
    | true => F a m
    | false => lookF r f a m

theorem lookF_ok {P : Program} {gl : List Blk} : ∀ (l : List (FuncId × (List A → List Blk → Option Res))), (∀ p ∈ l, FnOk P gl p.1 p.2) → ∀ f args mem r, lookF l f args mem = some r → FnOk P gl f (lookF l f)
  | [], _, f, args, mem, r, h => by cases h
  | (g, F) :: l, hl, f, args, mem, r, h => by
    by_cases hb : Nat.beq f g = true
    · have e : lookF ((g, F) :: l) f = F := by
        funext a m
        simp only [lookF, hb]
      rw [e]
      have := hl (g, F) (by simp)
      rw [Nat.eq_of_beq_eq_true hb]
      exact this
    · have hb' : Nat.beq f g = false := Bool.eq_false_iff.2 hb
      have e : lookF ((g, F) :: l) f = lookF l f := by
        funext a m
        simp only [lookF, hb']
      rw [e] at h ⊢
      exact lookF_ok l (fun p hp => hl p (by simp [hp])) f args mem r h

def extF (nAdd nSub : FuncId) (f : FuncId) : Nat :=
  match Nat.beq f nAdd with
  | true => 1
  | false => match Nat.beq f nSub with
    | true => 2
    | false => 0

def mkC (P : Program) (gl : List Blk) (nAdd nSub : FuncId) (hint : Tmp → Option Bool) (l : List (FuncId × (List A → List Blk → Option Res))) : Ctx :=
  ⟨P, gl, lookF l, extF nAdd nSub, hint⟩

/-- What a program's texts give once for all contexts. -/
structure Base (P : Program) (gl : List Blk) (nAdd nSub : FuncId) : Prop where
  glro : ∀ (g : Nat) (b : Blk), gl[g]? = some b → b.rw = false
  mixed : P.follows .mixedOrders = true
  add : ∀ args w, (callFunc nAdd args).run P w = ((add64Entry args).run P w).andThen fun v w' => .ok (.value v) w'
  sub : ∀ args w, (callFunc nSub args).run P w = ((sub64Entry args).run P w).andThen fun v w' => .ok (.value v) w'

theorem mkC_ok {P : Program} {gl : List Blk} {nAdd nSub : FuncId} (hB : Base P gl nAdd nSub) (hint : Tmp → Option Bool) (l : List (FuncId × (List A → List Blk → Option Res))) (hl : ∀ p ∈ l, FnOk P gl p.1 p.2) : (mkC P gl nAdd nSub hint l).Ok := by
  refine ⟨hB.glro, hB.mixed, fun f hf => ?_, fun f hf => ?_, fun f _ args mem r h => lookF_ok l hl f args mem r h⟩
  · have hf' : extF nAdd nSub f = 1 := hf
    unfold extF at hf'
    split at hf'
    · rename_i hb
      have := Nat.eq_of_beq_eq_true hb
      subst this
      exact hB.add
    · split at hf' <;> cases hf'
  · have hf' : extF nAdd nSub f = 2 := hf
    unfold extF at hf'
    split at hf'
    · cases hf'
    · split at hf'
      · rename_i hb
        have := Nat.eq_of_beq_eq_true hb
        subst this
        exact hB.sub
      · cases hf'

end

end Go.Proofs.YtbdmahidobjaoaaDoor.Sx
