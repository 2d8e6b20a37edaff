/-
  The contracts of curve's inner functions: load, store, more, less, canon, sum, minus, product; and of Canon, Add, Sub, Mul, Square.
-/
import Derived.Test.YtechbdggjfahhaaDoorCurve25
namespace Go.Proofs.YtechbdggjfahhaaDoor.Sx
open Go
set_option maxRecDepth 100000

/-! ### load, store -/

def fLoad25 : List A → List Blk → Option Res := F1 .u8 .u64 32 fun l => wordsOf 4 (num l)

theorem load25_run (a0 a1 a2 a3 a4 a5 a6 a7 b0 b1 b2 b3 b4 b5 b6 b7 c0 c1 c2 c3 c4 c5 c6 c7 d0 d1 d2 d3 d4 d5 d6 d7 : Int) :
    plainRun (mk []) Tryd.f38 300 [.agg .u8 [a0, a1, a2, a3, a4, a5, a6, a7, b0, b1, b2, b3, b4, b5, b6, b7, c0, c1, c2, c3, c4, c5, c6, c7, d0, d1, d2, d3, d4, d5, d6, d7]] =
    some (.agg .u64 [orW 1 (IntKind.u64.wrap a0) [a1, a2, a3, a4, a5, a6, a7], orW 1 (IntKind.u64.wrap b0) [b1, b2, b3, b4, b5, b6, b7], orW 1 (IntKind.u64.wrap c0) [c1, c2, c3, c4, c5, c6, c7], orW 1 (IntKind.u64.wrap d0) [d1, d2, d3, d4, d5, d6, d7]], []) := by kernel_rfl

theorem orW8 (a0 a1 a2 a3 a4 a5 a6 a7 : Int) (h : ∀ x ∈ [a0, a1, a2, a3, a4, a5, a6, a7], 0 ≤ x ∧ x < 256) :
    orW 1 (IntKind.u64.wrap a0) [a1, a2, a3, a4, a5, a6, a7] = num [a0, a1, a2, a3, a4, a5, a6, a7] ∧ W (num [a0, a1, a2, a3, a4, a5, a6, a7]) := by
  have h0 := h a0 (by simp)
  have r := num_range _ h
  have h8 : (256 : Int) ^ 8 = 18446744073709551616 := by decide
  have e8 : [a0, a1, a2, a3, a4, a5, a6, a7].length = 8 := rfl
  rw [e8, h8] at r
  refine ⟨?_, r⟩
  rw [u64w a0 h0.1 (by omega), orW_num _ 1 a0 (by simp) (fun x hx => h x (List.mem_cons_of_mem _ hx)) h0.1 (by rw [show (2 : Int) ^ (8 * 1) = 256 by decide]; exact h0.2), show (2 : Int) ^ (8 * 1) = 256 by decide]
  rfl

theorem load25_ok : FnOk Tryd.prog gl 38 fLoad25 := by
  refine fnOk_F1 (C := mk []) (mk_ok (by simp)) Tryd.func38 (by kernel_rfl) rfl (by kernel_rfl) (fun l hl hw => ?_)
  obtain ⟨a0, a1, a2, a3, a4, a5, a6, a7, b0, b1, b2, b3, b4, b5, b6, b7, c0, c1, c2, c3, c4, c5, c6, c7, d0, d1, d2, d3, d4, d5, d6, d7, rfl⟩ := list32 hl
  refine ⟨300, _, load25_run .., ?_⟩
  have hb : ∀ x ∈ [a0, a1, a2, a3, a4, a5, a6, a7, b0, b1, b2, b3, b4, b5, b6, b7, c0, c1, c2, c3, c4, c5, c6, c7, d0, d1, d2, d3, d4, d5, d6, d7], 0 ≤ x ∧ x < 256 := fun x hx => wf_u8.1 (hw x hx)
  have e : ([a0, a1, a2, a3, a4, a5, a6, a7, b0, b1, b2, b3, b4, b5, b6, b7, c0, c1, c2, c3, c4, c5, c6, c7, d0, d1, d2, d3, d4, d5, d6, d7] : List Int) =
    [a0, a1, a2, a3, a4, a5, a6, a7] ++ ([b0, b1, b2, b3, b4, b5, b6, b7] ++ ([c0, c1, c2, c3, c4, c5, c6, c7] ++ [d0, d1, d2, d3, d4, d5, d6, d7])) := rfl
  rw [e] at hb
  have ra := orW8 a0 a1 a2 a3 a4 a5 a6 a7 (fun x hx => hb x (List.mem_append_left _ hx))
  have rb := orW8 b0 b1 b2 b3 b4 b5 b6 b7 (fun x hx => hb x (List.mem_append_right _ (List.mem_append_left _ hx)))
  have rc := orW8 c0 c1 c2 c3 c4 c5 c6 c7 (fun x hx => hb x (List.mem_append_right _ (List.mem_append_right _ (List.mem_append_left _ hx))))
  have rd := orW8 d0 d1 d2 d3 d4 d5 d6 d7 (fun x hx => hb x (List.mem_append_right _ (List.mem_append_right _ (List.mem_append_right _ hx))))
  rw [e, num_append, num_append, num_append, ra.1, rb.1, rc.1, rd.1]
  have h88 : (256 : Int) ^ 8 = 18446744073709551616 := by decide
  have h8 : ∀ x0 x1 x2 x3 x4 x5 x6 x7 : Int, (256 : Int) ^ [x0, x1, x2, x3, x4, x5, x6, x7].length = 18446744073709551616 := fun _ _ _ _ _ _ _ _ => h88
  rw [h8, h8, h8]
  have r4 := wnum4_range ra.2 rb.2 rc.2 rd.2
  refine words4_eq ra.2 rb.2 rc.2 rd.2 ?_
  generalize num [a0, a1, a2, a3, a4, a5, a6, a7] = p at *
  generalize num [b0, b1, b2, b3, b4, b5, b6, b7] = q at *
  generalize num [c0, c1, c2, c3, c4, c5, c6, c7] = r at *
  generalize num [d0, d1, d2, d3, d4, d5, d6, d7] = s at *
  simp only [wnum] at *
  omega

def fStore25 : List A → List Blk → Option Res := F1 .u64 .u8 4 fun l => bytesOf 32 (wnum l)

theorem store25_run (a b c d : Int) : plainRun (mk []) Tryd.f35 300 [.agg .u64 [a, b, c, d]] = some (.agg .u8 (stFrom a 0 8 ++ (stFrom b 0 8 ++ (stFrom c 0 8 ++ stFrom d 0 8))), []) := by kernel_rfl

theorem store25_ok : FnOk Tryd.prog gl 35 fStore25 := by
  refine fnOk_F1 (C := mk []) (mk_ok (by simp)) Tryd.func35 (by kernel_rfl) rfl (by kernel_rfl) (fun l hl hw => ?_)
  obtain ⟨a, b, c, d, rfl⟩ := list4 hl
  refine ⟨300, _, store25_run .., ?_⟩
  have ha := wf_u64.1 (hw a (by simp))
  have hb := wf_u64.1 (hw b (by simp))
  have hc := wf_u64.1 (hw c (by simp))
  simp only [stFrom_bytes, wnum]
  rw [show (32 : Nat) = 8 + (8 + (8 + 8)) by rfl, bytesOf_word _ _ _ ha.1 ha.2, bytesOf_word _ _ _ hb.1 hb.2, bytesOf_word _ _ _ hc.1 hc.2]
  simp [bytesOf]

/-! ### more, less, canon, sum, minus -/

def fMore0 : List A → List Blk → Option Res
  | [.agg k l, .int .u64 ab], [] => match decide (k = .u64) && Nat.beq l.length 4 with
    | true => some ⟨.agg .u64 (wordsOf 4 (red25 (wnum l + 38 * ab))), [], none, []⟩
    | false => none
  | _, _ => none

noncomputable abbrev unb (F : List A → List Blk → Option Res) : List A → List Blk → Option Res := fun args mem => F (args.map unbit) mem

theorem mul64u_ok : ∀ p ∈ [(48, unb fMul64)], FnOk Tryd.prog gl p.1 p.2 := by
  intro p hp
  rw [List.mem_singleton.1 hp]
  exact fnOk_unbit mul64_ok

theorem more_run (a b c d ab : Int) : plainRun (mk [(48, unb fMul64)]) Tryd.f46 300 [.agg .u64 [a, b, c, d], .int .u64 ab] =
    some (.agg .u64 (moreR [a, b, c, d] ab), []) := by kernel_rfl

theorem more0_ok : FnOk Tryd.prog gl 46 fMore0 := by
  refine fnOk_plain (C := mk [(48, unb fMul64)]) (mk_ok mul64u_ok) Tryd.func46 (by kernel_rfl) rfl (fun args mem r hr _ => ?_)
  unfold fMore0 at hr
  split at hr
  · rename_i k l ab
    split at hr
    · rename_i hc
      simp only [Bool.and_eq_true] at hc
      have e0 := of_decide_eq_true hc.1
      subst e0
      simp only [Option.some.injEq] at hr
      subst hr
      refine ⟨rfl, rfl, rfl, beq_le (by kernel_rfl), fun hw => ?_⟩
      obtain ⟨a, b, c, d, rfl⟩ := list4 (Nat.eq_of_beq_eq_true hc.2)
      have hl := hw (.agg .u64 [a, b, c, d]) (by simp)
      have ha := wf_u64.1 (hl a (by simp))
      have hb := wf_u64.1 (hl b (by simp))
      have hc := wf_u64.1 (hl c (by simp))
      have hd := wf_u64.1 (hl d (by simp))
      have hab := wf_u64.1 (hw (.int .u64 ab) (by simp))
      exact ⟨300, [], by rw [more_run, moreR_eq a b c d ab ha hb hc hd hab], Holds.nil⟩
    · cases hr
  · cases hr

/-- What is above may be a carry. -/
noncomputable abbrev fMore : List A → List Blk → Option Res := unb fMore0
theorem more_ok : FnOk Tryd.prog gl 46 fMore := fnOk_unbit more0_ok

def fLess : List A → List Blk → Option Res := F1 .u64 .u64 4 fun l => wordsOf 4 (less25 (wnum l))

theorem less_run (a b c d : Int) : plainRun (mk []) Tryd.f44 300 [.agg .u64 [a, b, c, d]] = some (.agg .u64 (lessR [a, b, c, d]), []) := by kernel_rfl

theorem less_ok : FnOk Tryd.prog gl 44 fLess := by
  refine fnOk_F1 (C := mk []) (mk_ok (by simp)) Tryd.func44 (by kernel_rfl) rfl (by kernel_rfl) (fun l hl hw => ?_)
  obtain ⟨a, b, c, d, rfl⟩ := list4 hl
  exact ⟨300, _, less_run .., lessR_eq a b c d (wf_u64.1 (hw a (by simp))) (wf_u64.1 (hw b (by simp))) (wf_u64.1 (hw c (by simp))) (wf_u64.1 (hw d (by simp)))⟩

def fCanonW : List A → List Blk → Option Res := F1 .u64 .u64 4 fun l => wordsOf 4 (wnum l % p25)

theorem canonW_run (a b c d : Int) : plainRun (mk [(44, fLess)]) Tryd.f36 300 [.agg .u64 [a, b, c, d]] =
    some (.agg .u64 (wordsOf 4 (less25 (wnum (wordsOf 4 (less25 (wnum [a, b, c, d])))))), []) := by kernel_rfl

theorem canonW_ok : FnOk Tryd.prog gl 36 fCanonW := by
  refine fnOk_F1 (C := mk [(44, fLess)]) (mk_ok (by intro p hp; rw [List.mem_singleton.1 hp]; exact less_ok)) Tryd.func36 (by kernel_rfl) rfl (by kernel_rfl) (fun l hl hw => ?_)
  obtain ⟨a, b, c, d, rfl⟩ := list4 hl
  have r := wnum4_range (wf_u64.1 (hw a (by simp))) (wf_u64.1 (hw b (by simp))) (wf_u64.1 (hw c (by simp))) (wf_u64.1 (hw d (by simp)))
  have r2 := less25_range _ r.1 r.2
  refine ⟨300, _, canonW_run .., ?_⟩
  rw [wnum_wordsOf4, Int.emod_eq_of_lt r2.1 r2.2, less25_twice _ r.1 r.2]

def fSumW : List A → List Blk → Option Res := F2 .u64 .u64 .u64 4 4 fun l m => wordsOf 4 (red25 (red25 (wnum l + wnum m)))

theorem sumW_run (a b c d e f g i : Int) : plainRun (mk [(46, fMore)]) Tryd.f37 300 [.agg .u64 [a, b, c, d], .agg .u64 [e, f, g, i]] =
    some (.agg .u64 (wordsOf 4 (red25 (wnum (sumR [a, b, c, d] [e, f, g, i]).1 + 38 * (sumR [a, b, c, d] [e, f, g, i]).2))), []) := by kernel_rfl

theorem moreL_ok : ∀ p ∈ [(46, fMore)], FnOk Tryd.prog gl p.1 p.2 := by
  intro p hp
  rw [List.mem_singleton.1 hp]
  exact more_ok

theorem sumW_ok : FnOk Tryd.prog gl 37 fSumW := by
  refine fnOk_F2 (C := mk [(46, fMore)]) (mk_ok moreL_ok) Tryd.func37 (by kernel_rfl) rfl (by kernel_rfl) (fun l m hl hm hw hw' => ?_)
  obtain ⟨a, b, c, d, rfl⟩ := list4 hl
  obtain ⟨e, f, g, i, rfl⟩ := list4 hm
  exact ⟨300, _, sumW_run .., more_sum a b c d e f g i (wf_u64.1 (hw a (by simp))) (wf_u64.1 (hw b (by simp))) (wf_u64.1 (hw c (by simp))) (wf_u64.1 (hw d (by simp))) (wf_u64.1 (hw' e (by simp))) (wf_u64.1 (hw' f (by simp))) (wf_u64.1 (hw' g (by simp))) (wf_u64.1 (hw' i (by simp)))⟩

def fMinus : List A → List Blk → Option Res := F1 .u64 .u64 4 fun l => wordsOf 4 (p25 - wnum l)

theorem minus_run (a b c d : Int) : plainRun (mk []) Tryd.f39 300 [.agg .u64 [a, b, c, d]] = some (.agg .u64 (minusR [a, b, c, d]), []) := by kernel_rfl

theorem minus_ok : FnOk Tryd.prog gl 39 fMinus := by
  refine fnOk_F1 (C := mk []) (mk_ok (by simp)) Tryd.func39 (by kernel_rfl) rfl (by kernel_rfl) (fun l hl hw => ?_)
  obtain ⟨a, b, c, d, rfl⟩ := list4 hl
  exact ⟨300, _, minus_run .., minusR_eq a b c d (wf_u64.1 (hw a (by simp))) (wf_u64.1 (hw b (by simp))) (wf_u64.1 (hw c (by simp))) (wf_u64.1 (hw d (by simp)))⟩

/-! ### product -/

def fProd : List A → List Blk → Option Res := F2 .u64 .u64 .u64 4 4 fun l m => wordsOf 4 (prod25 (wnum l) (wnum m))

noncomputable abbrev prodF : List (FuncId × (List A → List Blk → Option Res)) := [(46, fMore), (48, fMul64)]

theorem prodF_ok : ∀ p ∈ prodF, FnOk Tryd.prog gl p.1 p.2 := by
  intro p hp
  simp only [prodF, List.mem_cons, List.not_mem_nil, or_false] at hp
  rcases hp with rfl | rfl
  · exact more_ok
  · exact mul64_ok

theorem prod_run (a b c d e f g i : Int) : plainRun (mk prodF) Tryd.f40 300 [.agg .u64 [a, b, c, d], .agg .u64 [e, f, g, i]] =
    some (.agg .u64 (wordsOf 4 (red25 (wnum (lowR (prodR [a, b, c, d] [e, f, g, i])).1 + 38 * (lowR (prodR [a, b, c, d] [e, f, g, i])).2))), []) := by kernel_rfl

theorem prod_ok : FnOk Tryd.prog gl 40 fProd := by
  refine fnOk_F2 (C := mk prodF) (mk_ok prodF_ok) Tryd.func40 (by kernel_rfl) rfl (by kernel_rfl) (fun l m hl hm hw hw' => ?_)
  obtain ⟨a, b, c, d, rfl⟩ := list4 hl
  obtain ⟨e, f, g, i, rfl⟩ := list4 hm
  refine ⟨300, _, prod_run .., ?_⟩
  obtain ⟨t0, t1, t2, t3, t4, t5, t6, t7, ht, w0, w1, w2, w3, w4, w5, w6, w7, hn⟩ := prodR_eq a b c d e f g i (wf_u64.1 (hw a (by simp))) (wf_u64.1 (hw b (by simp))) (wf_u64.1 (hw c (by simp))) (wf_u64.1 (hw d (by simp))) (wf_u64.1 (hw' e (by simp))) (wf_u64.1 (hw' f (by simp))) (wf_u64.1 (hw' g (by simp))) (wf_u64.1 (hw' i (by simp)))
  obtain ⟨x0, x1, x2, x3, k, hx, v0, v1, v2, v3, vk, hn2⟩ := lowR_eq t0 t1 t2 t3 t4 t5 t6 t7 w0 w1 w2 w3 w4 w5 w6 w7
  unfold prod25
  rw [ht, hx, hn]
  have r1 := wnum4_range w0 w1 w2 w3
  have r2 := wnum4_range w4 w5 w6 w7
  have r3 := wnum4_range v0 v1 v2 v3
  generalize wnum [t0, t1, t2, t3] = lo at *
  generalize wnum [t4, t5, t6, t7] = hi at *
  generalize wnum [x0, x1, x2, x3] = x at *
  have e1 : red25 (lo + 115792089237316195423570985008687907853269984665640564039457584007913129639936 * hi) = x + 115792089237316195423570985008687907853269984665640564039457584007913129639936 * k := by
    rw [← hn2]
    unfold red25
    omega
  have e2 : red25 (x + 115792089237316195423570985008687907853269984665640564039457584007913129639936 * k) = x + 38 * k := by
    unfold red25
    omega
  rw [e1, e2]

/-! ### Canon, Add, Sub, Mul, Square -/

def cC (l : List Int) : List Int := bytesOf 32 (num l % p25)
def cA (l m : List Int) : List Int := bytesOf 32 ((num l + num m) % p25)
def cS (l m : List Int) : List Int := bytesOf 32 ((num l - num m) % p25)
def cM (l m : List Int) : List Int := bytesOf 32 ((num l * num m) % p25)

noncomputable abbrev wordF : List (FuncId × (List A → List Blk → Option Res)) :=
  [(38, fLoad25), (35, fStore25), (36, fCanonW), (37, fSumW), (39, fMinus), (40, fProd)]

theorem wordF_ok : ∀ p ∈ wordF, FnOk Tryd.prog gl p.1 p.2 := by
  intro p hp
  simp only [wordF, List.mem_cons, List.not_mem_nil, or_false] at hp
  rcases hp with rfl | rfl | rfl | rfl | rfl | rfl
  · exact load25_ok
  · exact store25_ok
  · exact canonW_ok
  · exact sumW_ok
  · exact minus_ok
  · exact prod_ok

theorem num32_range {l : List Int} (hl : l.length = 32) (hw : ∀ x ∈ l, wf .u8 x) : 0 ≤ num l ∧ num l < 115792089237316195423570985008687907853269984665640564039457584007913129639936 := by
  have := num_range l (fun x hx => wf_u8.1 (hw x hx))
  rw [hl, show (256 : Int) ^ 32 = 115792089237316195423570985008687907853269984665640564039457584007913129639936 by decide] at this
  exact this

theorem mod25 (n : Int) : 0 ≤ n % p25 ∧ n % p25 < 115792089237316195423570985008687907853269984665640564039457584007913129639936 :=
  ⟨Int.emod_nonneg _ (by decide), Int.lt_of_lt_of_le (Int.emod_lt_of_pos _ (by decide)) (by decide)⟩

theorem wnum_small {n : Int} (h : 0 ≤ n ∧ n < 115792089237316195423570985008687907853269984665640564039457584007913129639936) : wnum (wordsOf 4 n) = n := by
  rw [wnum_wordsOf4, Int.emod_eq_of_lt h.1 h.2]

def fCanon : List A → List Blk → Option Res := F1 .u8 .u8 32 cC

theorem canon_run (l : List Int) : plainRun (mk wordF) Tryd.f42 300 [.agg .u8 (tab 32 l)] = some (.agg .u8 (bytesOf 32 (wnum (wordsOf 4 (wnum (wordsOf 4 (num (tab 32 l))) % p25)))), []) := by kernel_rfl

theorem canon_ok : FnOk Tryd.prog gl 42 fCanon := by
  refine fnOk_F1 (C := mk wordF) (mk_ok wordF_ok) Tryd.func42 (by kernel_rfl) rfl (by kernel_rfl) (fun l hl hw => ?_)
  have run := canon_run l
  rw [tab_eq 32 l hl] at run
  refine ⟨300, _, run, ?_⟩
  rw [wnum_small (num32_range hl hw), wnum_small (mod25 _)]
  rfl

def fAdd : List A → List Blk → Option Res := F2 .u8 .u8 .u8 32 32 cA

theorem add_run (l m : List Int) : plainRun (mk wordF) Tryd.f22 300 [.agg .u8 (tab 32 l), .agg .u8 (tab 32 m)] =
    some (.agg .u8 (bytesOf 32 (wnum (wordsOf 4 (wnum (wordsOf 4 (red25 (red25 (wnum (wordsOf 4 (num (tab 32 l))) + wnum (wordsOf 4 (num (tab 32 m))))))) % p25)))), []) := by kernel_rfl

theorem red2_range (n : Int) (h : 0 ≤ n) (h1 : n < 2 * 115792089237316195423570985008687907853269984665640564039457584007913129639936) : 0 ≤ red25 (red25 n) ∧ red25 (red25 n) < 115792089237316195423570985008687907853269984665640564039457584007913129639936 := by
  have a : 0 ≤ red25 n ∧ red25 n < 115792089237316195423570985008687907853269984665640564039457584007913129639936 + 38 := by unfold red25; omega
  generalize red25 n = m at *
  unfold red25; omega

theorem add_val (A B : Int) (hr : 0 ≤ A ∧ A < 115792089237316195423570985008687907853269984665640564039457584007913129639936) (hr' : 0 ≤ B ∧ B < 115792089237316195423570985008687907853269984665640564039457584007913129639936) :
    wnum (wordsOf 4 (wnum (wordsOf 4 (red25 (red25 (wnum (wordsOf 4 A) + wnum (wordsOf 4 B))))) % p25)) = (A + B) % p25 := by
  rw [wnum_small hr, wnum_small hr', wnum_small (red2_range _ (by omega) (by omega)), wnum_small (mod25 _), red25_mod, red25_mod]

theorem add_ok : FnOk Tryd.prog gl 22 fAdd := by
  refine fnOk_F2 (C := mk wordF) (mk_ok wordF_ok) Tryd.func22 (by kernel_rfl) rfl (by kernel_rfl) (fun l m hl hm hw hw' => ?_)
  have run := add_run l m
  rw [tab_eq 32 l hl, tab_eq 32 m hm] at run
  exact ⟨300, _, run, congrArg (bytesOf 32) (add_val _ _ (num32_range hl hw) (num32_range hm hw'))⟩

def fSub : List A → List Blk → Option Res := F2 .u8 .u8 .u8 32 32 cS

theorem sub_run (l m : List Int) : plainRun (mk wordF) Tryd.f23 300 [.agg .u8 (tab 32 l), .agg .u8 (tab 32 m)] =
    some (.agg .u8 (bytesOf 32 (wnum (wordsOf 4 (wnum (wordsOf 4 (red25 (red25 (wnum (wordsOf 4 (num (tab 32 l))) + wnum (wordsOf 4 (p25 - wnum (wordsOf 4 (wnum (wordsOf 4 (num (tab 32 m))) % p25)))))))) % p25)))), []) := by kernel_rfl

theorem sub_val (A B : Int) (hr : 0 ≤ A ∧ A < 115792089237316195423570985008687907853269984665640564039457584007913129639936) (hr' : 0 ≤ B ∧ B < 115792089237316195423570985008687907853269984665640564039457584007913129639936) :
    wnum (wordsOf 4 (wnum (wordsOf 4 (red25 (red25 (wnum (wordsOf 4 A) + wnum (wordsOf 4 (p25 - wnum (wordsOf 4 (wnum (wordsOf 4 B) % p25)))))))) % p25)) = (A - B) % p25 := by
  have hp := Int.emod_lt_of_pos B (show (0 : Int) < p25 by decide)
  have hq := Int.emod_nonneg B (show p25 ≠ 0 by decide)
  have hpp : p25 < 115792089237316195423570985008687907853269984665640564039457584007913129639936 := by decide
  rw [wnum_small hr, wnum_small hr', wnum_small (mod25 B)]
  have h1 : 0 ≤ p25 - B % p25 ∧ p25 - B % p25 < 115792089237316195423570985008687907853269984665640564039457584007913129639936 := by omega
  rw [wnum_small h1, wnum_small (red2_range _ (by omega) (by omega)), wnum_small (mod25 _), red25_mod, red25_mod]
  have e : A + (p25 - B % p25) = (A - B) + p25 * (1 + B / p25) := by
    have := Int.mul_ediv_add_emod B p25
    rw [Int.mul_add]
    omega
  rw [e, Int.add_mul_emod_self_left]

theorem sub_ok : FnOk Tryd.prog gl 23 fSub := by
  refine fnOk_F2 (C := mk wordF) (mk_ok wordF_ok) Tryd.func23 (by kernel_rfl) rfl (by kernel_rfl) (fun l m hl hm hw hw' => ?_)
  have run := sub_run l m
  rw [tab_eq 32 l hl, tab_eq 32 m hm] at run
  exact ⟨300, _, run, congrArg (bytesOf 32) (sub_val _ _ (num32_range hl hw) (num32_range hm hw'))⟩

def fMul : List A → List Blk → Option Res := F2 .u8 .u8 .u8 32 32 cM

theorem mul_run (l m : List Int) : plainRun (mk wordF) Tryd.f24 300 [.agg .u8 (tab 32 l), .agg .u8 (tab 32 m)] =
    some (.agg .u8 (bytesOf 32 (wnum (wordsOf 4 (wnum (wordsOf 4 (prod25 (wnum (wordsOf 4 (num (tab 32 l)))) (wnum (wordsOf 4 (num (tab 32 m)))))) % p25)))), []) := by kernel_rfl

theorem mul_val (A B : Int) (hr : 0 ≤ A ∧ A < 115792089237316195423570985008687907853269984665640564039457584007913129639936) (hr' : 0 ≤ B ∧ B < 115792089237316195423570985008687907853269984665640564039457584007913129639936) :
    wnum (wordsOf 4 (wnum (wordsOf 4 (prod25 (wnum (wordsOf 4 A)) (wnum (wordsOf 4 B)))) % p25)) = A * B % p25 := by
  rw [wnum_small hr, wnum_small hr', wnum_small (prod25_range _ _ hr hr'), wnum_small (mod25 _), prod25_mod]

theorem mul_ok : FnOk Tryd.prog gl 24 fMul := by
  refine fnOk_F2 (C := mk wordF) (mk_ok wordF_ok) Tryd.func24 (by kernel_rfl) rfl (by kernel_rfl) (fun l m hl hm hw hw' => ?_)
  have run := mul_run l m
  rw [tab_eq 32 l hl, tab_eq 32 m hm] at run
  exact ⟨300, _, run, congrArg (bytesOf 32) (mul_val _ _ (num32_range hl hw) (num32_range hm hw'))⟩

def fSquare : List A → List Blk → Option Res := F1 .u8 .u8 32 fun l => cM l l

theorem square_run (l : List Int) : plainRun (mk [(24, fMul)]) Tryd.f25 300 [.agg .u8 (tab 32 l)] = some (.agg .u8 (cM (tab 32 l) (tab 32 l)), []) := by kernel_rfl

theorem square_ok : FnOk Tryd.prog gl 25 fSquare := by
  refine fnOk_F1 (C := mk [(24, fMul)]) (mk_ok (by intro p hp; rw [List.mem_singleton.1 hp]; exact mul_ok)) Tryd.func25 (by kernel_rfl) rfl (by kernel_rfl) (fun l hl hw => ?_)
  have run := square_run l
  rw [tab_eq 32 l hl] at run
  exact ⟨300, _, run, rfl⟩

end Go.Proofs.YtechbdggjfahhaaDoor.Sx
