/-
  The contracts of clamp's Mul, Low, Trim.
-/
import Derived.Test.YtbdmahidobjaoaaDoorClampFns2
namespace Go.Proofs.YtbdmahidobjaoaaDoor.Sx
open Go
set_option maxRecDepth 100000

/-- One row of a long product: (lower words, what is above). -/
structure Row3 where
  l0 : Int
  l1 : Int
  l2 : Int
  h : Int

def rowR (x y0 y1 y2 t0 t1 t2 : Int) : Row3 :=
  ⟨macLo x y0 t0 0, macLo x y1 t1 (macHi x y0 t0 0), macLo x y2 t2 (macHi x y1 t1 (macHi x y0 t0 0)), macHi x y2 t2 (macHi x y1 t1 (macHi x y0 t0 0))⟩

abbrev W (n : Int) : Prop := 0 ≤ n ∧ n < 18446744073709551616

theorem rowR_eq (x y0 y1 y2 t0 t1 t2 : Int) (hx : W x) (h0 : W y0) (h1 : W y1) (h2 : W y2) (g0 : W t0) (g1 : W t1) (g2 : W t2) :
    x * y0 + 18446744073709551616 * (x * y1 + 18446744073709551616 * (x * y2)) + (t0 + 18446744073709551616 * (t1 + 18446744073709551616 * t2)) =
      (rowR x y0 y1 y2 t0 t1 t2).l0 + 18446744073709551616 * ((rowR x y0 y1 y2 t0 t1 t2).l1 + 18446744073709551616 * ((rowR x y0 y1 y2 t0 t1 t2).l2 + 18446744073709551616 * (rowR x y0 y1 y2 t0 t1 t2).h)) ∧
    W (rowR x y0 y1 y2 t0 t1 t2).l0 ∧ W (rowR x y0 y1 y2 t0 t1 t2).l1 ∧ W (rowR x y0 y1 y2 t0 t1 t2).l2 ∧ W (rowR x y0 y1 y2 t0 t1 t2).h := by
  simp only [rowR]
  obtain ⟨e0, a0, b0⟩ := mac_split x y0 t0 0 hx.1 hx.2 h0.1 h0.2 g0.1 g0.2 (by decide) (by decide)
  obtain ⟨e1, a1, b1⟩ := mac_split x y1 t1 (macHi x y0 t0 0) hx.1 hx.2 h1.1 h1.2 g1.1 g1.2 b0.1 b0.2
  obtain ⟨e2, a2, b2⟩ := mac_split x y2 t2 (macHi x y1 t1 (macHi x y0 t0 0)) hx.1 hx.2 h2.1 h2.2 g2.1 g2.2 b1.1 b1.2
  refine ⟨?_, a0, a1, a2, b2⟩
  generalize macHi x y2 t2 (macHi x y1 t1 (macHi x y0 t0 0)) = H2 at *
  generalize macLo x y2 t2 (macHi x y1 t1 (macHi x y0 t0 0)) = L2 at *
  generalize macHi x y1 t1 (macHi x y0 t0 0) = H1 at *
  generalize macLo x y1 t1 (macHi x y0 t0 0) = L1 at *
  generalize macHi x y0 t0 0 = H0 at *
  generalize macLo x y0 t0 0 = L0 at *
  generalize x * y0 = p0 at *
  generalize x * y1 = p1 at *
  generalize x * y2 = p2 at *
  omega

/-- The six words of a product. -/
def prodR (x y : List Int) : List Int :=
  match x, y with
  | [x0, x1, x2], [y0, y1, y2] =>
    let p := rowR x0 y0 y1 y2 0 0 0
    let r := rowR x1 y0 y1 y2 p.l1 p.l2 p.h
    let s := rowR x2 y0 y1 y2 r.l1 r.l2 r.h
    [p.l0, r.l0, s.l0, s.l1, s.l2, s.h]
  | _, _ => []

theorem prodR_eq (x0 x1 x2 y0 y1 y2 : Int) (hx0 : W x0) (hx1 : W x1) (hx2 : W x2) (hy0 : W y0) (hy1 : W y1) (hy2 : W y2) :
    wnum (prodR [x0, x1, x2] [y0, y1, y2]) = wnum [x0, x1, x2] * wnum [y0, y1, y2] ∧ ∀ t ∈ prodR [x0, x1, x2] [y0, y1, y2], W t := by
  simp only [prodR]
  have z : W 0 := ⟨by decide, by decide⟩
  obtain ⟨e0, a0, a1, a2, a3⟩ := rowR_eq x0 y0 y1 y2 0 0 0 hx0 hy0 hy1 hy2 z z z
  generalize rowR x0 y0 y1 y2 0 0 0 = p at *
  obtain ⟨e1, b0, b1, b2, b3⟩ := rowR_eq x1 y0 y1 y2 p.l1 p.l2 p.h hx1 hy0 hy1 hy2 a1 a2 a3
  generalize rowR x1 y0 y1 y2 p.l1 p.l2 p.h = r at *
  obtain ⟨e2, c0, c1, c2, c3⟩ := rowR_eq x2 y0 y1 y2 r.l1 r.l2 r.h hx2 hy0 hy1 hy2 b1 b2 b3
  generalize rowR x2 y0 y1 y2 r.l1 r.l2 r.h = s at *
  refine ⟨?_, fun t ht => ?_⟩
  · simp only [wnum]
    have e : (x0 + 18446744073709551616 * (x1 + 18446744073709551616 * (x2 + 18446744073709551616 * 0))) * (y0 + 18446744073709551616 * (y1 + 18446744073709551616 * (y2 + 18446744073709551616 * 0))) =
        (x0 * y0 + 18446744073709551616 * (x0 * y1 + 18446744073709551616 * (x0 * y2))) + 18446744073709551616 * (x1 * y0 + 18446744073709551616 * (x1 * y1 + 18446744073709551616 * (x1 * y2))) +
          340282366920938463463374607431768211456 * (x2 * y0 + 18446744073709551616 * (x2 * y1 + 18446744073709551616 * (x2 * y2))) := by grind
    rw [e]
    generalize x0 * y0 = q00 at *
    generalize x0 * y1 = q01 at *
    generalize x0 * y2 = q02 at *
    generalize x1 * y0 = q10 at *
    generalize x1 * y1 = q11 at *
    generalize x1 * y2 = q12 at *
    generalize x2 * y0 = q20 at *
    generalize x2 * y1 = q21 at *
    generalize x2 * y2 = q22 at *
    omega
  · simp only [List.mem_cons, List.not_mem_nil, or_false] at ht
    rcases ht with rfl | rfl | rfl | rfl | rfl | rfl
    · exact a0
    · exact b0
    · exact c0
    · exact c1
    · exact c2
    · exact c3

/-- What stands from 2^130 on in six words, and what stands below. -/
def upR (t : List Int) : List Int :=
  match t with
  | [_, _, t2, t3, t4, _] => [bits .or .u64 (t2.fdiv (2 ^ 2)) (IntKind.u64.wrap (t3 * 2 ^ 62)), bits .or .u64 (t3.fdiv (2 ^ 2)) (IntKind.u64.wrap (t4 * 2 ^ 62)), t4.fdiv (2 ^ 2)]
  | _ => []

def lowR (t : List Int) : List Int :=
  match t with
  | [t0, t1, t2, _, _, _] => [t0, t1, bits .and .u64 t2 3]
  | _ => []

def mulR (x y : List Int) : List Int :=
  let t := prodR x y
  let u := upR t
  addR (addR (addR (addR (addR (lowR t) u) u) u) u) u

theorem mul_run (l m : List Int) (h : l.length = 17) (h' : m.length = 17) : plainRun c1 Tryd.f26 300 [.agg .u8 l, .agg .u8 m] =
    some (.agg .u8 (bytesOf 17 (wnum (wordsOf 3 (wnum (mulR (wordsOf 3 (fold1 (fold1 (wnum (wordsOf 3 (num l)))))) (wordsOf 3 (fold1 (fold1 (wnum (wordsOf 3 (num m))))))) % q130)))), []) := by
  obtain ⟨a0, a1, a2, a3, a4, a5, a6, a7, a8, a9, a10, a11, a12, a13, a14, a15, a16, rfl⟩ := list17 h
  obtain ⟨b0, b1, b2, b3, b4, b5, b6, b7, b8, b9, b10, b11, b12, b13, b14, b15, b16, rfl⟩ := list17 h'
  kernel_rfl

end Go.Proofs.YtbdmahidobjaoaaDoor.Sx
