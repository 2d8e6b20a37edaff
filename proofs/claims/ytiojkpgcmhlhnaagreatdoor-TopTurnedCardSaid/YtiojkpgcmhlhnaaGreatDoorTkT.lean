/-
  The row and the tied card of TopTurned: for every policy, every text and every order; the variables as the row lays them.
-/
import Derived.Test.YtiojkpgcmhlhnaaGreatDoorTkS
import Derived.Test.YtiojkpgcmhlhnaaGreatDoorCards
import Derived.Test.YtiojkpgcmhlhnaaGreatDoorTie
import Derived.LaidSub
import Derived.WalkKit
import Derived.ProofKit
import Derived.OpenShut
import Derived.Below
import Derived.Carry
import Derived.Deep.DeepHandedRow
import Derived.Lib.LaidTab
import Derived.ChangeSlices
import Derived.ChangeOld
namespace Go.Proofs.YtiojkpgcmhlhnaaGreatDoor.Ty
open Go Go.ChangeShapes Go.WideShapes Go.ChangeAt Go.RowKit
set_option maxRecDepth 100000
set_option linter.unusedSimpArgs false
set_option linter.unusedVariables false
theorem rowOwn : ownKnob Tryz.prog.godebug = none := by kernel_rfl
theorem rowLaidOut : laidOutB Tryz.prog = true := by kernel_rfl
theorem chunks {m : Nat} : ∀ (zss : List (List Value)) (cs : List Value), cs.length = zss.length * m → (∀ i z, zss[i]? = some z → (cs.drop (i * m)).take m = z) → cs = zss.flatten
 | [], cs, h, _ => by
  simp at h
  simp [h]
 | z :: zss, cs, h, hz => by
  have h0 := hz 0 z rfl
  simp only [Nat.zero_mul, List.drop_zero] at h0
  rw [List.flatten_cons, ← chunks (m := m) zss (cs.drop m) (by simp at h ⊢; rw [h, Nat.add_mul]; omega) (fun i z hi => by
   have := hz (i + 1) z (by simpa using hi)
   rw [List.drop_drop, show m + i * m = (i + 1) * m by rw [Nat.add_mul]; omega]
   exact this), ← h0, List.take_append_drop]
theorem cells_of_tab2 {H : Type} {enc : TypeId × Value → H} {P : Program} {w : World} {base : Nat} {sp : Nat → Bool} {held : Bool} {fuel : Nat} {t e d : TypeId} {n m : Nat} {k : IntKind} {cs : List Value} {zss : List (List Int)} {p : List MemPlace}
  (ht : P.underlying t = some (.array n e)) (he : P.underlying e = some (.array m d)) (hd : P.underlying d = some (.int k)) (hcd : P.cellsOf d = 1) (hce : P.cellsOf e = m) (hct : P.cellsOf t = n * m)
  (h : DataW.trod enc P w base sp held fuel t cs = some (.agg (zss.map (Lib.tabData k)), p)) : cs = zss.flatten.map (Value.int k) := by
 obtain ⟨xs, f, rfl, hx, hl, hn, hel⟩ := DataW.trod_array ht h
 rw [hce] at hel
 have hxs : xs.map (·.1) = zss.map (Lib.tabData k) := by
  have := (Prod.mk.inj hx).1
  simpa using this.symm
 have hlen : zss.length = n := by
  have := congrArg List.length hxs
  simp at this
  omega
 rw [List.map_flatten]
 refine chunks (m := m) _ cs (by rw [hl, hct, List.length_map, hlen]) (fun i z hi => ?_)
 rw [List.getElem?_map] at hi
 obtain ⟨zs, hz, rfl⟩ := Option.map_eq_some_iff.1 hi
 have hin : i < n := by
  have := (List.getElem?_eq_some_iff.1 hz).1
  omega
 have hE := hel i hin
 have h2 : (xs.map (·.1))[i]? = some (Lib.tabData k zs) := by rw [hxs, List.getElem?_map, hz]; rfl
 rw [List.getElem?_map] at h2
 obtain ⟨⟨d0, q⟩, hq, e⟩ := Option.map_eq_some_iff.1 h2
 cases e
 rw [hq] at hE
 exact Lib.cells_of_tab he hd hcd hce hE
def Holds (W : World) (g : Nat) (k : IntKind) (zs : List Int) : Prop := ∃ t fz, W.heap[g]? = some (.cells (iv k zs).toArray t fz)
theorem holds_var {W : World} {name : String} {g : Nat} {k : IntKind} {zs : List Int} (hg : Tryz.prog.globalNamed name = some g) (h : W.var? Tryz.prog name = some (iv k zs).toArray) : Holds W g k zs := by
 simp only [World.var?, hg, Option.bind_some] at h
 split at h
 ·rename_i cs t fz hW
  simp only [Option.some.injEq] at h
  subst h
  exact ⟨t, fz, hW⟩
 ·cases h
theorem holds_flat {W : World} {l : List (String × DataW Unit)} (h : laidMet Tryz.prog l W) {name : String} {k : IntKind} {zs : List Int} {g : Nat} {t e : TypeId} {n : Nat}
  (hg : Tryz.prog.globalNamed name = some g) (hty : (Tryz.prog.globals[g]?).map (·.type) = some t) (ht : Tryz.prog.underlying t = some (.array n e)) (he : Tryz.prog.underlying e = some (.int k)) (hce : Tryz.prog.cellsOf e = 1) (hct : Tryz.prog.cellsOf t = n)
  (hf : l.filter (fun x => x.1 == name) = [(name, Lib.tabData k zs)]) : Holds W g k zs := by
 have := h.filter (fun x => x.1 == name)
 rw [hf] at this
 exact holds_var hg (Lib.tabIs_of_head hg hty ht he hce hct this)
theorem holds_nest {W : World} {l : List (String × DataW Unit)} (h : laidMet Tryz.prog l W) {name : String} {k : IntKind} {zss : List (List Int)} {zs : List Int} {g : Nat} {t e d : TypeId} {n m : Nat}
  (hg : Tryz.prog.globalNamed name = some g) (hty : (Tryz.prog.globals[g]?).map (·.type) = some t) (ht : Tryz.prog.underlying t = some (.array n e)) (he : Tryz.prog.underlying e = some (.array m d)) (hd : Tryz.prog.underlying d = some (.int k)) (hcd : Tryz.prog.cellsOf d = 1) (hce : Tryz.prog.cellsOf e = m) (hct : Tryz.prog.cellsOf t = n * m)
  (hf : l.filter (fun x => x.1 == name) = [(name, .agg (zss.map (Lib.tabData k)))]) (hz : zss.flatten = zs) : Holds W g k zs := by
 have := h.filter (fun x => x.1 == name)
 rw [hf] at this
 obtain ⟨ps, ⟨g', t', cs, fuel, p, q, hg', ht', hvar, hdd, _, _⟩, _⟩ := this
 obtain rfl := Option.some.inj (hg.symm.trans hg')
 obtain rfl := Option.some.inj (hty.symm.trans ht')
 refine holds_var hg ?_
 rw [hvar, ← hz]
 congr 1
 apply Array.toList_inj.1
 rw [cells_of_tab2 ht he hd hcd hce hct hdd]
 rfl
theorem typ_of {W : World} (h : W.ShapedOpen Tryz.prog) {g : Nat} {t : TypeId} {k : IntKind} {zs : List Int} (hH : Holds W g k zs) (hg : g < Tryz.prog.globals.size)
  (ht : (((begin Tryz.prog (fun _ _ => 0) default).world.heap[g]?).bind Obj.row?).map (·.2) = some t) : ∃ fz, W.heap[g]? = some (.cells (iv k zs).toArray t fz) := by
 obtain ⟨t', fz, hW⟩ := hH
 obtain ⟨⟨z, t0⟩, hz, rfl⟩ := Option.map_eq_some_iff.1 ht
 obtain ⟨cs, hc, -, -⟩ := h.1 g z t0 hg hz
 rw [hW] at hc
 cases hc
 exact ⟨_, hW⟩
def locG : Loc := fun g => match gl[g]? with
 | some b => gspot g b
 | none => gspot g .dead
def fmW (W : World) : Fm := fun b => match W.heap[b]? with
 | some (.cells cs _ _) => some cs.toList
 | _ => none
theorem fmW_ok (W : World) : FmOk (fmW W) W := by
 intro b l h
 unfold fmW at h
 split at h
 ·rename_i cs t fz hW
  simp only [Option.some.injEq] at h
  subst h
  exact ⟨[], t, fz, by rw [hW]; simp⟩
 ·cases h
theorem fmW_at {W : World} {b : Nat} {cs : Array Value} {t : TypeId} {fz : Nat × Nat} (h : W.heap[b]? = some (.cells cs t fz)) : fmW W b = some cs.toList := by
 unfold fmW
 rw [h]
theorem blk_glob {W : World} {g : Nat} {t : TypeId} {k : IntKind} {n : Nat} {zs : List Int} {lk : Lk} (hg : gl[g]? = some (.cells false t [.row true true k n zs])) (hn : zs.length = n) (hw : wfs k zs)
  (hW : ∃ fz, W.heap[g]? = some (.cells (iv k zs).toArray t fz)) : BlkOk locG (fmW W) lk W g (.cells false t [.row true true k n zs]) := by
 obtain ⟨fz, hW⟩ := hW
 have hl : locG g = gspot g (.cells false t [.row true true k n zs]) := by
  unfold locG
  rw [hg]
 refine ⟨iv k zs, ⟨iv k zs, [], by simp, ⟨rfl, hn, hw⟩, rfl⟩, by rw [hl]; exact ⟨rfl, rfl, rfl⟩, ?_⟩
 rw [hl]
 refine ⟨[], fz, by rw [List.append_nil]; exact hW, fun h => (by cases h), fun _ => ?_⟩
 show fmW W g = _
 rw [fmW_at hW]
 simp
theorem open_fz {H : Type} {enc : TypeId × Value → H} {W : World} {v : Value} {d : DataW H} {p : List MemPlace} {sp : Nat → Bool} {held : Bool} {b0 : Nat} {t e : TypeId} {k : IntKind} {b1 : Nat} (ht : Tryz.prog.underlying t = some (.slice e)) (he : Tryz.prog.underlying e = some (.int k)) (hc : Tryz.prog.cellsOf e = 1)
  (hlw : ∀ n : Int, (Lit.int k n).wf = true → wf k n)
  (hval : Value.okWide Tryz.prog W .any b1 t v) (h : DataW.Trod enc Tryz.prog W b0 sp held t v d p) : ∃ xs : List Int, wfs k xs ∧ FzS (fmW W) xs.length (iv k xs) v := by
 obtain ⟨a, len, cap, rfl⟩ := okWide_slice ht hval
 obtain ⟨fuel, hf⟩ := h
 rcases open_ints ht he hc hf with ⟨hcs, _⟩ | ⟨x, l, c, zs, hcs, _, hl, hm, hz, _, hcell, hwz⟩
 ·simp [Value.cells] at hcs
  obtain ⟨rfl, rfl, rfl⟩ := hcs
  exact ⟨[], fun x hx => (by cases hx), none, 0, rfl, Nat.le_refl _, by decide, fun h => absurd h (Nat.lt_irrefl _)⟩
 ·simp [Value.cells] at hcs
  obtain ⟨rfl, rfl, rfl⟩ := hcs
  have hzl : len ≤ zs.length := by
   rw [hz]
   split <;> omega
  have hlen : (zs.take len).length = len := by rw [List.length_take]; omega
  have hmax : maxLen = 9223372036854775807 := by decide
  refine ⟨zs.take len, fun y hy => hlw y (hwz y (List.mem_of_mem_take hy)), some x, cap, by rw [hlen], by rw [hlen]; exact hl, by show cap < 9223372036854775808; omega, fun h0 => ?_⟩
  rw [hlen] at h0
  have hc0 := hcell 0 (by omega)
  rw [Addr.add, if_pos rfl] at hc0
  unfold World.cell? at hc0
  split at hc0
  case h_2 => cases hc0
  rename_i cs t0 fz hW
  have hspot : x.spot = none := by
   cases hx : x.spot with
   | none => rfl
   | some s => simp [hx] at hc0
  have hadd : ∀ j, x.add j = ⟨x.block, x.off + j, none⟩ := by
   intro j
   unfold Addr.add
   split
   ·rename_i hj
    subst hj
    obtain ⟨b, o, s⟩ := x
    simp only at hspot
    subst hspot
    rfl
   ·rfl
  have hx : x = ⟨x.block, x.off, none⟩ := by
   obtain ⟨b, o, s⟩ := x
   simp only at hspot
   subst hspot
   rfl
  refine ⟨x.block, x.off, cs.toList, by rw [← hx], fmW_at hW, ?_⟩
  rw [iv_length, hlen]
  apply List.ext_getElem?
  intro j
  by_cases hj : j < len
  ·have hcj := hcell j (by omega)
   rw [hadd, World.cell?, hW] at hcj
   simp only [Option.isSome_none, Bool.false_eq_true, if_false] at hcj
   rw [List.getElem?_take, if_pos hj, List.getElem?_drop, Array.getElem?_toList, hcj]
   unfold iv
   rw [List.getElem?_map, List.getElem?_take, if_pos hj, List.getD]
   have : j < zs.length := by omega
   rw [List.getElem?_eq_getElem this]
   rfl
  ·rw [List.getElem?_eq_none (by rw [List.length_take]; omega), List.getElem?_eq_none (by rw [iv_length]; omega)]
theorem lw_u8 (n : Int) (h : (Lit.int .u8 n).wf = true) : wf .u8 n := by
 simp only [Lit.wf, Bool.and_eq_true, IntKind.min, IntKind.max] at h
 rw [wf_u8]
 simp [IntKind.signed, IntKind.bits] at h
 omega
theorem lw_i64 (n : Int) (h : (Lit.int .i64 n).wf = true) : wf .i64 n := by
 simp only [Lit.wf, Bool.and_eq_true, IntKind.min, IntKind.max] at h
 rw [wf_i64]
 simp [IntKind.signed, IntKind.bits] at h
 omega
def glZ (g : Nat) : List Int := match gl[g]? with
 | some (.cells _ _ [.row _ _ _ _ zs]) => zs
 | _ => []
def chop (m : Nat) : Nat → List Int → List (List Int)
 | 0, _ => []
 | n + 1, l => l.take m :: chop m n (l.drop m)
theorem wfs_of {k : IntKind} {zs : List Int} (h : zs.all (fun x => k.wrap x == x) = true) : wfs k zs := by
 intro x hx
 have := List.all_eq_true.1 h x hx
 exact eq_of_beq this
abbrev laidR : List (String × DataW Unit) := Rows.topTurnedRow.laid
abbrev Met (W : World) : Prop := laidMet Tryz.prog laidR W
theorem met_of {W : World} (h : laidMetH Tryz.prog laidR W) : Met W := h
theorem holds0 {W : World} (h : Met W) : Holds W 0 .u8 (glZ 0) :=
 holds_flat h (name := "sheave/ladder.begin") (by kernel_rfl) (by kernel_rfl) Tryz.underlying27 Tryz.underlying5 (by kernel_rfl) (by kernel_rfl) (by kernel_rfl)
theorem holds1 {W : World} (h : Met W) : Holds W 1 .u8 (glZ 1) :=
 holds_flat h (name := "sheave/ladder.small") (by kernel_rfl) (by kernel_rfl) Tryz.underlying27 Tryz.underlying5 (by kernel_rfl) (by kernel_rfl) (by kernel_rfl)
theorem holds2 {W : World} (h : Met W) : Holds W 2 .u64 (glZ 2) :=
 holds_flat h (name := "sheave/curve.prime") (by kernel_rfl) (by kernel_rfl) Tryz.underlying280 Tryz.underlying233 (by kernel_rfl) (by kernel_rfl) (by kernel_rfl)
theorem holds3 {W : World} (h : Met W) : Holds W 3 .u32 (glZ 3) :=
 holds_flat h (name := "sheave/blake.start") (by kernel_rfl) (by kernel_rfl) Tryz.underlying325 Tryz.underlying266 (by kernel_rfl) (by kernel_rfl) (by kernel_rfl)
theorem holds4 {W : World} (h : Met W) : Holds W 4 .u32 (glZ 4) :=
 holds_flat h (name := "sheave/chacha.head") (by kernel_rfl) (by kernel_rfl) Tryz.underlying338 Tryz.underlying266 (by kernel_rfl) (by kernel_rfl) (by kernel_rfl)
theorem holds8 {W : World} (h : Met W) : Holds W 8 .u64 (glZ 8) :=
 holds_flat h (name := "internal/strconv.uint64pow10") (by kernel_rfl) (by kernel_rfl) Tryz.underlying376 Tryz.underlying233 (by kernel_rfl) (by kernel_rfl) (by kernel_rfl)
theorem holds10 {W : World} (h : Met W) : Holds W 10 .u64 (glZ 10) :=
 holds_flat h (name := "sheave/clamp.prime") (by kernel_rfl) (by kernel_rfl) Tryz.underlying367 Tryz.underlying233 (by kernel_rfl) (by kernel_rfl) (by kernel_rfl)
theorem holds11 {W : World} (h : Met W) : Holds W 11 .u8 (glZ 11) :=
 holds_flat h (name := "math/bits.deBruijn32tab") (by kernel_rfl) (by kernel_rfl) Tryz.underlying26 Tryz.underlying5 (by kernel_rfl) (by kernel_rfl) (by kernel_rfl)
theorem holds12 {W : World} (h : Met W) : Holds W 12 .u8 (glZ 12) :=
 holds_flat h (name := "math/bits.deBruijn64tab") (by kernel_rfl) (by kernel_rfl) Tryz.underlying309 Tryz.underlying5 (by kernel_rfl) (by kernel_rfl) (by kernel_rfl)
theorem holds5 {W : World} (h : Met W) : Holds W 5 .i64 (glZ 5) :=
 holds_nest h (name := "sheave/chacha.round") (zss := chop 4 ((glZ 5).length / 4) (glZ 5)) (by kernel_rfl) (by kernel_rfl) Tryz.underlying341 Tryz.underlying340 Tryz.underlying3 (by kernel_rfl) (by kernel_rfl) (by kernel_rfl) (by kernel_rfl) (by kernel_rfl)
theorem holds6 {W : World} (h : Met W) : Holds W 6 .u8 (glZ 6) :=
 holds_nest h (name := "sheave/blake.rows") (zss := chop 16 ((glZ 6).length / 16) (glZ 6)) (by kernel_rfl) (by kernel_rfl) Tryz.underlying359 Tryz.underlying262 Tryz.underlying5 (by kernel_rfl) (by kernel_rfl) (by kernel_rfl) (by kernel_rfl) (by kernel_rfl)
theorem holds7 {W : World} (h : Met W) : Holds W 7 .u8 (glZ 7) :=
 holds_nest h (name := "sheave/blake.places") (zss := chop 4 ((glZ 7).length / 4) (glZ 7)) (by kernel_rfl) (by kernel_rfl) Tryz.underlying361 Tryz.underlying360 Tryz.underlying5 (by kernel_rfl) (by kernel_rfl) (by kernel_rfl) (by kernel_rfl) (by kernel_rfl)
theorem glSize : gl.length ≤ Tryz.prog.globals.size := of_decide_eq_true (by kernel_rfl)
theorem blk_at {W : World} (hs : W.ShapedOpen Tryz.prog) {lk : Lk} {g : Nat} {t : TypeId} {k : IntKind} {n : Nat} (hg : gl[g]? = some (.cells false t [.row true true k n (glZ g)])) (hn : (glZ g).length = n) (hw : (glZ g).all (fun x => k.wrap x == x) = true)
  (ht : (((begin Tryz.prog (fun _ _ => 0) default).world.heap[g]?).bind Obj.row?).map (·.2) = some t) (hH : Holds W g k (glZ g)) {b : Blk} (hb : lkOf gl [] g = some b) : BlkOk locG (fmW W) lk W g b := by
 have hlt := (List.getElem?_eq_some_iff.1 hg).1
 unfold lkOf at hb
 rw [if_pos hlt, hg] at hb
 cases hb
 exact blk_glob hg hn (wfs_of hw) (typ_of hs hH (Nat.lt_of_lt_of_le hlt glSize) ht)
theorem hrel_gl {W : World} (h : Met W) (hs : W.ShapedOpen Tryz.prog) : HRel locG (fmW W) (lkOf gl []) W := by
 refine ⟨fun i b hb => ?_, fun i b hb hm => ?_, fmW_ok W⟩
 ·match i, hb with
  | 0, hb => exact blk_at hs (g := 0) (t := 27) (n := 32) (by kernel_rfl) (by kernel_rfl) (by kernel_rfl) (by kernel_rfl) (holds0 h) hb
  | 1, hb => exact blk_at hs (g := 1) (t := 27) (n := 32) (by kernel_rfl) (by kernel_rfl) (by kernel_rfl) (by kernel_rfl) (holds1 h) hb
  | 2, hb => exact blk_at hs (g := 2) (t := 280) (n := 4) (by kernel_rfl) (by kernel_rfl) (by kernel_rfl) (by kernel_rfl) (holds2 h) hb
  | 3, hb => exact blk_at hs (g := 3) (t := 325) (n := 8) (by kernel_rfl) (by kernel_rfl) (by kernel_rfl) (by kernel_rfl) (holds3 h) hb
  | 4, hb => exact blk_at hs (g := 4) (t := 338) (n := 4) (by kernel_rfl) (by kernel_rfl) (by kernel_rfl) (by kernel_rfl) (holds4 h) hb
  | 5, hb => exact blk_at hs (g := 5) (t := 341) (n := 32) (by kernel_rfl) (by kernel_rfl) (by kernel_rfl) (by kernel_rfl) (holds5 h) hb
  | 6, hb => exact blk_at hs (g := 6) (t := 359) (n := 160) (by kernel_rfl) (by kernel_rfl) (by kernel_rfl) (by kernel_rfl) (holds6 h) hb
  | 7, hb => exact blk_at hs (g := 7) (t := 361) (n := 32) (by kernel_rfl) (by kernel_rfl) (by kernel_rfl) (by kernel_rfl) (holds7 h) hb
  | 8, hb => exact blk_at hs (g := 8) (t := 376) (n := 20) (by kernel_rfl) (by kernel_rfl) (by kernel_rfl) (by kernel_rfl) (holds8 h) hb
  | 9, hb =>
   have e : lkOf gl [] 9 = some .dead := by kernel_rfl
   rw [e] at hb
   cases hb
   trivial
  | 10, hb => exact blk_at hs (g := 10) (t := 367) (n := 3) (by kernel_rfl) (by kernel_rfl) (by kernel_rfl) (by kernel_rfl) (holds10 h) hb
  | 11, hb => exact blk_at hs (g := 11) (t := 26) (n := 32) (by kernel_rfl) (by kernel_rfl) (by kernel_rfl) (by kernel_rfl) (holds11 h) hb
  | 12, hb => exact blk_at hs (g := 12) (t := 309) (n := 64) (by kernel_rfl) (by kernel_rfl) (by kernel_rfl) (by kernel_rfl) (holds12 h) hb
  | i + 13, hb =>
   unfold lkOf at hb
   rw [if_neg (by show ¬ i + 13 < 13; omega)] at hb
   simp at hb
 ·unfold lkOf at hb
  split at hb
  ·rw [gl_ro i b hb] at hm
   cases hm
  ·simp at hb
theorem call_row {W : World} (h : Met W) (hs : W.ShapedOpen Tryz.prog) {p : Int} {xs os : List Int} (hp : wf .i64 p) (hx : wfs .u8 xs) (ho : wfs .i64 os) {v1 v2 : Value} (h1 : FzS (fmW W) xs.length (iv .u8 xs) v1) (h2 : FzS (fmW W) os.length (iv .i64 os) v2) :
  Calls Tryz.prog 6 #[.int .i64 p, v1, v2] W fun e w' => e = .returned (.bool true) ∧ Below W.heap.size W w' := by
 have hC := turned_con (p := p) (xs := xs) (os := os) (fun x h => wf_u8.1 (hx x h)) locG (fmW W) W [.int .i64 p, v1, v2]
  ⟨_, _, rfl, ⟨rfl, hp⟩, _, _, rfl, ⟨v1, rfl, hx, h1⟩, _, _, rfl, ⟨v2, rfl, ho, h2⟩, rfl⟩ (hrel_gl h hs) (fun g b hg => by unfold locG; rw [hg])
 have hcalls : Calls Tryz.prog 6 #[.int .i64 p, v1, v2] W (Ends gl [] locG (fmW W) W ⟨.bool true true, []⟩) := by
  rcases hC with hC | ⟨v, w', hC, -⟩
  ·exact hC.2
  ·obtain ⟨c, hc⟩ : ∃ c, Tryz.f6.body = some c := Option.isSome_iff_exists.1 (by kernel_rfl)
   have := hC.symm.trans (run_callFunc (C := tc) Tryz.func6 hc (by decide +kernel))
   cases this
 refine hcalls.mono ?_
 rintro e w' ⟨v, loc', fm', rfl, hv, hL⟩
 have hv' : [v] = [Value.bool true] := hv
 cases hv'
 have hfr := hL.fr
 refine ⟨rfl, hfr.os, hfr.tape, hfr.output, hfr.size, fun k hk => hfr.block k hk ?_⟩
 rintro ⟨m, b, hm, -⟩
 simp at hm
theorem cells3 : Tryz.prog.cellsOf 3 = 1 := by kernel_rfl
theorem cells5 : Tryz.prog.cellsOf 5 = 1 := by kernel_rfl
theorem contract (H : Type) (enc : TypeId × Value → H) (W : World) (base : Nat) (args : Array Value) (ds gs : List (DataW H)) (before : List MemPlace)
  (hval : ∀ (j : Nat) t v, Tryz.f6.params[j]? = some t → args[j]? = some v → Value.okWide Tryz.prog W .any base t v)
  (hW : DataW.Whole enc Tryz.prog Tryz.f6.params.toList Rows.topTurnedSpec.vars false W args.toList ds gs before) (hL : laidMetH Tryz.prog Rows.topTurnedRow.laid W) (hS : W.ShapedOpen Tryz.prog) :
  Calls Tryz.prog 6 args W fun e W' => ∃ v, e = .returned v ∧ Rows.topTurnedSpec.post enc Tryz.prog Tryz.f6 false true false false W args v W' := by
 have hW' := hW
 obtain ⟨p, q, hA0, hV, rfl, hfz, hnd⟩ := hW
 have hA : DataW.TrodAll enc Tryz.prog W 0 (fun _ => true) true Tryz.f6.params.toList args.toList ds p := hA0
 rw [Tryz.params6] at hA hval
 obtain ⟨v0, vs0, d0, ds0, p0, q0, hargs, rfl, rfl, h0, r0⟩ := trodAll_cons hA
 obtain ⟨v1, vs1, d1, ds1, p1, q1, rfl, rfl, rfl, h1, r1⟩ := trodAll_cons r0
 obtain ⟨v2, vs2, d2, ds2, p2, q2, rfl, rfl, rfl, h2, r2⟩ := trodAll_cons r1
 obtain ⟨rfl, rfl, rfl⟩ := trodAll_nil r2
 obtain rfl : args = #[v0, v1, v2] := by cases args; simp_all
 obtain ⟨rfl, rfl⟩ := trodVars_none hV
 obtain ⟨z, rfl⟩ := okWide_int Tryz.underlying3 (hval 0 3 v0 rfl rfl)
 have hz : wf .i64 z := by
  obtain ⟨fuel, hf⟩ := h0
  obtain ⟨z', e1, -, e3⟩ := DataW.trod_int Tryz.underlying3 hf
  have ez : z = z' := by
   have : ([Value.int .i64 z] : List Value) = [.int .i64 z'] := by rw [← e1]; simp [Value.cells]
   simpa using this
  rw [ez]
  exact lw_i64 _ e3
 obtain ⟨xs, hx, f1⟩ := open_fz Tryz.underlying32 Tryz.underlying5 cells5 lw_u8 (hval 1 32 v1 rfl rfl) h1
 obtain ⟨os, ho, f2⟩ := open_fz Tryz.underlying41 Tryz.underlying3 cells3 lw_i64 (hval 2 41 v2 rfl rfl) h2
 have lt0 : ∀ x ∈ p0, x.block < W.heap.size := by obtain ⟨m, hm⟩ := h0; exact DataW.trod_lt m _ _ _ hm
 have lt1 : ∀ x ∈ p1, x.block < W.heap.size := by obtain ⟨m, hm⟩ := h1; exact DataW.trod_lt m _ _ _ hm
 have lt2 : ∀ x ∈ p2, x.block < W.heap.size := by obtain ⟨m, hm⟩ := h2; exact DataW.trod_lt m _ _ _ hm
 clear hA0
 refine (call_row (met_of hL) hS hz hx ho f1 f2).mono fun e W' ⟨he, bel⟩ => ?_
 subst he
 exact ⟨_, rfl, _, _, _, [], _, [], hW', trodAll_mk1 (shut_bool Tryz.underlying4 _), (trodAll_cons_mk (Below.trod rowLaidOut (by kernel_rfl) (of_decide_eq_true (by kernel_rfl)) h0 bel lt0) (trodAll_cons_mk (Below.trod rowLaidOut (by kernel_rfl) (of_decide_eq_true (by kernel_rfl)) h1 bel lt1) (trodAll_cons_mk (Below.trod rowLaidOut (by kernel_rfl) (of_decide_eq_true (by kernel_rfl)) h2 bel lt2) trodAll_mk0))), rfl, bel.frame _, fun h => by cases h⟩
def layV (cs : Array Value) : Obj → Obj
 | .cells _ t frozen => .cells cs t frozen
 | o => o
def layG (h : Array Obj) (g : Nat) : Array Obj := match gl[g]? with
 | some (.cells _ _ [.row _ _ k _ zs]) => h.modify g (layV (iv k zs).toArray)
 | _ => h
abbrev argW : Array Value := #[.int .i64 0, .slice none 0 0, .slice none 0 0]
noncomputable def laidWorld (os : Os) : World :=
 { World.holding Tryz.prog os ⟨#[], #[], []⟩ with heap := [0, 1, 2, 3, 4, 5, 6, 7, 8, 10, 11, 12].foldl layG (World.holding Tryz.prog os ⟨#[], #[], []⟩).heap }
theorem laid_met (os : Os) : laidMet Tryz.prog Rows.topTurnedRow.laid ((laidWorld os).forCall (fun _ _ => 0) ⟨#[], argW, []⟩).memory :=
 laidMet_of_run' 8 (by kernel_rfl) (by kernel_rfl)
theorem reads (os : Os) (H : Type) (enc : TypeId × Value → H) : ∃ places, DataW.whole enc Tryz.prog ((laidWorld os).forCall (fun _ _ => 0) ⟨#[], argW, []⟩).memory Tryz.f6.params.toList Rows.topTurnedSpec.vars false argW.toList 8 = some ([.lit (.int .i64 0), .nil, .nil], [], places) :=
 ⟨[], by kernel_rfl⟩
theorem lifted (os : Os) (started : os.Started) (H : Type) (enc : TypeId × Value → H) (F : Stop.Interp) :
  ReturnsInHanded {} Tryz.checked os 6 .any ((OpenSpec.ofChange Rows.topTurnedSpec).preRow enc Tryz.prog Tryz.f6 Rows.topTurnedRow.domain false Rows.topTurnedRow.laid) (((OpenSpec.ofChange Rows.topTurnedSpec).at F).post enc Tryz.prog Tryz.f6 false true false false) := by
 obtain ⟨places, hx⟩ := reads os H enc
 refine returnsInHanded_of_row (C := Tryz.checked) (s := OpenSpec.ofChange Rows.topTurnedSpec) rowOwn started (by kernel_rfl) Tryz.func6
  (witness_row_at (enc := enc) (C := Tryz.checked) false (laidWorld os) argW rfl (by kernel_rfl) (by kernel_rfl) (by kernel_rfl)
   (OpenSpec.preRow_of_cond 8 hx (by kernel_rfl) (fun k hk => by cases hk) (by kernel_rfl) (laid_met os))) ?_
 intro W base args ds gs before hval hW _ _ _ hL hS _
 exact contract H enc W base args ds gs before hval hW hL hS
abbrev rowS : ChangeSpec := (OpenSpec.ofChange Rows.topTurnedSpec).bare
abbrev rowC : OpenClaim := Rows.topTurnedRow
theorem andT {a b : Bool} (ha : a = true) (hb : b = true) : (a && b) = true := by rw [ha, hb]; rfl
theorem fact0 : (rowC.wf (OpenSpec.ofChange rowS) : Bool) = true := by kernel_rfl
theorem fact1 : (laidOutB Tryz.prog : Bool) = true := by kernel_rfl
theorem fact2 : (mapsRowed Tryz.prog : Bool) = true := by kernel_rfl
theorem fact3 : (Tryz.f6.params.all (Tryz.prog.readableRec ·) : Bool) = true := by kernel_rfl
theorem fact4 : (namedTie Tryz.prog rowC.named rowS.vars : Bool) = true := by kernel_rfl
theorem fact5 : ((rowC.stops == []) : Bool) = true := by kernel_rfl
theorem fact6 : ((Tryz.prog.stops == []) : Bool) = true := by kernel_rfl
theorem fact7 : ((rowC.knobs == []) : Bool) = true := by kernel_rfl
theorem fact8 : ((Tryz.prog.stopKnobs == []) : Bool) = true := by kernel_rfl
theorem fact9 : ((rowC.inPlace == Tryz.prog.inPlace 6) : Bool) = true := by kernel_rfl
theorem fact10 : ((rowC.unfollowed == Tryz.prog.unfollowed 6) : Bool) = true := by kernel_rfl
theorem fact11 : ((rowC.recurses == Tryz.prog.recurses 6) : Bool) = true := by kernel_rfl
theorem fact12 : ((rowC.named == Tryz.prog.varsNamed 6) : Bool) = true := by kernel_rfl
theorem fact13 : ((rowC.maps == (Tryz.f6.params.toList ++ rowS.plain.varTypes Tryz.prog).any (Tryz.prog.mapsRec ·)) : Bool) = true := by kernel_rfl
theorem fact14 : ((rowC.ifaces == (Tryz.f6.params.toList ++ rowS.plain.varTypes Tryz.prog).any (Tryz.prog.ifacesRec ·)) : Bool) = true := by kernel_rfl
theorem fact15 : ((rowC.mapsOut == Tryz.prog.mapsAmong Tryz.f6.resultTypes.toList) : Bool) = true := by kernel_rfl
theorem fact16 : ((rowC.loops == (Tryz.f6.params.toList ++ rowS.plain.varTypes Tryz.prog).any (Tryz.prog.loopsFrom ·)) : Bool) = true := by kernel_rfl
theorem fact17 : ((rowC.wideKeys == (Tryz.f6.params.toList ++ rowS.plain.varTypes Tryz.prog ++ Tryz.f6.resultTypes.toList).any (Tryz.prog.wideKeysFrom ·)) : Bool) = true := by kernel_rfl
theorem fact18 : (rowS.vars.all (Tryz.prog.varReadable ·) : Bool) = true := by kernel_rfl
theorem fact19 : (Tryz.f6.resultTypes.all (fun t => Tryz.prog.readableRec t && decide (t < Tryz.prog.types.size)) : Bool) = true := by kernel_rfl
theorem fact20 : ((rowC.ifacesOut == Tryz.f6.resultTypes.toList.any (Tryz.prog.ifacesRec ·)) : Bool) = true := by kernel_rfl
theorem fact21 : ((rowC.loopsOut == Tryz.f6.resultTypes.toList.any (Tryz.prog.loopsFrom ·)) : Bool) = true := by kernel_rfl
theorem fact22 : ((rowC.plainKeys == Tryz.prog.plainKeys) : Bool) = true := by kernel_rfl
theorem fact23 : (rowC.shortTexts.isNone : Bool) = true := by kernel_rfl
theorem fact24 : (Tryz.prog.stopsHeard : Bool) = true := by kernel_rfl
theorem fact25 : (Tryz.prog.mayEnter : Bool) = true := by kernel_rfl
theorem fact26 : ((rowC.lifted == Tryz.prog.liftsFinal) : Bool) = true := by kernel_rfl
theorem fact27 : ((Tryz.prog.make == some rowC.make) : Bool) = true := by kernel_rfl
theorem fact28 : ((rowC.kinds == (if rowC.domain.isEmpty then [] else Tryz.f6.params.toList.map fun t => match Tryz.prog.underlying t with | some (.int k) => some k | _ => none)) : Bool) = true := by kernel_rfl
theorem fact29 : ((rowC.pinned == rowC.pinnedBy) : Bool) = true := by kernel_rfl
theorem fact30 : ((rowC.veiled == (Tryz.f6.params.toList ++ rowS.plain.varTypes Tryz.prog ++ Tryz.f6.resultTypes.toList).any (Tryz.prog.veiledRec ·)) : Bool) = true := by kernel_rfl
theorem fact31 : (rowC.veiledFits Tryz.prog Tryz.f6.params.toList (Tryz.f6.params.toList ++ rowS.plain.varTypes Tryz.prog ++ Tryz.f6.resultTypes.toList) : Bool) = true := by kernel_rfl
theorem closedT : joinedFacts Tryz.prog 6 Tryz.f6 rowS rowC = true := andT (andT (andT (andT (andT (andT (andT (andT (andT (andT (andT (andT (andT (andT (andT (andT (andT (andT (andT (andT (andT (andT (andT (andT (andT (andT (andT (andT (andT (andT (andT fact0 fact1) fact2) fact3) fact4) fact5) fact6) fact7) fact8) fact9) fact10) fact11) fact12) fact13) fact14) fact15) fact16) fact17) fact18) fact19) fact20) fact21) fact22) fact23) fact24) fact25) fact26) fact27) fact28) fact29) fact30) fact31
theorem said : Rows.TopTurnedSaid :=
 OpenClaim.holds_of_cond 6 Tryz.f6 rfl rfl rfl rfl rfl rfl rfl ⟨rfl, rfl, rfl, rfl, rfl⟩ rfl rfl rfl rfl rfl (by kernel_rfl) Tryz.func6 closedT
  (of_decide_eq_true (by kernel_rfl)) (by unfold Func.isWrapper; first | (rw [if_pos (by decide +kernel)]; kernel_rfl) | (rw [if_neg (by decide +kernel)]; exact ⟨rfl, rfl⟩))
  (fun os started H enc _ F => by rw [OpenClaim.pre_eq_preRow]; exact lifted os started H enc F)
theorem plain (f : FuncId) (fn : Func) (hf : Tryz.pinned.checked.prog.funcNamed "sheave/sheavetop.TopTurned" = some f) (hfn : Tryz.pinned.checked.prog.funcs[f]? = some fn) :
  true = Tryz.pinned.checked.prog.looks [] ∧ ∀ (j : Nat) t, fn.params[j]? = some t → Tryz.pinned.checked.prog.wantsStandIn t = false := by
 obtain rfl : f = 6 := Option.some.inj ((show Tryz.prog.funcNamed "sheave/sheavetop.TopTurned" = some 6 by kernel_rfl).symm.trans hf) |>.symm
 obtain rfl : fn = Tryz.f6 := (Option.some.inj (Tryz.func6.symm.trans hfn)).symm
 refine ⟨by kernel_rfl, fun j t ht => ?_⟩
 rw [Tryz.params6] at ht
 have hm := Array.mem_of_getElem? ht
 simp only [List.mem_toArray, List.mem_cons, List.not_mem_nil, or_false] at hm
 rcases hm with rfl | rfl | rfl
 ·exact (show Tryz.prog.wantsStandIn 3 = false by kernel_rfl)
 ·exact (show Tryz.prog.wantsStandIn 32 = false by kernel_rfl)
 ·exact (show Tryz.prog.wantsStandIn 41 = false by kernel_rfl)
theorem card : Rows.TopTurnedCardSaid :=
 Claim7.holds_tied_plain_at .later [] _ _ _ _ said (fun _ h => by cases h) (by kernel_rfl) (fun _ h => by cases h) topTurned_row_tie rfl ⟨rfl, rfl⟩ (by kernel_rfl) rfl plain (by kernel_rfl)
end Go.Proofs.YtiojkpgcmhlhnaaGreatDoor.Ty
