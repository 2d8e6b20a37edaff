/-
  The document's Add, Sub, Mul: their contracts.
-/
import Derived.Test.YtechbdggjfahhaaDoorCurveRefD
namespace Go.Proofs.YtechbdggjfahhaaDoor.Sx
open Go
set_option maxRecDepth 100000

/-! ### Add, Sub -/

def addD : List Int → List Int → List Int
  | x :: l, y :: m => WI (x + y) :: addD l m
  | _, _ => []

def subD : Int → List Int → List Int → List Int
  | i, x :: l, y :: m => WI (WI (x + WI (4 * pd i)) - y) :: subD (i + 1) l m
  | _, _, _ => []

theorem radd_run (l m : List Int) : plainRun (mk ref1F) Tryd.f27 600 [.agg .u8 (tab 32 l), .agg .u8 (tab 32 m)] =
    some (.agg .u8 (bytesOf 32 (dnum 16 (addD (digsOf 16 16 (num (tab 32 l))) (digsOf 16 16 (num (tab 32 m))) ++ zeros 16) % p25)), (addD (digsOf 16 16 (num (tab 32 l))) (digsOf 16 16 (num (tab 32 m))) ++ zeros 16).map okD) := by kernel_rfl

theorem rsub_run (l m : List Int) : plainRun (mk ref1F) Tryd.f28 600 [.agg .u8 (tab 32 l), .agg .u8 (tab 32 m)] =
    some (.agg .u8 (bytesOf 32 (dnum 16 (subD 0 (digsOf 16 16 (num (tab 32 l))) (digsOf 16 16 (num (tab 32 m))) ++ zeros 16) % p25)), (subD 0 (digsOf 16 16 (num (tab 32 l))) (digsOf 16 16 (num (tab 32 m))) ++ zeros 16).map okD) := by kernel_rfl

theorem addD_law : ∀ (l m : List Int), l.length = m.length → (∀ x ∈ l, 0 ≤ x ∧ x < 65536) → (∀ x ∈ m, 0 ≤ x ∧ x < 65536) → (∀ x ∈ addD l m, okD x) ∧ (addD l m).length = l.length ∧ dnum 16 (addD l m) = dnum 16 l + dnum 16 m
  | [], [], _, _, _ => ⟨by simp [addD], rfl, rfl⟩
  | [], y :: m, h, _, _ => by simp at h
  | x :: l, [], h, _, _ => by simp at h
  | x :: l, y :: m, h, hl, hm => by
    obtain ⟨h1, h2, h3⟩ := addD_law l m (by simpa using h) (fun z hz => hl z (by simp [hz])) (fun z hz => hm z (by simp [hz]))
    have hx := hl x (by simp)
    have hy := hm y (by simp)
    have e : WI (x + y) = x + y := WIw _ (by omega) (by omega)
    refine ⟨fun z hz => ?_, by simp [addD, h2], ?_⟩
    · simp only [addD, List.mem_cons] at hz
      rcases hz with rfl | hz
      · rw [e]; constructor <;> omega
      · exact h1 z hz
    · simp only [addD, dnum, e, h3, p16]
      omega

/-- p's digits from one on. -/
def pds (i : Int) : Nat → List Int
  | 0 => []
  | n + 1 => pd i :: pds (i + 1) n

theorem subD_law : ∀ (l m : List Int) (i : Int), l.length = m.length → (∀ x ∈ l, 0 ≤ x ∧ x < 65536) → (∀ x ∈ m, 0 ≤ x ∧ x < 65536) →
    (∀ x ∈ subD i l m, okD x) ∧ (subD i l m).length = l.length ∧ dnum 16 (subD i l m) = dnum 16 l + 4 * dnum 16 (pds i l.length) - dnum 16 m
  | [], [], _, _, _, _ => ⟨by simp [subD], rfl, rfl⟩
  | [], y :: m, _, h, _, _ => by simp at h
  | x :: l, [], _, h, _, _ => by simp at h
  | x :: l, y :: m, i, h, hl, hm => by
    obtain ⟨h1, h2, h3⟩ := subD_law l m (i + 1) (by simpa using h) (fun z hz => hl z (by simp [hz])) (fun z hz => hm z (by simp [hz]))
    have hx := hl x (by simp)
    have hy := hm y (by simp)
    have hp := pd_range i
    have hp1 : 32767 ≤ pd i := by
      unfold pd
      split
      · decide
      · split <;> decide
    have e : WI (WI (x + WI (4 * pd i)) - y) = x + 4 * pd i - y := by rw [WIw (4 * pd i) (by omega) (by omega), WIw (x + 4 * pd i) (by omega) (by omega), WIw _ (by omega) (by omega)]
    refine ⟨fun z hz => ?_, by simp [subD, h2], ?_⟩
    · simp only [subD, List.mem_cons] at hz
      rcases hz with rfl | hz
      · rw [e]; constructor <;> omega
      · exact h1 z hz
    · simp only [subD, dnum, e, h3, p16, List.length_cons, pds]
      omega

theorem z16_ok : ∀ x ∈ zeros 16, okD x := fun x hx => by
  have := List.eq_of_mem_replicate hx
  constructor <;> omega

theorem z16_dnum : dnum 16 (zeros 16) = 0 := by decide
theorem digsOf16_length (n : Int) : (digsOf 16 16 n).length = 16 := digsFrom_length _ _ _ _

theorem digs_dnum (n : Int) (h : 0 ≤ n ∧ n < 115792089237316195423570985008687907853269984665640564039457584007913129639936) : dnum 16 (digsOf 16 16 n) = n := by
  rw [dnum_digsOf, p256]
  exact Int.emod_eq_of_lt h.1 h.2

theorem radd_ok : FnOk Tryd.prog gl 27 fAdd := by
  refine fnOk_F2o (C := mk ref1F) (mk_ok ref1F_ok) Tryd.func27 (by kernel_rfl) rfl (by kernel_rfl) (fun l m hl hm hw hw' => ?_)
  have run := radd_run l m
  rw [tab_eq 32 l hl, tab_eq 32 m hm] at run
  obtain ⟨h1, h2, h3⟩ := addD_law (digsOf 16 16 (num l)) (digsOf 16 16 (num m)) (by rw [digsOf16_length, digsOf16_length]) (dig16_range _) (dig16_range _)
  refine ⟨600, _, _, run, ?_, holds_map (fun x hx => ?_)⟩
  · rw [dnum_append, z16_dnum, Int.mul_zero, Int.add_zero, h3, digs_dnum _ (num32_range hl hw), digs_dnum _ (num32_range hm hw')]
    rfl
  · rcases List.mem_append.1 hx with hx | hx
    · exact h1 x hx
    · exact z16_ok x hx

theorem pds16 : dnum 16 (pds 0 16) = p25 := by decide

theorem rsub_ok : FnOk Tryd.prog gl 28 fSub := by
  refine fnOk_F2o (C := mk ref1F) (mk_ok ref1F_ok) Tryd.func28 (by kernel_rfl) rfl (by kernel_rfl) (fun l m hl hm hw hw' => ?_)
  have run := rsub_run l m
  rw [tab_eq 32 l hl, tab_eq 32 m hm] at run
  obtain ⟨h1, h2, h3⟩ := subD_law (digsOf 16 16 (num l)) (digsOf 16 16 (num m)) 0 (by rw [digsOf16_length, digsOf16_length]) (dig16_range _) (dig16_range _)
  refine ⟨600, _, _, run, ?_, holds_map (fun x hx => ?_)⟩
  · rw [dnum_append, z16_dnum, Int.mul_zero, Int.add_zero, h3, digs_dnum _ (num32_range hl hw), digs_dnum _ (num32_range hm hw'), digsOf16_length, pds16]
    have : num l + 4 * p25 - num m = num l - num m + p25 * 4 := by omega
    rw [this, Int.add_mul_emod_self_left]
    rfl
  · rcases List.mem_append.1 hx with hx | hx
    · exact h1 x hx
    · exact z16_ok x hx

/-! ### Mul -/

noncomputable def bodyM : Code := (Tryd.f29.body).getD .skip
noncomputable def loopM : Code := loopC (blkC (seqR (seqL (post 4 bodyM))))
noncomputable def endM : Code := seqR (post 4 bodyM)
theorem bodyM_eq : Tryd.f29.body = some bodyM := by kernel_rfl
theorem postM_eq : post 4 bodyM = .seq (.seq (seqL (seqL (post 4 bodyM))) (.block 0 (.loop loopM))) endM := by kernel_rfl

def tmM0 : List A := [.any, .any, .any, .any, .ptr (gn + 2) 0, .slc (gn + 3) 0 32 32, .slc (gn + 4) 0 32 32, .slc (gn + 5) 0 32 32] ++ List.replicate 38 .any
def tmM (i : Int) : List A := [.any, .any, .any, .any, .ptr (gn + 2) 0, .slc (gn + 3) 0 32 32, .slc (gn + 4) 0 32 32, .slc (gn + 5) 0 32 32, .int .i64 i] ++ List.replicate 37 .any
def hpM (X Y T : List Int) : Hp := glz ++ [(gn + 2, ⟨.u8, 23, List.replicate 32 0, true⟩), (gn + 3, ⟨.i64, 3, X ++ zeros 16, true⟩), (gn + 4, ⟨.i64, 3, Y ++ zeros 16, true⟩), (gn + 5, ⟨.i64, 3, T, true⟩)]

theorem preM_run (l m : List Int) : execF (mk ref1F) 200 (pre 4 bodyM) gn [4, 5, 6, 7] (gks ++ [gn + 2, gn + 3, gn + 4, gn + 5]) (s0 (mk ref1F) 46 [.agg .u8 (tab 32 l), .agg .u8 (tab 32 m)] []) =
    some (.normal, ⟨tmM0, hpM (digsOf 16 16 (num (tab 32 l))) (digsOf 16 16 (num (tab 32 m))) (List.replicate 32 0), []⟩) := by kernel_rfl
theorem iniM_run (X Y T : List Int) : execF (mk ref1F) 100 (seqL (seqL (post 4 bodyM))) gn [4, 5, 6, 7, 8] (gks ++ [gn + 2, gn + 3, gn + 4, gn + 5]) ⟨tmM0, hpM X Y T, []⟩ = some (.normal, ⟨tmM 0, hpM X Y T, []⟩) := by kernel_rfl

/-- One row of the long product. -/
def rowGo (i : Nat) (X Y : List Int) : Nat → List Int → List Int
  | 0, T => T
  | k + 1, T => (rowGo i X Y k T).set (i + k) (WI ((rowGo i X Y k T).getD (i + k) 0 + WI (X.getD i 0 * Y.getD k 0)))

def rdM (i : Nat) : Prop := ∀ (X Y T : List Int), execF (mk ref1F) 400 loopM gn [4, 5, 6, 7, 8] (gks ++ [gn + 2, gn + 3, gn + 4, gn + 5]) ⟨tmM (i : Int), hpM (tab 16 X) (tab 16 Y) (tab 32 T), []⟩ =
  some (.normal, ⟨tmM ((i + 1 : Nat) : Int), hpM (tab 16 X) (tab 16 Y) (rowGo i (tab 16 X) (tab 16 Y) 16 (tab 32 T)), []⟩)

theorem rdM_0 : rdM 0 := fun _ _ _ => by kernel_rfl
theorem rdM_1 : rdM 1 := fun _ _ _ => by kernel_rfl
theorem rdM_2 : rdM 2 := fun _ _ _ => by kernel_rfl
theorem rdM_3 : rdM 3 := fun _ _ _ => by kernel_rfl
theorem rdM_4 : rdM 4 := fun _ _ _ => by kernel_rfl
theorem rdM_5 : rdM 5 := fun _ _ _ => by kernel_rfl
theorem rdM_6 : rdM 6 := fun _ _ _ => by kernel_rfl
theorem rdM_7 : rdM 7 := fun _ _ _ => by kernel_rfl
theorem rdM_8 : rdM 8 := fun _ _ _ => by kernel_rfl
theorem rdM_9 : rdM 9 := fun _ _ _ => by kernel_rfl
theorem rdM_10 : rdM 10 := fun _ _ _ => by kernel_rfl
theorem rdM_11 : rdM 11 := fun _ _ _ => by kernel_rfl
theorem rdM_12 : rdM 12 := fun _ _ _ => by kernel_rfl
theorem rdM_13 : rdM 13 := fun _ _ _ => by kernel_rfl
theorem rdM_14 : rdM 14 := fun _ _ _ => by kernel_rfl
theorem rdM_15 : rdM 15 := fun _ _ _ => by kernel_rfl
theorem rdM_all : ∀ n, n < 16 → rdM n
  | 0, _ => rdM_0
  | 1, _ => rdM_1
  | 2, _ => rdM_2
  | 3, _ => rdM_3
  | 4, _ => rdM_4
  | 5, _ => rdM_5
  | 6, _ => rdM_6
  | 7, _ => rdM_7
  | 8, _ => rdM_8
  | 9, _ => rdM_9
  | 10, _ => rdM_10
  | 11, _ => rdM_11
  | 12, _ => rdM_12
  | 13, _ => rdM_13
  | 14, _ => rdM_14
  | 15, _ => rdM_15
  | n + 16, h => absurd h (by omega)

theorem stopM_run (X Y T : List Int) : execF (mk ref1F) 400 loopM gn [4, 5, 6, 7] (gks ++ [gn + 2, gn + 3, gn + 4, gn + 5]) ⟨tmM 16, hpM X Y T, []⟩ = some (.exit 0, ⟨tmM0, hpM X Y T, []⟩) := by kernel_rfl
theorem endM_run (X Y T : List Int) : endRes (mk ref1F) Tryd.f29 100 endM ⟨tmM0, hpM X Y (tab 32 T), []⟩ [] = some ⟨.agg .u8 (bytesOf 32 (dnum 16 (tab 32 T) % p25)), [], none, (tab 32 T).map okD⟩ := by kernel_rfl

end Go.Proofs.YtechbdggjfahhaaDoor.Sx
