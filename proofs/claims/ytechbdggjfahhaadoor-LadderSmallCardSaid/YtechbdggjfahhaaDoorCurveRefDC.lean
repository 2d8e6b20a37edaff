/-
  The document's Canon: its contract.
-/
import Derived.Test.YtechbdggjfahhaaDoorCurveRefD
namespace Go.Proofs.YtechbdggjfahhaaDoor.Sx
open Go
set_option maxRecDepth 100000

theorem rcanon_run (l : List Int) : plainRun (mk ref1F) Tryd.f17 300 [.agg .u8 (tab 32 l)] = some (.agg .u8 (bytesOf 32 (dnum 16 (dgs (num (tab 32 l))) % p25)), (dgs (num (tab 32 l))).map okD) := by kernel_rfl

theorem rcanon_ok : FnOk Tryd.prog gl 17 fCanon := by
  refine fnOk_F1o (C := mk ref1F) (mk_ok ref1F_ok) Tryd.func17 (by kernel_rfl) rfl (by kernel_rfl) (fun l hl hw => ?_)
  have run := rcanon_run l
  rw [tab_eq 32 l hl] at run
  refine ⟨300, _, _, run, ?_, holds_map (fun x hx => ?_)⟩
  · rw [dgs_dnum _ (num32_range hl hw)]
    rfl
  · have := dgs_range _ x hx
    constructor <;> omega

end Go.Proofs.YtechbdggjfahhaaDoor.Sx
