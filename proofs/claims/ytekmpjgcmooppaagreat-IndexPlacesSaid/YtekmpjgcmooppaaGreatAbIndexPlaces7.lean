/- Lemmas. -/
import Derived.Test.YtekmpjgcmooppaaGreatRows
import Derived.ProofKit
set_option linter.unusedVariables false
set_option linter.unusedSimpArgs false
/- Closed facts of the row IndexPlaces. No conditions. -/
namespace Go.Proofs.YtekmpjgcmooppaaGreat.indexPlaces
open Go.ChangeShapes Go.WideShapes Go.ChangeAt Go.RowKit
theorem ov1 : Tryz.pinned.checked.prog.funcNamed Rows.indexPlacesRow.func = some 5 := by kernel_rfl
theorem ov2 : joinedFacts Tryz.pinned.checked.prog 5 Tryz.f5 Rows.indexPlacesSpec Rows.indexPlacesRow = true := by kernel_rfl
theorem ov3 : Tryz.f5.isInstance Tryz.pinned.checked.prog Rows.indexPlacesRow.origin Rows.indexPlacesRow.targs := of_decide_eq_true (by kernel_rfl)
theorem ov4 : Tryz.f5.isWrapper Tryz.pinned.checked.prog Rows.indexPlacesRow.wrapper Rows.indexPlacesRow.mainSum := by unfold Func.isWrapper; first | (rw [if_pos (by decide +kernel)]; kernel_rfl) | (rw [if_neg (by decide +kernel)]; exact ⟨rfl, rfl⟩)
end Go.Proofs.YtekmpjgcmooppaaGreat.indexPlaces
