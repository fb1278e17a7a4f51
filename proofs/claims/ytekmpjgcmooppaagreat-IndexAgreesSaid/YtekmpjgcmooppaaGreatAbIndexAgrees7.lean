/- Lemmas. -/
import Derived.Test.YtekmpjgcmooppaaGreatRows
import Derived.ProofKit
set_option linter.unusedVariables false
set_option linter.unusedSimpArgs false
/- Closed facts of the row IndexAgrees. No conditions. -/
namespace Go.Proofs.YtekmpjgcmooppaaGreat.indexAgrees
open Go.ChangeShapes Go.WideShapes Go.ChangeAt Go.RowKit
theorem ov1 : Tryz.pinned.checked.prog.funcNamed Rows.indexAgreesRow.func = some 6 := by kernel_rfl
theorem ov2 : joinedFacts Tryz.pinned.checked.prog 6 Tryz.f6 Rows.indexAgreesSpec Rows.indexAgreesRow = true := by kernel_rfl
theorem ov3 : Tryz.f6.isInstance Tryz.pinned.checked.prog Rows.indexAgreesRow.origin Rows.indexAgreesRow.targs := of_decide_eq_true (by kernel_rfl)
theorem ov4 : Tryz.f6.isWrapper Tryz.pinned.checked.prog Rows.indexAgreesRow.wrapper Rows.indexAgreesRow.mainSum := by unfold Func.isWrapper; first | (rw [if_pos (by decide +kernel)]; kernel_rfl) | (rw [if_neg (by decide +kernel)]; exact ⟨rfl, rfl⟩)
end Go.Proofs.YtekmpjgcmooppaaGreat.indexAgrees
