/- A part of the proof of the law IndexCounts: lemmas alone; what each says stands at it. No conditions. -/
import Derived.Test.YtekmpjgcmooppaaGreatRows
import Derived.ProofKit
set_option linter.unusedVariables false
set_option linter.unusedSimpArgs false
/- Closed facts of the row IndexCounts. No conditions. -/
namespace Go.Proofs.YtekmpjgcmooppaaGreat.indexCounts
open Go.ChangeShapes Go.WideShapes Go.ChangeAt Go.RowKit
theorem ov1 : Tryz.pinned.checked.prog.funcNamed Rows.indexCountsRow.func = some 3 := by kernel_rfl
theorem ov2 : joinedFacts Tryz.pinned.checked.prog 3 Tryz.f3 Rows.indexCountsSpec Rows.indexCountsRow = true := by kernel_rfl
theorem ov3 : Tryz.f3.isInstance Tryz.pinned.checked.prog Rows.indexCountsRow.origin Rows.indexCountsRow.targs := of_decide_eq_true (by kernel_rfl)
theorem ov4 : Tryz.f3.isWrapper Tryz.pinned.checked.prog Rows.indexCountsRow.wrapper Rows.indexCountsRow.mainSum := by unfold Func.isWrapper; first | (rw [if_pos (by decide +kernel)]; kernel_rfl) | (rw [if_neg (by decide +kernel)]; exact ⟨rfl, rfl⟩)
end Go.Proofs.YtekmpjgcmooppaaGreat.indexCounts
