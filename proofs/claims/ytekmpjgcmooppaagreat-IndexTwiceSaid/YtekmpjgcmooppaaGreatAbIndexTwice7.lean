/- Lemmas. -/
import Derived.Test.YtekmpjgcmooppaaGreatRows
import Derived.ProofKit
set_option linter.unusedVariables false
set_option linter.unusedSimpArgs false
/- Closed facts of the row IndexTwice. No conditions. -/
namespace Go.Proofs.YtekmpjgcmooppaaGreat.indexTwice
open Go.ChangeShapes Go.WideShapes Go.ChangeAt Go.RowKit
theorem ov1 : Tryz.pinned.checked.prog.funcNamed Rows.indexTwiceRow.func = some 7 := by kernel_rfl
theorem ov2 : joinedFacts Tryz.pinned.checked.prog 7 Tryz.f7 Rows.indexTwiceSpec Rows.indexTwiceRow = true := by kernel_rfl
theorem ov3 : Tryz.f7.isInstance Tryz.pinned.checked.prog Rows.indexTwiceRow.origin Rows.indexTwiceRow.targs := of_decide_eq_true (by kernel_rfl)
theorem ov4 : Tryz.f7.isWrapper Tryz.pinned.checked.prog Rows.indexTwiceRow.wrapper Rows.indexTwiceRow.mainSum := by unfold Func.isWrapper; first | (rw [if_pos (by decide +kernel)]; kernel_rfl) | (rw [if_neg (by decide +kernel)]; exact ⟨rfl, rfl⟩)
end Go.Proofs.YtekmpjgcmooppaaGreat.indexTwice
