/- A part of the proof of the law IndexTops: lemmas alone; what each says stands at it. No conditions. -/
import Derived.Test.YtekmpjgcmooppaaGreatRows
import Derived.ProofKit
set_option linter.unusedVariables false
set_option linter.unusedSimpArgs false
/- Closed facts of the row IndexTops. No conditions. -/
namespace Go.Proofs.YtekmpjgcmooppaaGreat.indexTops
open Go.ChangeShapes Go.WideShapes Go.ChangeAt Go.RowKit
theorem ov1 : Tryz.pinned.checked.prog.funcNamed Rows.indexTopsRow.func = some 4 := by kernel_rfl
theorem ov2 : joinedFacts Tryz.pinned.checked.prog 4 Tryz.f4 Rows.indexTopsSpec Rows.indexTopsRow = true := by kernel_rfl
theorem ov3 : Tryz.f4.isInstance Tryz.pinned.checked.prog Rows.indexTopsRow.origin Rows.indexTopsRow.targs := of_decide_eq_true (by kernel_rfl)
theorem ov4 : Tryz.f4.isWrapper Tryz.pinned.checked.prog Rows.indexTopsRow.wrapper Rows.indexTopsRow.mainSum := by unfold Func.isWrapper; first | (rw [if_pos (by decide +kernel)]; kernel_rfl) | (rw [if_neg (by decide +kernel)]; exact ⟨rfl, rfl⟩)
end Go.Proofs.YtekmpjgcmooppaaGreat.indexTops
