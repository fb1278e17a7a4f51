/-
  No cell of these rows narrows 'for every input' (looked for: loops, veiled, ifaces, maps, wideKeys, modest, calm, conditions, laid).
  DERIVED. THE GIVEN ROWS OF THIS SEAT. 11 by the template 'for every input the law returns true; each argument reads behind the call as it read before'; 0 by the template 'total and deterministic' (their statements: YteagoinfepiilaaTotals.lean).
  GIVEN WITH THE SEED: the statements are not yours to turn. If you find one false, say at which input.
  Laid BY PROGRAM, IN A SANDBOX (cutbox-rows.mjs): the forced cells as the released guide's own fill.sh prints them over the translation 535bb0ae1fddad02… (all of the seat's roots in one cut). By AI agents, Wed Nov 11 2026. No macro, syntax, notation, axiom, sorry.
-/
import Derived.Test.YteagoinfepiilaaChecked
import GoSem.Claim
import GoSem.ClaimJoined
import GoSem.ClaimMapViews
import Derived.JoinedTies
import Derived.KernelRfl
namespace Go.Proofs.Yteagoinfepiilaa
/- THE CELL 'sum', in the pinned program and in every row, IS THE sha256 OF THE DUMP (.gsa) THAT YteagoinfepiilaaProg.lean LOADS. Nothing in Lean hashes anything: it is a label: what it is worth is what the hold of that sum in a sandbox is worth. -/
noncomputable def Try.pinned : Pinned := { name := "yteagoinfepiilaa", sum := "535bb0ae1fddad02e98af23ad1cdeb3f1e3b208b5d91afa06e86216a585fe5e2", checked := Try.checked }
namespace Rows
def none {H : Type} : Left H := { results := [], args := [] }

/-- 'colophonlaw10.LcpArrays': WHATEVER THE INPUT: true; the input reads as it did. -/
def lcpArraysSpec : ChangeSpec := { name := "lcpArrays", fn := fun _ => fun
  | [d1, d2] => { results := [.lit (.bool true)], args := [d1, d2] }
  | _ => none }
def lcpArraysRow : OpenClaim := { program := "yteagoinfepiilaa", sum := "535bb0ae1fddad02e98af23ad1cdeb3f1e3b208b5d91afa06e86216a585fe5e2", func := "colophon/colophonlaw10.LcpArrays", spec := "lcpArrays", unfollowed := true, recurses := true, apart := false }
def LcpArraysSaid : Prop := lcpArraysRow.holds Try.pinned (OpenSpec.ofChange lcpArraysSpec)

/-- ITS FALSE NEIGHBOUR: 'it returns false'. Refute it at one input. -/
def lcpArraysWrong : ChangeSpec := { name := "lcpArrays", fn := fun _ => fun
  | [d1, d2] => { results := [.lit (.bool false)], args := [d1, d2] }
  | _ => none }
def LcpArraysWrongFalsely : Prop := lcpArraysRow.holds Try.pinned (OpenSpec.ofChange lcpArraysWrong)

/-- 'colophonlaw10.LcpOrdered': WHATEVER THE INPUT: true; the input reads as it did. -/
def lcpOrderedSpec : ChangeSpec := { name := "lcpOrdered", fn := fun _ => fun
  | [d1, d2, d3] => { results := [.lit (.bool true)], args := [d1, d2, d3] }
  | _ => none }
def lcpOrderedRow : OpenClaim := { program := "yteagoinfepiilaa", sum := "535bb0ae1fddad02e98af23ad1cdeb3f1e3b208b5d91afa06e86216a585fe5e2", func := "colophon/colophonlaw10.LcpOrdered", spec := "lcpOrdered", unfollowed := true, recurses := true, apart := false }
def LcpOrderedSaid : Prop := lcpOrderedRow.holds Try.pinned (OpenSpec.ofChange lcpOrderedSpec)

/-- ITS FALSE NEIGHBOUR: 'it returns false'. Refute it at one input. -/
def lcpOrderedWrong : ChangeSpec := { name := "lcpOrdered", fn := fun _ => fun
  | [d1, d2, d3] => { results := [.lit (.bool false)], args := [d1, d2, d3] }
  | _ => none }
def LcpOrderedWrongFalsely : Prop := lcpOrderedRow.holds Try.pinned (OpenSpec.ofChange lcpOrderedWrong)

/-- 'colophonlaw10.LcpCommon': WHATEVER THE INPUT: true; the input reads as it did. -/
def lcpCommonSpec : ChangeSpec := { name := "lcpCommon", fn := fun _ => fun
  | [d1, d2, d3] => { results := [.lit (.bool true)], args := [d1, d2, d3] }
  | _ => none }
def lcpCommonRow : OpenClaim := { program := "yteagoinfepiilaa", sum := "535bb0ae1fddad02e98af23ad1cdeb3f1e3b208b5d91afa06e86216a585fe5e2", func := "colophon/colophonlaw10.LcpCommon", spec := "lcpCommon", unfollowed := true, recurses := true, apart := false }
def LcpCommonSaid : Prop := lcpCommonRow.holds Try.pinned (OpenSpec.ofChange lcpCommonSpec)

/-- ITS FALSE NEIGHBOUR: 'it returns false'. Refute it at one input. -/
def lcpCommonWrong : ChangeSpec := { name := "lcpCommon", fn := fun _ => fun
  | [d1, d2, d3] => { results := [.lit (.bool false)], args := [d1, d2, d3] }
  | _ => none }
def LcpCommonWrongFalsely : Prop := lcpCommonRow.holds Try.pinned (OpenSpec.ofChange lcpCommonWrong)

/-- 'colophonlaw10.LcpUnlike': WHATEVER THE INPUT: true; the input reads as it did. -/
def lcpUnlikeSpec : ChangeSpec := { name := "lcpUnlike", fn := fun _ => fun
  | [d] => { results := [.lit (.bool true)], args := [d] }
  | _ => none }
def lcpUnlikeRow : OpenClaim := { program := "yteagoinfepiilaa", sum := "535bb0ae1fddad02e98af23ad1cdeb3f1e3b208b5d91afa06e86216a585fe5e2", func := "colophon/colophonlaw10.LcpUnlike", spec := "lcpUnlike", unfollowed := true, recurses := true, apart := false }
def LcpUnlikeSaid : Prop := lcpUnlikeRow.holds Try.pinned (OpenSpec.ofChange lcpUnlikeSpec)

/-- ITS FALSE NEIGHBOUR: 'it returns false'. Refute it at one input. -/
def lcpUnlikeWrong : ChangeSpec := { name := "lcpUnlike", fn := fun _ => fun
  | [d] => { results := [.lit (.bool false)], args := [d] }
  | _ => none }
def LcpUnlikeWrongFalsely : Prop := lcpUnlikeRow.holds Try.pinned (OpenSpec.ofChange lcpUnlikeWrong)

/-- 'colophonlaw10.LcpRows': WHATEVER THE INPUT: true; the input reads as it did. -/
def lcpRowsSpec : ChangeSpec := { name := "lcpRows", fn := fun _ => fun
  | [d1, d2] => { results := [.lit (.bool true)], args := [d1, d2] }
  | _ => none }
def lcpRowsRow : OpenClaim := { program := "yteagoinfepiilaa", sum := "535bb0ae1fddad02e98af23ad1cdeb3f1e3b208b5d91afa06e86216a585fe5e2", func := "colophon/colophonlaw10.LcpRows", spec := "lcpRows", unfollowed := true, recurses := true, apart := false }
def LcpRowsSaid : Prop := lcpRowsRow.holds Try.pinned (OpenSpec.ofChange lcpRowsSpec)

/-- ITS FALSE NEIGHBOUR: 'it returns false'. Refute it at one input. -/
def lcpRowsWrong : ChangeSpec := { name := "lcpRows", fn := fun _ => fun
  | [d1, d2] => { results := [.lit (.bool false)], args := [d1, d2] }
  | _ => none }
def LcpRowsWrongFalsely : Prop := lcpRowsRow.holds Try.pinned (OpenSpec.ofChange lcpRowsWrong)

/-- 'colophonlaw09.SuffixSorts': WHATEVER THE INPUT: true; the input reads as it did. -/
def suffixSortsSpec : ChangeSpec := { name := "suffixSorts", fn := fun _ => fun
  | [d1, d2] => { results := [.lit (.bool true)], args := [d1, d2] }
  | _ => none }
def suffixSortsRow : OpenClaim := { program := "yteagoinfepiilaa", sum := "535bb0ae1fddad02e98af23ad1cdeb3f1e3b208b5d91afa06e86216a585fe5e2", func := "colophon/colophonlaw09.SuffixSorts", spec := "suffixSorts", unfollowed := true, recurses := true, apart := false }
def SuffixSortsSaid : Prop := suffixSortsRow.holds Try.pinned (OpenSpec.ofChange suffixSortsSpec)

/-- ITS FALSE NEIGHBOUR: 'it returns false'. Refute it at one input. -/
def suffixSortsWrong : ChangeSpec := { name := "suffixSorts", fn := fun _ => fun
  | [d1, d2] => { results := [.lit (.bool false)], args := [d1, d2] }
  | _ => none }
def SuffixSortsWrongFalsely : Prop := suffixSortsRow.holds Try.pinned (OpenSpec.ofChange suffixSortsWrong)

/-- 'colophonlaw09.SuffixOrder': WHATEVER THE INPUT: true; the input reads as it did. -/
def suffixOrderSpec : ChangeSpec := { name := "suffixOrder", fn := fun _ => fun
  | [d1, d2] => { results := [.lit (.bool true)], args := [d1, d2] }
  | _ => none }
def suffixOrderRow : OpenClaim := { program := "yteagoinfepiilaa", sum := "535bb0ae1fddad02e98af23ad1cdeb3f1e3b208b5d91afa06e86216a585fe5e2", func := "colophon/colophonlaw09.SuffixOrder", spec := "suffixOrder", unfollowed := true, recurses := true, apart := false }
def SuffixOrderSaid : Prop := suffixOrderRow.holds Try.pinned (OpenSpec.ofChange suffixOrderSpec)

/-- ITS FALSE NEIGHBOUR: 'it returns false'. Refute it at one input. -/
def suffixOrderWrong : ChangeSpec := { name := "suffixOrder", fn := fun _ => fun
  | [d1, d2] => { results := [.lit (.bool false)], args := [d1, d2] }
  | _ => none }
def SuffixOrderWrongFalsely : Prop := suffixOrderRow.holds Try.pinned (OpenSpec.ofChange suffixOrderWrong)

/-- 'colophonlaw09.SuffixTurns': WHATEVER THE INPUT: true; the input reads as it did. -/
def suffixTurnsSpec : ChangeSpec := { name := "suffixTurns", fn := fun _ => fun
  | [d] => { results := [.lit (.bool true)], args := [d] }
  | _ => none }
def suffixTurnsRow : OpenClaim := { program := "yteagoinfepiilaa", sum := "535bb0ae1fddad02e98af23ad1cdeb3f1e3b208b5d91afa06e86216a585fe5e2", func := "colophon/colophonlaw09.SuffixTurns", spec := "suffixTurns", unfollowed := true, recurses := true, apart := false }
def SuffixTurnsSaid : Prop := suffixTurnsRow.holds Try.pinned (OpenSpec.ofChange suffixTurnsSpec)

/-- ITS FALSE NEIGHBOUR: 'it returns false'. Refute it at one input. -/
def suffixTurnsWrong : ChangeSpec := { name := "suffixTurns", fn := fun _ => fun
  | [d] => { results := [.lit (.bool false)], args := [d] }
  | _ => none }
def SuffixTurnsWrongFalsely : Prop := suffixTurnsRow.holds Try.pinned (OpenSpec.ofChange suffixTurnsWrong)

/-- 'colophonlaw09.SuffixLeast': WHATEVER THE INPUT: true; the input reads as it did. -/
def suffixLeastSpec : ChangeSpec := { name := "suffixLeast", fn := fun _ => fun
  | [d1, d2, d3] => { results := [.lit (.bool true)], args := [d1, d2, d3] }
  | _ => none }
def suffixLeastRow : OpenClaim := { program := "yteagoinfepiilaa", sum := "535bb0ae1fddad02e98af23ad1cdeb3f1e3b208b5d91afa06e86216a585fe5e2", func := "colophon/colophonlaw09.SuffixLeast", spec := "suffixLeast", unfollowed := true, recurses := true, apart := false }
def SuffixLeastSaid : Prop := suffixLeastRow.holds Try.pinned (OpenSpec.ofChange suffixLeastSpec)

/-- ITS FALSE NEIGHBOUR: 'it returns false'. Refute it at one input. -/
def suffixLeastWrong : ChangeSpec := { name := "suffixLeast", fn := fun _ => fun
  | [d1, d2, d3] => { results := [.lit (.bool false)], args := [d1, d2, d3] }
  | _ => none }
def SuffixLeastWrongFalsely : Prop := suffixLeastRow.holds Try.pinned (OpenSpec.ofChange suffixLeastWrong)

/-- 'colophonlaw09.SuffixMaps': WHATEVER THE INPUT: true; the input reads as it did. -/
def suffixMapsSpec : ChangeSpec := { name := "suffixMaps", fn := fun _ => fun
  | [d1, d2] => { results := [.lit (.bool true)], args := [d1, d2] }
  | _ => none }
def suffixMapsRow : OpenClaim := { program := "yteagoinfepiilaa", sum := "535bb0ae1fddad02e98af23ad1cdeb3f1e3b208b5d91afa06e86216a585fe5e2", func := "colophon/colophonlaw09.SuffixMaps", spec := "suffixMaps", unfollowed := true, recurses := true, apart := false }
def SuffixMapsSaid : Prop := suffixMapsRow.holds Try.pinned (OpenSpec.ofChange suffixMapsSpec)

/-- ITS FALSE NEIGHBOUR: 'it returns false'. Refute it at one input. -/
def suffixMapsWrong : ChangeSpec := { name := "suffixMaps", fn := fun _ => fun
  | [d1, d2] => { results := [.lit (.bool false)], args := [d1, d2] }
  | _ => none }
def SuffixMapsWrongFalsely : Prop := suffixMapsRow.holds Try.pinned (OpenSpec.ofChange suffixMapsWrong)

/-- 'colophonlaw09.SuffixTails': WHATEVER THE INPUT: true; the input reads as it did. -/
def suffixTailsSpec : ChangeSpec := { name := "suffixTails", fn := fun _ => fun
  | [d1, d2] => { results := [.lit (.bool true)], args := [d1, d2] }
  | _ => none }
def suffixTailsRow : OpenClaim := { program := "yteagoinfepiilaa", sum := "535bb0ae1fddad02e98af23ad1cdeb3f1e3b208b5d91afa06e86216a585fe5e2", func := "colophon/colophonlaw09.SuffixTails", spec := "suffixTails", unfollowed := true, recurses := true, apart := false }
def SuffixTailsSaid : Prop := suffixTailsRow.holds Try.pinned (OpenSpec.ofChange suffixTailsSpec)

/-- ITS FALSE NEIGHBOUR: 'it returns false'. Refute it at one input. -/
def suffixTailsWrong : ChangeSpec := { name := "suffixTails", fn := fun _ => fun
  | [d1, d2] => { results := [.lit (.bool false)], args := [d1, d2] }
  | _ => none }
def SuffixTailsWrongFalsely : Prop := suffixTailsRow.holds Try.pinned (OpenSpec.ofChange suffixTailsWrong)

/- THE SECOND FORM. 'bulk': how many values and letters a reading holds, each counted each time it is reached (what is shared counts as often as it is met; a slice's spare places count too). A statement '..UptoSaid' is the law's where the arguments, and the package variables that the reading takes, are together of bulk at most 1048576: NARROWER than '..Said'. Prove '..Said' where nothing that the law and all that it calls make is longer than what came in: it says more and counts as full. Else prove '..UptoSaid'. A law counts once. -/
mutual
def uptoBulk {H : Type} : DataW H → Nat
  | .lit (.string bytes) => bytes.length + 1
  | .lit _ => 1
  | .nil => 1
  | .ptr d => uptoBulk d + 1
  | .slice elems spare => uptoBulkAll elems + uptoBulkAll spare + 1
  | .agg parts => uptoBulkAll parts + 1
  | .iface _ d => uptoBulk d + 1
  | .map entries => uptoBulkEntries entries + 1
  | .held _ => 1
def uptoBulkAll {H : Type} : List (DataW H) → Nat
  | [] => 0
  | d :: r => uptoBulk d + uptoBulkAll r
def uptoBulkEntries {H : Type} : List (Lit × DataW H) → Nat
  | [] => 0
  | x :: r => uptoBulkEntry x + uptoBulkEntries r
def uptoBulkEntry {H : Type} : Lit × DataW H → Nat
  | (.string bytes, d) => bytes.length + uptoBulk d + 1
  | (_, d) => uptoBulk d + 1
 end
def uptoSmall : (H : Type) → List (DataW H) → Bool := fun _ ds => decide (uptoBulkAll ds ≤ 1048576)
def OpenSpec.upto (s : _root_.Go.ChangeSpec) : _root_.Go.OpenSpec := { _root_.Go.OpenSpec.ofChange s with cond := some uptoSmall }

/-- 'colophonlaw10.LcpArrays', WHERE WHAT IT READS IS OF BULK AT MOST 1048576: true; the input reads as it did. -/
def lcpArraysUptoRow : OpenClaim := { program := "yteagoinfepiilaa", sum := "535bb0ae1fddad02e98af23ad1cdeb3f1e3b208b5d91afa06e86216a585fe5e2", func := "colophon/colophonlaw10.LcpArrays", spec := "lcpArrays", unfollowed := true, recurses := true, apart := false, narrowed := true }
def LcpArraysUptoSaid : Prop := lcpArraysUptoRow.holds Try.pinned (OpenSpec.upto lcpArraysSpec)

/-- 'colophonlaw10.LcpOrdered', WHERE WHAT IT READS IS OF BULK AT MOST 1048576: true; the input reads as it did. -/
def lcpOrderedUptoRow : OpenClaim := { program := "yteagoinfepiilaa", sum := "535bb0ae1fddad02e98af23ad1cdeb3f1e3b208b5d91afa06e86216a585fe5e2", func := "colophon/colophonlaw10.LcpOrdered", spec := "lcpOrdered", unfollowed := true, recurses := true, apart := false, narrowed := true }
def LcpOrderedUptoSaid : Prop := lcpOrderedUptoRow.holds Try.pinned (OpenSpec.upto lcpOrderedSpec)

/-- 'colophonlaw10.LcpCommon', WHERE WHAT IT READS IS OF BULK AT MOST 1048576: true; the input reads as it did. -/
def lcpCommonUptoRow : OpenClaim := { program := "yteagoinfepiilaa", sum := "535bb0ae1fddad02e98af23ad1cdeb3f1e3b208b5d91afa06e86216a585fe5e2", func := "colophon/colophonlaw10.LcpCommon", spec := "lcpCommon", unfollowed := true, recurses := true, apart := false, narrowed := true }
def LcpCommonUptoSaid : Prop := lcpCommonUptoRow.holds Try.pinned (OpenSpec.upto lcpCommonSpec)

/-- 'colophonlaw10.LcpUnlike', WHERE WHAT IT READS IS OF BULK AT MOST 1048576: true; the input reads as it did. -/
def lcpUnlikeUptoRow : OpenClaim := { program := "yteagoinfepiilaa", sum := "535bb0ae1fddad02e98af23ad1cdeb3f1e3b208b5d91afa06e86216a585fe5e2", func := "colophon/colophonlaw10.LcpUnlike", spec := "lcpUnlike", unfollowed := true, recurses := true, apart := false, narrowed := true }
def LcpUnlikeUptoSaid : Prop := lcpUnlikeUptoRow.holds Try.pinned (OpenSpec.upto lcpUnlikeSpec)

/-- 'colophonlaw10.LcpRows', WHERE WHAT IT READS IS OF BULK AT MOST 1048576: true; the input reads as it did. -/
def lcpRowsUptoRow : OpenClaim := { program := "yteagoinfepiilaa", sum := "535bb0ae1fddad02e98af23ad1cdeb3f1e3b208b5d91afa06e86216a585fe5e2", func := "colophon/colophonlaw10.LcpRows", spec := "lcpRows", unfollowed := true, recurses := true, apart := false, narrowed := true }
def LcpRowsUptoSaid : Prop := lcpRowsUptoRow.holds Try.pinned (OpenSpec.upto lcpRowsSpec)

/-- 'colophonlaw09.SuffixSorts', WHERE WHAT IT READS IS OF BULK AT MOST 1048576: true; the input reads as it did. -/
def suffixSortsUptoRow : OpenClaim := { program := "yteagoinfepiilaa", sum := "535bb0ae1fddad02e98af23ad1cdeb3f1e3b208b5d91afa06e86216a585fe5e2", func := "colophon/colophonlaw09.SuffixSorts", spec := "suffixSorts", unfollowed := true, recurses := true, apart := false, narrowed := true }
def SuffixSortsUptoSaid : Prop := suffixSortsUptoRow.holds Try.pinned (OpenSpec.upto suffixSortsSpec)

/-- 'colophonlaw09.SuffixOrder', WHERE WHAT IT READS IS OF BULK AT MOST 1048576: true; the input reads as it did. -/
def suffixOrderUptoRow : OpenClaim := { program := "yteagoinfepiilaa", sum := "535bb0ae1fddad02e98af23ad1cdeb3f1e3b208b5d91afa06e86216a585fe5e2", func := "colophon/colophonlaw09.SuffixOrder", spec := "suffixOrder", unfollowed := true, recurses := true, apart := false, narrowed := true }
def SuffixOrderUptoSaid : Prop := suffixOrderUptoRow.holds Try.pinned (OpenSpec.upto suffixOrderSpec)

/-- 'colophonlaw09.SuffixTurns', WHERE WHAT IT READS IS OF BULK AT MOST 1048576: true; the input reads as it did. -/
def suffixTurnsUptoRow : OpenClaim := { program := "yteagoinfepiilaa", sum := "535bb0ae1fddad02e98af23ad1cdeb3f1e3b208b5d91afa06e86216a585fe5e2", func := "colophon/colophonlaw09.SuffixTurns", spec := "suffixTurns", unfollowed := true, recurses := true, apart := false, narrowed := true }
def SuffixTurnsUptoSaid : Prop := suffixTurnsUptoRow.holds Try.pinned (OpenSpec.upto suffixTurnsSpec)

/-- 'colophonlaw09.SuffixLeast', WHERE WHAT IT READS IS OF BULK AT MOST 1048576: true; the input reads as it did. -/
def suffixLeastUptoRow : OpenClaim := { program := "yteagoinfepiilaa", sum := "535bb0ae1fddad02e98af23ad1cdeb3f1e3b208b5d91afa06e86216a585fe5e2", func := "colophon/colophonlaw09.SuffixLeast", spec := "suffixLeast", unfollowed := true, recurses := true, apart := false, narrowed := true }
def SuffixLeastUptoSaid : Prop := suffixLeastUptoRow.holds Try.pinned (OpenSpec.upto suffixLeastSpec)

/-- 'colophonlaw09.SuffixMaps', WHERE WHAT IT READS IS OF BULK AT MOST 1048576: true; the input reads as it did. -/
def suffixMapsUptoRow : OpenClaim := { program := "yteagoinfepiilaa", sum := "535bb0ae1fddad02e98af23ad1cdeb3f1e3b208b5d91afa06e86216a585fe5e2", func := "colophon/colophonlaw09.SuffixMaps", spec := "suffixMaps", unfollowed := true, recurses := true, apart := false, narrowed := true }
def SuffixMapsUptoSaid : Prop := suffixMapsUptoRow.holds Try.pinned (OpenSpec.upto suffixMapsSpec)

/-- 'colophonlaw09.SuffixTails', WHERE WHAT IT READS IS OF BULK AT MOST 1048576: true; the input reads as it did. -/
def suffixTailsUptoRow : OpenClaim := { program := "yteagoinfepiilaa", sum := "535bb0ae1fddad02e98af23ad1cdeb3f1e3b208b5d91afa06e86216a585fe5e2", func := "colophon/colophonlaw09.SuffixTails", spec := "suffixTails", unfollowed := true, recurses := true, apart := false, narrowed := true }
def SuffixTailsUptoSaid : Prop := suffixTailsUptoRow.holds Try.pinned (OpenSpec.upto suffixTailsSpec)

end Rows
end Go.Proofs.Yteagoinfepiilaa
