/-
  No cell of these rows narrows 'for every input' (looked for: loops, veiled, ifaces, maps, wideKeys, modest, calm, conditions, laid).
  DERIVED. THE GIVEN ROWS OF THIS SEAT. 7 by the template 'for every input the law returns true; each argument reads behind the call as it read before'; 0 by the template 'total and deterministic' (their statements: YthikeeclihkdmaaTotals.lean).
  GIVEN WITH THE SEED: the statements are not yours to turn. If you find one false, say at which input.
  Laid BY PROGRAM, IN A SANDBOX (cutbox-rows.mjs): the forced cells as the released guide's own fill.sh prints them over the translation 06314273fe0ffa1c… (all of the seat's roots in one cut). By AI agents, Wed Nov 11 2026. No macro, syntax, notation, axiom, sorry.
-/
import Derived.Test.YthikeeclihkdmaaChecked
import GoSem.Claim
import GoSem.ClaimJoined
import GoSem.ClaimMapViews
import Derived.JoinedTies
import Derived.KernelRfl
namespace Go.Proofs.Ythikeeclihkdmaa
/- THE CELL 'sum', in the pinned program and in every row, IS THE sha256 OF THE DUMP (.gsa) THAT YthikeeclihkdmaaProg.lean LOADS. Nothing in Lean hashes anything: it is a label: what it is worth is what the hold of that sum in a sandbox is worth. -/
noncomputable def Try.pinned : Pinned := { name := "ythikeeclihkdmaa", sum := "06314273fe0ffa1c8bcd3ce22144a27bd4042a09315cd6117fa8422230b1a5fb", checked := Try.checked }
namespace Rows
def none {H : Type} : Left H := { results := [], args := [] }

/-- 'colophonlaw15.FindMakes': WHATEVER THE INPUT: true; the input reads as it did. -/
def findMakesSpec : ChangeSpec := { name := "findMakes", fn := fun _ => fun
  | [d1, d2, d3] => { results := [.lit (.bool true)], args := [d1, d2, d3] }
  | _ => none }
def findMakesRow : OpenClaim := { program := "ythikeeclihkdmaa", sum := "06314273fe0ffa1c8bcd3ce22144a27bd4042a09315cd6117fa8422230b1a5fb", func := "colophon/colophonlaw15.FindMakes", spec := "findMakes", unfollowed := true, recurses := true, apart := false }
def FindMakesSaid : Prop := findMakesRow.holds Try.pinned (OpenSpec.ofChange findMakesSpec)

/-- ITS FALSE NEIGHBOUR: 'it returns false'. Refute it at one input. -/
def findMakesWrong : ChangeSpec := { name := "findMakes", fn := fun _ => fun
  | [d1, d2, d3] => { results := [.lit (.bool false)], args := [d1, d2, d3] }
  | _ => none }
def FindMakesWrongFalsely : Prop := findMakesRow.holds Try.pinned (OpenSpec.ofChange findMakesWrong)

/-- 'colophonlaw15.FindRanges': WHATEVER THE INPUT: true; the input reads as it did. -/
def findRangesSpec : ChangeSpec := { name := "findRanges", fn := fun _ => fun
  | [d1, d2, d3] => { results := [.lit (.bool true)], args := [d1, d2, d3] }
  | _ => none }
def findRangesRow : OpenClaim := { program := "ythikeeclihkdmaa", sum := "06314273fe0ffa1c8bcd3ce22144a27bd4042a09315cd6117fa8422230b1a5fb", func := "colophon/colophonlaw15.FindRanges", spec := "findRanges", unfollowed := true, recurses := true, apart := false }
def FindRangesSaid : Prop := findRangesRow.holds Try.pinned (OpenSpec.ofChange findRangesSpec)

/-- ITS FALSE NEIGHBOUR: 'it returns false'. Refute it at one input. -/
def findRangesWrong : ChangeSpec := { name := "findRanges", fn := fun _ => fun
  | [d1, d2, d3] => { results := [.lit (.bool false)], args := [d1, d2, d3] }
  | _ => none }
def FindRangesWrongFalsely : Prop := findRangesRow.holds Try.pinned (OpenSpec.ofChange findRangesWrong)

/-- 'colophonlaw15.FindPlaces': WHATEVER THE INPUT: true; the input reads as it did. -/
def findPlacesSpec : ChangeSpec := { name := "findPlaces", fn := fun _ => fun
  | [d1, d2, d3] => { results := [.lit (.bool true)], args := [d1, d2, d3] }
  | _ => none }
def findPlacesRow : OpenClaim := { program := "ythikeeclihkdmaa", sum := "06314273fe0ffa1c8bcd3ce22144a27bd4042a09315cd6117fa8422230b1a5fb", func := "colophon/colophonlaw15.FindPlaces", spec := "findPlaces", unfollowed := true, recurses := true, apart := false }
def FindPlacesSaid : Prop := findPlacesRow.holds Try.pinned (OpenSpec.ofChange findPlacesSpec)

/-- ITS FALSE NEIGHBOUR: 'it returns false'. Refute it at one input. -/
def findPlacesWrong : ChangeSpec := { name := "findPlaces", fn := fun _ => fun
  | [d1, d2, d3] => { results := [.lit (.bool false)], args := [d1, d2, d3] }
  | _ => none }
def FindPlacesWrongFalsely : Prop := findPlacesRow.holds Try.pinned (OpenSpec.ofChange findPlacesWrong)

/-- 'colophonlaw15.FindNarrows': WHATEVER THE INPUT: true; the input reads as it did. -/
def findNarrowsSpec : ChangeSpec := { name := "findNarrows", fn := fun _ => fun
  | [d1, d2] => { results := [.lit (.bool true)], args := [d1, d2] }
  | _ => none }
def findNarrowsRow : OpenClaim := { program := "ythikeeclihkdmaa", sum := "06314273fe0ffa1c8bcd3ce22144a27bd4042a09315cd6117fa8422230b1a5fb", func := "colophon/colophonlaw15.FindNarrows", spec := "findNarrows", unfollowed := true, recurses := true, apart := false }
def FindNarrowsSaid : Prop := findNarrowsRow.holds Try.pinned (OpenSpec.ofChange findNarrowsSpec)

/-- ITS FALSE NEIGHBOUR: 'it returns false'. Refute it at one input. -/
def findNarrowsWrong : ChangeSpec := { name := "findNarrows", fn := fun _ => fun
  | [d1, d2] => { results := [.lit (.bool false)], args := [d1, d2] }
  | _ => none }
def FindNarrowsWrongFalsely : Prop := findNarrowsRow.holds Try.pinned (OpenSpec.ofChange findNarrowsWrong)

/-- 'colophonlaw15.FindNone': WHATEVER THE INPUT: true; the input reads as it did. -/
def findNoneSpec : ChangeSpec := { name := "findNone", fn := fun _ => fun
  | [d1, d2] => { results := [.lit (.bool true)], args := [d1, d2] }
  | _ => none }
def findNoneRow : OpenClaim := { program := "ythikeeclihkdmaa", sum := "06314273fe0ffa1c8bcd3ce22144a27bd4042a09315cd6117fa8422230b1a5fb", func := "colophon/colophonlaw15.FindNone", spec := "findNone", unfollowed := true, recurses := true, apart := false }
def FindNoneSaid : Prop := findNoneRow.holds Try.pinned (OpenSpec.ofChange findNoneSpec)

/-- ITS FALSE NEIGHBOUR: 'it returns false'. Refute it at one input. -/
def findNoneWrong : ChangeSpec := { name := "findNone", fn := fun _ => fun
  | [d1, d2] => { results := [.lit (.bool false)], args := [d1, d2] }
  | _ => none }
def FindNoneWrongFalsely : Prop := findNoneRow.holds Try.pinned (OpenSpec.ofChange findNoneWrong)

/-- 'colophonlaw15.FindParts': WHATEVER THE INPUT: true; the input reads as it did. -/
def findPartsSpec : ChangeSpec := { name := "findParts", fn := fun _ => fun
  | [d1, d2] => { results := [.lit (.bool true)], args := [d1, d2] }
  | _ => none }
def findPartsRow : OpenClaim := { program := "ythikeeclihkdmaa", sum := "06314273fe0ffa1c8bcd3ce22144a27bd4042a09315cd6117fa8422230b1a5fb", func := "colophon/colophonlaw15.FindParts", spec := "findParts", unfollowed := true, recurses := true, apart := false }
def FindPartsSaid : Prop := findPartsRow.holds Try.pinned (OpenSpec.ofChange findPartsSpec)

/-- ITS FALSE NEIGHBOUR: 'it returns false'. Refute it at one input. -/
def findPartsWrong : ChangeSpec := { name := "findParts", fn := fun _ => fun
  | [d1, d2] => { results := [.lit (.bool false)], args := [d1, d2] }
  | _ => none }
def FindPartsWrongFalsely : Prop := findPartsRow.holds Try.pinned (OpenSpec.ofChange findPartsWrong)

/-- 'colophonlaw15.FindSteps': WHATEVER THE INPUT: true; the input reads as it did. -/
def findStepsSpec : ChangeSpec := { name := "findSteps", fn := fun _ => fun
  | [d1, d2, d3] => { results := [.lit (.bool true)], args := [d1, d2, d3] }
  | _ => none }
def findStepsRow : OpenClaim := { program := "ythikeeclihkdmaa", sum := "06314273fe0ffa1c8bcd3ce22144a27bd4042a09315cd6117fa8422230b1a5fb", func := "colophon/colophonlaw15.FindSteps", spec := "findSteps", unfollowed := true, recurses := true, apart := false }
def FindStepsSaid : Prop := findStepsRow.holds Try.pinned (OpenSpec.ofChange findStepsSpec)

/-- ITS FALSE NEIGHBOUR: 'it returns false'. Refute it at one input. -/
def findStepsWrong : ChangeSpec := { name := "findSteps", fn := fun _ => fun
  | [d1, d2, d3] => { results := [.lit (.bool false)], args := [d1, d2, d3] }
  | _ => none }
def FindStepsWrongFalsely : Prop := findStepsRow.holds Try.pinned (OpenSpec.ofChange findStepsWrong)

/- THE SECOND FORM. 'bulk': how many values and letters a reading holds, each counted each time it is reached (what is shared counts as often as it is met; a slice's spare places count too). A statement '..UptoSaid' is the law's where the arguments, and the package variables that the reading takes, are together of bulk at most 1048576: NARROWER than '..Said'. Prove '..Said' where nothing that the law and all that it calls make is longer than what came in: it says more and counts as full. Else prove '..UptoSaid'. A law counts once. -/
mutual
def uptoBulk {H : Type} : DataW H → Nat
  | .lit (.string bytes) => bytes.length + 1
  | .lit _ => 1
  | .nil => 1
  | .ptr d => uptoBulk d + 1
  | .slice elems spare => uptoBulkAll elems + uptoBulkAll spare + 1
  | .agg parts => uptoBulkAll parts + 1
  | .iface _ d => uptoBulk d + 1
  | .map entries => uptoBulkEntries entries + 1
  | .held _ => 1
def uptoBulkAll {H : Type} : List (DataW H) → Nat
  | [] => 0
  | d :: r => uptoBulk d + uptoBulkAll r
def uptoBulkEntries {H : Type} : List (Lit × DataW H) → Nat
  | [] => 0
  | x :: r => uptoBulkEntry x + uptoBulkEntries r
def uptoBulkEntry {H : Type} : Lit × DataW H → Nat
  | (.string bytes, d) => bytes.length + uptoBulk d + 1
  | (_, d) => uptoBulk d + 1
 end
def uptoSmall : (H : Type) → List (DataW H) → Bool := fun _ ds => decide (uptoBulkAll ds ≤ 1048576)
def OpenSpec.upto (s : _root_.Go.ChangeSpec) : _root_.Go.OpenSpec := { _root_.Go.OpenSpec.ofChange s with cond := some uptoSmall }

/-- 'colophonlaw15.FindMakes', WHERE WHAT IT READS IS OF BULK AT MOST 1048576: true; the input reads as it did. -/
def findMakesUptoRow : OpenClaim := { program := "ythikeeclihkdmaa", sum := "06314273fe0ffa1c8bcd3ce22144a27bd4042a09315cd6117fa8422230b1a5fb", func := "colophon/colophonlaw15.FindMakes", spec := "findMakes", unfollowed := true, recurses := true, apart := false, narrowed := true }
def FindMakesUptoSaid : Prop := findMakesUptoRow.holds Try.pinned (OpenSpec.upto findMakesSpec)

/-- 'colophonlaw15.FindRanges', WHERE WHAT IT READS IS OF BULK AT MOST 1048576: true; the input reads as it did. -/
def findRangesUptoRow : OpenClaim := { program := "ythikeeclihkdmaa", sum := "06314273fe0ffa1c8bcd3ce22144a27bd4042a09315cd6117fa8422230b1a5fb", func := "colophon/colophonlaw15.FindRanges", spec := "findRanges", unfollowed := true, recurses := true, apart := false, narrowed := true }
def FindRangesUptoSaid : Prop := findRangesUptoRow.holds Try.pinned (OpenSpec.upto findRangesSpec)

/-- 'colophonlaw15.FindPlaces', WHERE WHAT IT READS IS OF BULK AT MOST 1048576: true; the input reads as it did. -/
def findPlacesUptoRow : OpenClaim := { program := "ythikeeclihkdmaa", sum := "06314273fe0ffa1c8bcd3ce22144a27bd4042a09315cd6117fa8422230b1a5fb", func := "colophon/colophonlaw15.FindPlaces", spec := "findPlaces", unfollowed := true, recurses := true, apart := false, narrowed := true }
def FindPlacesUptoSaid : Prop := findPlacesUptoRow.holds Try.pinned (OpenSpec.upto findPlacesSpec)

/-- 'colophonlaw15.FindNarrows', WHERE WHAT IT READS IS OF BULK AT MOST 1048576: true; the input reads as it did. -/
def findNarrowsUptoRow : OpenClaim := { program := "ythikeeclihkdmaa", sum := "06314273fe0ffa1c8bcd3ce22144a27bd4042a09315cd6117fa8422230b1a5fb", func := "colophon/colophonlaw15.FindNarrows", spec := "findNarrows", unfollowed := true, recurses := true, apart := false, narrowed := true }
def FindNarrowsUptoSaid : Prop := findNarrowsUptoRow.holds Try.pinned (OpenSpec.upto findNarrowsSpec)

/-- 'colophonlaw15.FindNone', WHERE WHAT IT READS IS OF BULK AT MOST 1048576: true; the input reads as it did. -/
def findNoneUptoRow : OpenClaim := { program := "ythikeeclihkdmaa", sum := "06314273fe0ffa1c8bcd3ce22144a27bd4042a09315cd6117fa8422230b1a5fb", func := "colophon/colophonlaw15.FindNone", spec := "findNone", unfollowed := true, recurses := true, apart := false, narrowed := true }
def FindNoneUptoSaid : Prop := findNoneUptoRow.holds Try.pinned (OpenSpec.upto findNoneSpec)

/-- 'colophonlaw15.FindParts', WHERE WHAT IT READS IS OF BULK AT MOST 1048576: true; the input reads as it did. -/
def findPartsUptoRow : OpenClaim := { program := "ythikeeclihkdmaa", sum := "06314273fe0ffa1c8bcd3ce22144a27bd4042a09315cd6117fa8422230b1a5fb", func := "colophon/colophonlaw15.FindParts", spec := "findParts", unfollowed := true, recurses := true, apart := false, narrowed := true }
def FindPartsUptoSaid : Prop := findPartsUptoRow.holds Try.pinned (OpenSpec.upto findPartsSpec)

/-- 'colophonlaw15.FindSteps', WHERE WHAT IT READS IS OF BULK AT MOST 1048576: true; the input reads as it did. -/
def findStepsUptoRow : OpenClaim := { program := "ythikeeclihkdmaa", sum := "06314273fe0ffa1c8bcd3ce22144a27bd4042a09315cd6117fa8422230b1a5fb", func := "colophon/colophonlaw15.FindSteps", spec := "findSteps", unfollowed := true, recurses := true, apart := false, narrowed := true }
def FindStepsUptoSaid : Prop := findStepsUptoRow.holds Try.pinned (OpenSpec.upto findStepsSpec)

end Rows
end Go.Proofs.Ythikeeclihkdmaa
