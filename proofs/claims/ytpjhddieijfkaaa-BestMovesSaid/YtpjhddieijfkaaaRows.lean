/-
  No cell of these rows narrows 'for every input' (looked for: loops, veiled, ifaces, maps, wideKeys, modest, calm, conditions, laid).
  DERIVED. THE GIVEN ROWS OF THIS SEAT. 6 by the template 'for every input the law returns true; each argument reads behind the call as it read before'; 0 by the template 'total and deterministic' (their statements: YtpjhddieijfkaaaTotals.lean).
  GIVEN WITH THE SEED: the statements are not yours to turn. If you find one false, say at which input.
  Laid BY PROGRAM, IN A SANDBOX (cutbox-rows.mjs): the forced cells as the released guide's own fill.sh prints them over the translation 0c41e4b3f21ad49a… (all of the seat's roots in one cut). By AI agents, Wed Nov 11 2026. No macro, syntax, notation, axiom, sorry.
-/
import Derived.Test.YtpjhddieijfkaaaChecked
import GoSem.Claim
import GoSem.ClaimJoined
import GoSem.ClaimMapViews
import Derived.JoinedTies
import Derived.KernelRfl
namespace Go.Proofs.Ytpjhddieijfkaaa
/- THE CELL 'sum', in the pinned program and in every row, IS THE sha256 OF THE DUMP (.gsa) THAT YtpjhddieijfkaaaProg.lean LOADS. Nothing in Lean hashes anything: it is a label: what it is worth is what the hold of that sum in a sandbox is worth. -/
noncomputable def Try.pinned : Pinned := { name := "ytpjhddieijfkaaa", sum := "0c41e4b3f21ad49a1cd9fe391b9f1ce181d4195be20f59c7b259904740b46d23", checked := Try.checked }
namespace Rows
def none {H : Type} : Left H := { results := [], args := [] }

/-- 'colophonlaw18.BestTops': WHATEVER THE INPUT: true; the input reads as it did. -/
def bestTopsSpec : ChangeSpec := { name := "bestTops", fn := fun _ => fun
  | [d1, d2, d3] => { results := [.lit (.bool true)], args := [d1, d2, d3] }
  | _ => none }
def bestTopsRow : OpenClaim := { program := "ytpjhddieijfkaaa", sum := "0c41e4b3f21ad49a1cd9fe391b9f1ce181d4195be20f59c7b259904740b46d23", func := "colophon/colophonlaw18.BestTops", spec := "bestTops", unfollowed := true, recurses := true, apart := false }
def BestTopsSaid : Prop := bestTopsRow.holds Try.pinned (OpenSpec.ofChange bestTopsSpec)

/-- ITS FALSE NEIGHBOUR: 'it returns false'. Refute it at one input. -/
def bestTopsWrong : ChangeSpec := { name := "bestTops", fn := fun _ => fun
  | [d1, d2, d3] => { results := [.lit (.bool false)], args := [d1, d2, d3] }
  | _ => none }
def BestTopsWrongFalsely : Prop := bestTopsRow.holds Try.pinned (OpenSpec.ofChange bestTopsWrong)

/-- 'colophonlaw18.BestMoves': WHATEVER THE INPUT: true; the input reads as it did. -/
def bestMovesSpec : ChangeSpec := { name := "bestMoves", fn := fun _ => fun
  | [d1, d2, d3] => { results := [.lit (.bool true)], args := [d1, d2, d3] }
  | _ => none }
def bestMovesRow : OpenClaim := { program := "ytpjhddieijfkaaa", sum := "0c41e4b3f21ad49a1cd9fe391b9f1ce181d4195be20f59c7b259904740b46d23", func := "colophon/colophonlaw18.BestMoves", spec := "bestMoves", unfollowed := true, recurses := true, apart := false }
def BestMovesSaid : Prop := bestMovesRow.holds Try.pinned (OpenSpec.ofChange bestMovesSpec)

/-- ITS FALSE NEIGHBOUR: 'it returns false'. Refute it at one input. -/
def bestMovesWrong : ChangeSpec := { name := "bestMoves", fn := fun _ => fun
  | [d1, d2, d3] => { results := [.lit (.bool false)], args := [d1, d2, d3] }
  | _ => none }
def BestMovesWrongFalsely : Prop := bestMovesRow.holds Try.pinned (OpenSpec.ofChange bestMovesWrong)

/-- 'colophonlaw18.BestAll': WHATEVER THE INPUT: true; the input reads as it did. -/
def bestAllSpec : ChangeSpec := { name := "bestAll", fn := fun _ => fun
  | [d1, d2] => { results := [.lit (.bool true)], args := [d1, d2] }
  | _ => none }
def bestAllRow : OpenClaim := { program := "ytpjhddieijfkaaa", sum := "0c41e4b3f21ad49a1cd9fe391b9f1ce181d4195be20f59c7b259904740b46d23", func := "colophon/colophonlaw18.BestAll", spec := "bestAll", unfollowed := true, recurses := true, apart := false }
def BestAllSaid : Prop := bestAllRow.holds Try.pinned (OpenSpec.ofChange bestAllSpec)

/-- ITS FALSE NEIGHBOUR: 'it returns false'. Refute it at one input. -/
def bestAllWrong : ChangeSpec := { name := "bestAll", fn := fun _ => fun
  | [d1, d2] => { results := [.lit (.bool false)], args := [d1, d2] }
  | _ => none }
def BestAllWrongFalsely : Prop := bestAllRow.holds Try.pinned (OpenSpec.ofChange bestAllWrong)

/-- 'colophonlaw18.BestFirsts': WHATEVER THE INPUT: true; the input reads as it did. -/
def bestFirstsSpec : ChangeSpec := { name := "bestFirsts", fn := fun _ => fun
  | [d1, d2, d3] => { results := [.lit (.bool true)], args := [d1, d2, d3] }
  | _ => none }
def bestFirstsRow : OpenClaim := { program := "ytpjhddieijfkaaa", sum := "0c41e4b3f21ad49a1cd9fe391b9f1ce181d4195be20f59c7b259904740b46d23", func := "colophon/colophonlaw18.BestFirsts", spec := "bestFirsts", unfollowed := true, recurses := true, apart := false }
def BestFirstsSaid : Prop := bestFirstsRow.holds Try.pinned (OpenSpec.ofChange bestFirstsSpec)

/-- ITS FALSE NEIGHBOUR: 'it returns false'. Refute it at one input. -/
def bestFirstsWrong : ChangeSpec := { name := "bestFirsts", fn := fun _ => fun
  | [d1, d2, d3] => { results := [.lit (.bool false)], args := [d1, d2, d3] }
  | _ => none }
def BestFirstsWrongFalsely : Prop := bestFirstsRow.holds Try.pinned (OpenSpec.ofChange bestFirstsWrong)

/-- 'colophonlaw17.ListDocs': WHATEVER THE INPUT: true; the input reads as it did. -/
def listDocsSpec : ChangeSpec := { name := "listDocs", fn := fun _ => fun
  | [d1, d2, d3] => { results := [.lit (.bool true)], args := [d1, d2, d3] }
  | _ => none }
def listDocsRow : OpenClaim := { program := "ytpjhddieijfkaaa", sum := "0c41e4b3f21ad49a1cd9fe391b9f1ce181d4195be20f59c7b259904740b46d23", func := "colophon/colophonlaw17.ListDocs", spec := "listDocs", recurses := true, apart := false }
def ListDocsSaid : Prop := listDocsRow.holds Try.pinned (OpenSpec.ofChange listDocsSpec)

/-- ITS FALSE NEIGHBOUR: 'it returns false'. Refute it at one input. -/
def listDocsWrong : ChangeSpec := { name := "listDocs", fn := fun _ => fun
  | [d1, d2, d3] => { results := [.lit (.bool false)], args := [d1, d2, d3] }
  | _ => none }
def ListDocsWrongFalsely : Prop := listDocsRow.holds Try.pinned (OpenSpec.ofChange listDocsWrong)

/-- 'colophonlaw17.ListParts': WHATEVER THE INPUT: true; the input reads as it did. -/
def listPartsSpec : ChangeSpec := { name := "listParts", fn := fun _ => fun
  | [d1, d2] => { results := [.lit (.bool true)], args := [d1, d2] }
  | _ => none }
def listPartsRow : OpenClaim := { program := "ytpjhddieijfkaaa", sum := "0c41e4b3f21ad49a1cd9fe391b9f1ce181d4195be20f59c7b259904740b46d23", func := "colophon/colophonlaw17.ListParts", spec := "listParts", recurses := true, apart := false }
def ListPartsSaid : Prop := listPartsRow.holds Try.pinned (OpenSpec.ofChange listPartsSpec)

/-- ITS FALSE NEIGHBOUR: 'it returns false'. Refute it at one input. -/
def listPartsWrong : ChangeSpec := { name := "listParts", fn := fun _ => fun
  | [d1, d2] => { results := [.lit (.bool false)], args := [d1, d2] }
  | _ => none }
def ListPartsWrongFalsely : Prop := listPartsRow.holds Try.pinned (OpenSpec.ofChange listPartsWrong)

/- THE SECOND FORM. 'bulk': how many values and letters a reading holds, each counted each time it is reached (what is shared counts as often as it is met; a slice's spare places count too). A statement '..UptoSaid' is the law's where the arguments, and the package variables that the reading takes, are together of bulk at most 1048576: NARROWER than '..Said'. Prove '..Said' where nothing that the law and all that it calls make is longer than what came in: it says more and counts as full. Else prove '..UptoSaid'. A law counts once. -/
mutual
def uptoBulk {H : Type} : DataW H → Nat
  | .lit (.string bytes) => bytes.length + 1
  | .lit _ => 1
  | .nil => 1
  | .ptr d => uptoBulk d + 1
  | .slice elems spare => uptoBulkAll elems + uptoBulkAll spare + 1
  | .agg parts => uptoBulkAll parts + 1
  | .iface _ d => uptoBulk d + 1
  | .map entries => uptoBulkEntries entries + 1
  | .held _ => 1
def uptoBulkAll {H : Type} : List (DataW H) → Nat
  | [] => 0
  | d :: r => uptoBulk d + uptoBulkAll r
def uptoBulkEntries {H : Type} : List (Lit × DataW H) → Nat
  | [] => 0
  | x :: r => uptoBulkEntry x + uptoBulkEntries r
def uptoBulkEntry {H : Type} : Lit × DataW H → Nat
  | (.string bytes, d) => bytes.length + uptoBulk d + 1
  | (_, d) => uptoBulk d + 1
 end
def uptoSmall : (H : Type) → List (DataW H) → Bool := fun _ ds => decide (uptoBulkAll ds ≤ 1048576)
def OpenSpec.upto (s : _root_.Go.ChangeSpec) : _root_.Go.OpenSpec := { _root_.Go.OpenSpec.ofChange s with cond := some uptoSmall }

/-- 'colophonlaw18.BestTops', WHERE WHAT IT READS IS OF BULK AT MOST 1048576: true; the input reads as it did. -/
def bestTopsUptoRow : OpenClaim := { program := "ytpjhddieijfkaaa", sum := "0c41e4b3f21ad49a1cd9fe391b9f1ce181d4195be20f59c7b259904740b46d23", func := "colophon/colophonlaw18.BestTops", spec := "bestTops", unfollowed := true, recurses := true, apart := false, narrowed := true }
def BestTopsUptoSaid : Prop := bestTopsUptoRow.holds Try.pinned (OpenSpec.upto bestTopsSpec)

/-- 'colophonlaw18.BestMoves', WHERE WHAT IT READS IS OF BULK AT MOST 1048576: true; the input reads as it did. -/
def bestMovesUptoRow : OpenClaim := { program := "ytpjhddieijfkaaa", sum := "0c41e4b3f21ad49a1cd9fe391b9f1ce181d4195be20f59c7b259904740b46d23", func := "colophon/colophonlaw18.BestMoves", spec := "bestMoves", unfollowed := true, recurses := true, apart := false, narrowed := true }
def BestMovesUptoSaid : Prop := bestMovesUptoRow.holds Try.pinned (OpenSpec.upto bestMovesSpec)

/-- 'colophonlaw18.BestAll', WHERE WHAT IT READS IS OF BULK AT MOST 1048576: true; the input reads as it did. -/
def bestAllUptoRow : OpenClaim := { program := "ytpjhddieijfkaaa", sum := "0c41e4b3f21ad49a1cd9fe391b9f1ce181d4195be20f59c7b259904740b46d23", func := "colophon/colophonlaw18.BestAll", spec := "bestAll", unfollowed := true, recurses := true, apart := false, narrowed := true }
def BestAllUptoSaid : Prop := bestAllUptoRow.holds Try.pinned (OpenSpec.upto bestAllSpec)

/-- 'colophonlaw18.BestFirsts', WHERE WHAT IT READS IS OF BULK AT MOST 1048576: true; the input reads as it did. -/
def bestFirstsUptoRow : OpenClaim := { program := "ytpjhddieijfkaaa", sum := "0c41e4b3f21ad49a1cd9fe391b9f1ce181d4195be20f59c7b259904740b46d23", func := "colophon/colophonlaw18.BestFirsts", spec := "bestFirsts", unfollowed := true, recurses := true, apart := false, narrowed := true }
def BestFirstsUptoSaid : Prop := bestFirstsUptoRow.holds Try.pinned (OpenSpec.upto bestFirstsSpec)

/-- 'colophonlaw17.ListDocs', WHERE WHAT IT READS IS OF BULK AT MOST 1048576: true; the input reads as it did. -/
def listDocsUptoRow : OpenClaim := { program := "ytpjhddieijfkaaa", sum := "0c41e4b3f21ad49a1cd9fe391b9f1ce181d4195be20f59c7b259904740b46d23", func := "colophon/colophonlaw17.ListDocs", spec := "listDocs", recurses := true, apart := false, narrowed := true }
def ListDocsUptoSaid : Prop := listDocsUptoRow.holds Try.pinned (OpenSpec.upto listDocsSpec)

/-- 'colophonlaw17.ListParts', WHERE WHAT IT READS IS OF BULK AT MOST 1048576: true; the input reads as it did. -/
def listPartsUptoRow : OpenClaim := { program := "ytpjhddieijfkaaa", sum := "0c41e4b3f21ad49a1cd9fe391b9f1ce181d4195be20f59c7b259904740b46d23", func := "colophon/colophonlaw17.ListParts", spec := "listParts", recurses := true, apart := false, narrowed := true }
def ListPartsUptoSaid : Prop := listPartsUptoRow.holds Try.pinned (OpenSpec.upto listPartsSpec)

end Rows
end Go.Proofs.Ytpjhddieijfkaaa
