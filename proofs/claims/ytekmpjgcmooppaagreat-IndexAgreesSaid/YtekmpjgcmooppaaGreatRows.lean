/-
  No cell of these rows narrows 'for every input' (looked for: loops, veiled, ifaces, maps, wideKeys, modest, calm, conditions, laid).
  DERIVED. THE GIVEN ROWS OF THIS SEAT. 12 by the template 'for every input the law returns true; each argument reads behind the call as it read before'; 0 by the template 'total and deterministic' (their statements: YtekmpjgcmooppaaGreatTotals.lean).
  GIVEN WITH THE SEED: the statements are not yours to turn. If you find one false, say at which input.
  Laid BY PROGRAM, IN A SANDBOX (cutbox-rows.mjs): the forced cells as the released guide's own fill.sh prints them over the translation 860c0681682e7bea… (all of the seat's roots in one cut). By AI agents, Wed Nov 11 2026. No macro, syntax, notation, axiom, sorry.
-/
import Derived.Test.YtekmpjgcmooppaaGreatChecked
import GoSem.Claim
import GoSem.ClaimJoined
import GoSem.ClaimMapViews
import Derived.JoinedTies
import Derived.KernelRfl
namespace Go.Proofs.YtekmpjgcmooppaaGreat
/- THE CELL 'sum', in the pinned program and in every row, IS THE sha256 OF THE DUMP (.gsa) THAT YtekmpjgcmooppaaGreatProg.lean LOADS. Nothing in Lean hashes anything: it is a label: what it is worth is what the hold of that sum in a sandbox is worth. -/
noncomputable def Tryz.pinned : Pinned := { name := "ytekmpjgcmooppaagreat", sum := "860c0681682e7bea3752f76c612662c2658707df91bce220f9b1e9db8ba1ba9c", checked := Tryz.checked }
namespace Rows
def none {H : Type} : Left H := { results := [], args := [] }

/-- 'colophonlaw19.IndexCounts': WHATEVER THE INPUT: true; the input reads as it did. -/
def indexCountsSpec : ChangeSpec := { name := "indexCounts", fn := fun _ => fun
  | [d1, d2] => { results := [.lit (.bool true)], args := [d1, d2] }
  | _ => none }
def indexCountsRow : OpenClaim := { program := "ytekmpjgcmooppaagreat", sum := "860c0681682e7bea3752f76c612662c2658707df91bce220f9b1e9db8ba1ba9c", func := "colophon/colophonlaw19.IndexCounts", spec := "indexCounts", unfollowed := true, recurses := true, apart := false }
def IndexCountsSaid : Prop := indexCountsRow.holds Tryz.pinned (OpenSpec.ofChange indexCountsSpec)

/-- ITS FALSE NEIGHBOUR: 'it returns false'. Refute it at one input. -/
def indexCountsWrong : ChangeSpec := { name := "indexCounts", fn := fun _ => fun
  | [d1, d2] => { results := [.lit (.bool false)], args := [d1, d2] }
  | _ => none }
def IndexCountsWrongFalsely : Prop := indexCountsRow.holds Tryz.pinned (OpenSpec.ofChange indexCountsWrong)

/-- 'colophonlaw19.IndexTops': WHATEVER THE INPUT: true; the input reads as it did. -/
def indexTopsSpec : ChangeSpec := { name := "indexTops", fn := fun _ => fun
  | [d1, d2, d3] => { results := [.lit (.bool true)], args := [d1, d2, d3] }
  | _ => none }
def indexTopsRow : OpenClaim := { program := "ytekmpjgcmooppaagreat", sum := "860c0681682e7bea3752f76c612662c2658707df91bce220f9b1e9db8ba1ba9c", func := "colophon/colophonlaw19.IndexTops", spec := "indexTops", unfollowed := true, recurses := true, apart := false }
def IndexTopsSaid : Prop := indexTopsRow.holds Tryz.pinned (OpenSpec.ofChange indexTopsSpec)

/-- ITS FALSE NEIGHBOUR: 'it returns false'. Refute it at one input. -/
def indexTopsWrong : ChangeSpec := { name := "indexTops", fn := fun _ => fun
  | [d1, d2, d3] => { results := [.lit (.bool false)], args := [d1, d2, d3] }
  | _ => none }
def IndexTopsWrongFalsely : Prop := indexTopsRow.holds Tryz.pinned (OpenSpec.ofChange indexTopsWrong)

/-- 'colophonlaw19.IndexPlaces': WHATEVER THE INPUT: true; the input reads as it did. -/
def indexPlacesSpec : ChangeSpec := { name := "indexPlaces", fn := fun _ => fun
  | [d1, d2] => { results := [.lit (.bool true)], args := [d1, d2] }
  | _ => none }
def indexPlacesRow : OpenClaim := { program := "ytekmpjgcmooppaagreat", sum := "860c0681682e7bea3752f76c612662c2658707df91bce220f9b1e9db8ba1ba9c", func := "colophon/colophonlaw19.IndexPlaces", spec := "indexPlaces", unfollowed := true, recurses := true, apart := false }
def IndexPlacesSaid : Prop := indexPlacesRow.holds Tryz.pinned (OpenSpec.ofChange indexPlacesSpec)

/-- ITS FALSE NEIGHBOUR: 'it returns false'. Refute it at one input. -/
def indexPlacesWrong : ChangeSpec := { name := "indexPlaces", fn := fun _ => fun
  | [d1, d2] => { results := [.lit (.bool false)], args := [d1, d2] }
  | _ => none }
def IndexPlacesWrongFalsely : Prop := indexPlacesRow.holds Tryz.pinned (OpenSpec.ofChange indexPlacesWrong)

/-- 'colophonlaw19.IndexAgrees': WHATEVER THE INPUT: true; the input reads as it did. -/
def indexAgreesSpec : ChangeSpec := { name := "indexAgrees", fn := fun _ => fun
  | [d1, d2, d3] => { results := [.lit (.bool true)], args := [d1, d2, d3] }
  | _ => none }
def indexAgreesRow : OpenClaim := { program := "ytekmpjgcmooppaagreat", sum := "860c0681682e7bea3752f76c612662c2658707df91bce220f9b1e9db8ba1ba9c", func := "colophon/colophonlaw19.IndexAgrees", spec := "indexAgrees", unfollowed := true, recurses := true, apart := false }
def IndexAgreesSaid : Prop := indexAgreesRow.holds Tryz.pinned (OpenSpec.ofChange indexAgreesSpec)

/-- ITS FALSE NEIGHBOUR: 'it returns false'. Refute it at one input. -/
def indexAgreesWrong : ChangeSpec := { name := "indexAgrees", fn := fun _ => fun
  | [d1, d2, d3] => { results := [.lit (.bool false)], args := [d1, d2, d3] }
  | _ => none }
def IndexAgreesWrongFalsely : Prop := indexAgreesRow.holds Tryz.pinned (OpenSpec.ofChange indexAgreesWrong)

/-- 'colophonlaw19.IndexTwice': WHATEVER THE INPUT: true; the input reads as it did. -/
def indexTwiceSpec : ChangeSpec := { name := "indexTwice", fn := fun _ => fun
  | [d1, d2] => { results := [.lit (.bool true)], args := [d1, d2] }
  | _ => none }
def indexTwiceRow : OpenClaim := { program := "ytekmpjgcmooppaagreat", sum := "860c0681682e7bea3752f76c612662c2658707df91bce220f9b1e9db8ba1ba9c", func := "colophon/colophonlaw19.IndexTwice", spec := "indexTwice", unfollowed := true, recurses := true, apart := false }
def IndexTwiceSaid : Prop := indexTwiceRow.holds Tryz.pinned (OpenSpec.ofChange indexTwiceSpec)

/-- ITS FALSE NEIGHBOUR: 'it returns false'. Refute it at one input. -/
def indexTwiceWrong : ChangeSpec := { name := "indexTwice", fn := fun _ => fun
  | [d1, d2] => { results := [.lit (.bool false)], args := [d1, d2] }
  | _ => none }
def IndexTwiceWrongFalsely : Prop := indexTwiceRow.holds Tryz.pinned (OpenSpec.ofChange indexTwiceWrong)

/-- 'colophonlaw20.StoreLoads': WHATEVER THE INPUT: true; the input reads as it did. -/
def storeLoadsSpec : ChangeSpec := { name := "storeLoads", fn := fun _ => fun
  | [d1, d2] => { results := [.lit (.bool true)], args := [d1, d2] }
  | _ => none }
def storeLoadsRow : OpenClaim := { program := "ytekmpjgcmooppaagreat", sum := "860c0681682e7bea3752f76c612662c2658707df91bce220f9b1e9db8ba1ba9c", func := "colophon/colophonlaw20.StoreLoads", spec := "storeLoads", unfollowed := true, recurses := true, apart := false }
def StoreLoadsSaid : Prop := storeLoadsRow.holds Tryz.pinned (OpenSpec.ofChange storeLoadsSpec)

/-- ITS FALSE NEIGHBOUR: 'it returns false'. Refute it at one input. -/
def storeLoadsWrong : ChangeSpec := { name := "storeLoads", fn := fun _ => fun
  | [d1, d2] => { results := [.lit (.bool false)], args := [d1, d2] }
  | _ => none }
def StoreLoadsWrongFalsely : Prop := storeLoadsRow.holds Tryz.pinned (OpenSpec.ofChange storeLoadsWrong)

/-- 'colophonlaw20.StoreApart': WHATEVER THE INPUT: true; the input reads as it did. -/
def storeApartSpec : ChangeSpec := { name := "storeApart", fn := fun _ => fun
  | [d1, d2] => { results := [.lit (.bool true)], args := [d1, d2] }
  | _ => none }
def storeApartRow : OpenClaim := { program := "ytekmpjgcmooppaagreat", sum := "860c0681682e7bea3752f76c612662c2658707df91bce220f9b1e9db8ba1ba9c", func := "colophon/colophonlaw20.StoreApart", spec := "storeApart", unfollowed := true, recurses := true, apart := false }
def StoreApartSaid : Prop := storeApartRow.holds Tryz.pinned (OpenSpec.ofChange storeApartSpec)

/-- ITS FALSE NEIGHBOUR: 'it returns false'. Refute it at one input. -/
def storeApartWrong : ChangeSpec := { name := "storeApart", fn := fun _ => fun
  | [d1, d2] => { results := [.lit (.bool false)], args := [d1, d2] }
  | _ => none }
def StoreApartWrongFalsely : Prop := storeApartRow.holds Tryz.pinned (OpenSpec.ofChange storeApartWrong)

/-- 'colophonlaw20.StoreSaves': WHATEVER THE INPUT: true; the input reads as it did. -/
def storeSavesSpec : ChangeSpec := { name := "storeSaves", fn := fun _ => fun
  | [d] => { results := [.lit (.bool true)], args := [d] }
  | _ => none }
def storeSavesRow : OpenClaim := { program := "ytekmpjgcmooppaagreat", sum := "860c0681682e7bea3752f76c612662c2658707df91bce220f9b1e9db8ba1ba9c", func := "colophon/colophonlaw20.StoreSaves", spec := "storeSaves", unfollowed := true, recurses := true, apart := false }
def StoreSavesSaid : Prop := storeSavesRow.holds Tryz.pinned (OpenSpec.ofChange storeSavesSpec)

/-- ITS FALSE NEIGHBOUR: 'it returns false'. Refute it at one input. -/
def storeSavesWrong : ChangeSpec := { name := "storeSaves", fn := fun _ => fun
  | [d] => { results := [.lit (.bool false)], args := [d] }
  | _ => none }
def StoreSavesWrongFalsely : Prop := storeSavesRow.holds Tryz.pinned (OpenSpec.ofChange storeSavesWrong)

/-- 'colophonlaw20.StoreParts': WHATEVER THE INPUT: true; the input reads as it did. -/
def storePartsSpec : ChangeSpec := { name := "storeParts", fn := fun _ => fun
  | [d1, d2, d3] => { results := [.lit (.bool true)], args := [d1, d2, d3] }
  | _ => none }
def storePartsRow : OpenClaim := { program := "ytekmpjgcmooppaagreat", sum := "860c0681682e7bea3752f76c612662c2658707df91bce220f9b1e9db8ba1ba9c", func := "colophon/colophonlaw20.StoreParts", spec := "storeParts", unfollowed := true, recurses := true, apart := false }
def StorePartsSaid : Prop := storePartsRow.holds Tryz.pinned (OpenSpec.ofChange storePartsSpec)

/-- ITS FALSE NEIGHBOUR: 'it returns false'. Refute it at one input. -/
def storePartsWrong : ChangeSpec := { name := "storeParts", fn := fun _ => fun
  | [d1, d2, d3] => { results := [.lit (.bool false)], args := [d1, d2, d3] }
  | _ => none }
def StorePartsWrongFalsely : Prop := storePartsRow.holds Tryz.pinned (OpenSpec.ofChange storePartsWrong)

/-- 'colophonlaw20.StoreRows': WHATEVER THE INPUT: true; the input reads as it did. -/
def storeRowsSpec : ChangeSpec := { name := "storeRows", fn := fun _ => fun
  | [d1, d2, d3] => { results := [.lit (.bool true)], args := [d1, d2, d3] }
  | _ => none }
def storeRowsRow : OpenClaim := { program := "ytekmpjgcmooppaagreat", sum := "860c0681682e7bea3752f76c612662c2658707df91bce220f9b1e9db8ba1ba9c", func := "colophon/colophonlaw20.StoreRows", spec := "storeRows", unfollowed := true, recurses := true, apart := false }
def StoreRowsSaid : Prop := storeRowsRow.holds Tryz.pinned (OpenSpec.ofChange storeRowsSpec)

/-- ITS FALSE NEIGHBOUR: 'it returns false'. Refute it at one input. -/
def storeRowsWrong : ChangeSpec := { name := "storeRows", fn := fun _ => fun
  | [d1, d2, d3] => { results := [.lit (.bool false)], args := [d1, d2, d3] }
  | _ => none }
def StoreRowsWrongFalsely : Prop := storeRowsRow.holds Tryz.pinned (OpenSpec.ofChange storeRowsWrong)

/-- 'colophonlaw20.StoreSums': WHATEVER THE INPUT: true; the input reads as it did. -/
def storeSumsSpec : ChangeSpec := { name := "storeSums", fn := fun _ => fun
  | [d1, d2] => { results := [.lit (.bool true)], args := [d1, d2] }
  | _ => none }
def storeSumsRow : OpenClaim := { program := "ytekmpjgcmooppaagreat", sum := "860c0681682e7bea3752f76c612662c2658707df91bce220f9b1e9db8ba1ba9c", func := "colophon/colophonlaw20.StoreSums", spec := "storeSums", unfollowed := true, recurses := true, apart := false }
def StoreSumsSaid : Prop := storeSumsRow.holds Tryz.pinned (OpenSpec.ofChange storeSumsSpec)

/-- ITS FALSE NEIGHBOUR: 'it returns false'. Refute it at one input. -/
def storeSumsWrong : ChangeSpec := { name := "storeSums", fn := fun _ => fun
  | [d1, d2] => { results := [.lit (.bool false)], args := [d1, d2] }
  | _ => none }
def StoreSumsWrongFalsely : Prop := storeSumsRow.holds Tryz.pinned (OpenSpec.ofChange storeSumsWrong)

/-- 'colophonlaw20.StoreRanks': WHATEVER THE INPUT: true; the input reads as it did. -/
def storeRanksSpec : ChangeSpec := { name := "storeRanks", fn := fun _ => fun
  | [d1, d2, d3] => { results := [.lit (.bool true)], args := [d1, d2, d3] }
  | _ => none }
def storeRanksRow : OpenClaim := { program := "ytekmpjgcmooppaagreat", sum := "860c0681682e7bea3752f76c612662c2658707df91bce220f9b1e9db8ba1ba9c", func := "colophon/colophonlaw20.StoreRanks", spec := "storeRanks", unfollowed := true, recurses := true, apart := false }
def StoreRanksSaid : Prop := storeRanksRow.holds Tryz.pinned (OpenSpec.ofChange storeRanksSpec)

/-- ITS FALSE NEIGHBOUR: 'it returns false'. Refute it at one input. -/
def storeRanksWrong : ChangeSpec := { name := "storeRanks", fn := fun _ => fun
  | [d1, d2, d3] => { results := [.lit (.bool false)], args := [d1, d2, d3] }
  | _ => none }
def StoreRanksWrongFalsely : Prop := storeRanksRow.holds Tryz.pinned (OpenSpec.ofChange storeRanksWrong)

/- THE SECOND FORM. 'bulk': how many values and letters a reading holds, each counted each time it is reached (what is shared counts as often as it is met; a slice's spare places count too). A statement '..UptoSaid' is the law's where the arguments, and the package variables that the reading takes, are together of bulk at most 1048576: NARROWER than '..Said'. Prove '..Said' where nothing that the law and all that it calls make is longer than what came in: it says more and counts as full. Else prove '..UptoSaid'. A law counts once. -/
mutual
def uptoBulk {H : Type} : DataW H → Nat
  | .lit (.string bytes) => bytes.length + 1
  | .lit _ => 1
  | .nil => 1
  | .ptr d => uptoBulk d + 1
  | .slice elems spare => uptoBulkAll elems + uptoBulkAll spare + 1
  | .agg parts => uptoBulkAll parts + 1
  | .iface _ d => uptoBulk d + 1
  | .map entries => uptoBulkEntries entries + 1
  | .held _ => 1
def uptoBulkAll {H : Type} : List (DataW H) → Nat
  | [] => 0
  | d :: r => uptoBulk d + uptoBulkAll r
def uptoBulkEntries {H : Type} : List (Lit × DataW H) → Nat
  | [] => 0
  | x :: r => uptoBulkEntry x + uptoBulkEntries r
def uptoBulkEntry {H : Type} : Lit × DataW H → Nat
  | (.string bytes, d) => bytes.length + uptoBulk d + 1
  | (_, d) => uptoBulk d + 1
 end
def uptoSmall : (H : Type) → List (DataW H) → Bool := fun _ ds => decide (uptoBulkAll ds ≤ 1048576)
def OpenSpec.upto (s : _root_.Go.ChangeSpec) : _root_.Go.OpenSpec := { _root_.Go.OpenSpec.ofChange s with cond := some uptoSmall }

/-- 'colophonlaw19.IndexCounts', WHERE WHAT IT READS IS OF BULK AT MOST 1048576: true; the input reads as it did. -/
def indexCountsUptoRow : OpenClaim := { program := "ytekmpjgcmooppaagreat", sum := "860c0681682e7bea3752f76c612662c2658707df91bce220f9b1e9db8ba1ba9c", func := "colophon/colophonlaw19.IndexCounts", spec := "indexCounts", unfollowed := true, recurses := true, apart := false, narrowed := true }
def IndexCountsUptoSaid : Prop := indexCountsUptoRow.holds Tryz.pinned (OpenSpec.upto indexCountsSpec)

/-- 'colophonlaw19.IndexTops', WHERE WHAT IT READS IS OF BULK AT MOST 1048576: true; the input reads as it did. -/
def indexTopsUptoRow : OpenClaim := { program := "ytekmpjgcmooppaagreat", sum := "860c0681682e7bea3752f76c612662c2658707df91bce220f9b1e9db8ba1ba9c", func := "colophon/colophonlaw19.IndexTops", spec := "indexTops", unfollowed := true, recurses := true, apart := false, narrowed := true }
def IndexTopsUptoSaid : Prop := indexTopsUptoRow.holds Tryz.pinned (OpenSpec.upto indexTopsSpec)

/-- 'colophonlaw19.IndexPlaces', WHERE WHAT IT READS IS OF BULK AT MOST 1048576: true; the input reads as it did. -/
def indexPlacesUptoRow : OpenClaim := { program := "ytekmpjgcmooppaagreat", sum := "860c0681682e7bea3752f76c612662c2658707df91bce220f9b1e9db8ba1ba9c", func := "colophon/colophonlaw19.IndexPlaces", spec := "indexPlaces", unfollowed := true, recurses := true, apart := false, narrowed := true }
def IndexPlacesUptoSaid : Prop := indexPlacesUptoRow.holds Tryz.pinned (OpenSpec.upto indexPlacesSpec)

/-- 'colophonlaw19.IndexAgrees', WHERE WHAT IT READS IS OF BULK AT MOST 1048576: true; the input reads as it did. -/
def indexAgreesUptoRow : OpenClaim := { program := "ytekmpjgcmooppaagreat", sum := "860c0681682e7bea3752f76c612662c2658707df91bce220f9b1e9db8ba1ba9c", func := "colophon/colophonlaw19.IndexAgrees", spec := "indexAgrees", unfollowed := true, recurses := true, apart := false, narrowed := true }
def IndexAgreesUptoSaid : Prop := indexAgreesUptoRow.holds Tryz.pinned (OpenSpec.upto indexAgreesSpec)

/-- 'colophonlaw19.IndexTwice', WHERE WHAT IT READS IS OF BULK AT MOST 1048576: true; the input reads as it did. -/
def indexTwiceUptoRow : OpenClaim := { program := "ytekmpjgcmooppaagreat", sum := "860c0681682e7bea3752f76c612662c2658707df91bce220f9b1e9db8ba1ba9c", func := "colophon/colophonlaw19.IndexTwice", spec := "indexTwice", unfollowed := true, recurses := true, apart := false, narrowed := true }
def IndexTwiceUptoSaid : Prop := indexTwiceUptoRow.holds Tryz.pinned (OpenSpec.upto indexTwiceSpec)

/-- 'colophonlaw20.StoreLoads', WHERE WHAT IT READS IS OF BULK AT MOST 1048576: true; the input reads as it did. -/
def storeLoadsUptoRow : OpenClaim := { program := "ytekmpjgcmooppaagreat", sum := "860c0681682e7bea3752f76c612662c2658707df91bce220f9b1e9db8ba1ba9c", func := "colophon/colophonlaw20.StoreLoads", spec := "storeLoads", unfollowed := true, recurses := true, apart := false, narrowed := true }
def StoreLoadsUptoSaid : Prop := storeLoadsUptoRow.holds Tryz.pinned (OpenSpec.upto storeLoadsSpec)

/-- 'colophonlaw20.StoreApart', WHERE WHAT IT READS IS OF BULK AT MOST 1048576: true; the input reads as it did. -/
def storeApartUptoRow : OpenClaim := { program := "ytekmpjgcmooppaagreat", sum := "860c0681682e7bea3752f76c612662c2658707df91bce220f9b1e9db8ba1ba9c", func := "colophon/colophonlaw20.StoreApart", spec := "storeApart", unfollowed := true, recurses := true, apart := false, narrowed := true }
def StoreApartUptoSaid : Prop := storeApartUptoRow.holds Tryz.pinned (OpenSpec.upto storeApartSpec)

/-- 'colophonlaw20.StoreSaves', WHERE WHAT IT READS IS OF BULK AT MOST 1048576: true; the input reads as it did. -/
def storeSavesUptoRow : OpenClaim := { program := "ytekmpjgcmooppaagreat", sum := "860c0681682e7bea3752f76c612662c2658707df91bce220f9b1e9db8ba1ba9c", func := "colophon/colophonlaw20.StoreSaves", spec := "storeSaves", unfollowed := true, recurses := true, apart := false, narrowed := true }
def StoreSavesUptoSaid : Prop := storeSavesUptoRow.holds Tryz.pinned (OpenSpec.upto storeSavesSpec)

/-- 'colophonlaw20.StoreParts', WHERE WHAT IT READS IS OF BULK AT MOST 1048576: true; the input reads as it did. -/
def storePartsUptoRow : OpenClaim := { program := "ytekmpjgcmooppaagreat", sum := "860c0681682e7bea3752f76c612662c2658707df91bce220f9b1e9db8ba1ba9c", func := "colophon/colophonlaw20.StoreParts", spec := "storeParts", unfollowed := true, recurses := true, apart := false, narrowed := true }
def StorePartsUptoSaid : Prop := storePartsUptoRow.holds Tryz.pinned (OpenSpec.upto storePartsSpec)

/-- 'colophonlaw20.StoreRows', WHERE WHAT IT READS IS OF BULK AT MOST 1048576: true; the input reads as it did. -/
def storeRowsUptoRow : OpenClaim := { program := "ytekmpjgcmooppaagreat", sum := "860c0681682e7bea3752f76c612662c2658707df91bce220f9b1e9db8ba1ba9c", func := "colophon/colophonlaw20.StoreRows", spec := "storeRows", unfollowed := true, recurses := true, apart := false, narrowed := true }
def StoreRowsUptoSaid : Prop := storeRowsUptoRow.holds Tryz.pinned (OpenSpec.upto storeRowsSpec)

/-- 'colophonlaw20.StoreSums', WHERE WHAT IT READS IS OF BULK AT MOST 1048576: true; the input reads as it did. -/
def storeSumsUptoRow : OpenClaim := { program := "ytekmpjgcmooppaagreat", sum := "860c0681682e7bea3752f76c612662c2658707df91bce220f9b1e9db8ba1ba9c", func := "colophon/colophonlaw20.StoreSums", spec := "storeSums", unfollowed := true, recurses := true, apart := false, narrowed := true }
def StoreSumsUptoSaid : Prop := storeSumsUptoRow.holds Tryz.pinned (OpenSpec.upto storeSumsSpec)

/-- 'colophonlaw20.StoreRanks', WHERE WHAT IT READS IS OF BULK AT MOST 1048576: true; the input reads as it did. -/
def storeRanksUptoRow : OpenClaim := { program := "ytekmpjgcmooppaagreat", sum := "860c0681682e7bea3752f76c612662c2658707df91bce220f9b1e9db8ba1ba9c", func := "colophon/colophonlaw20.StoreRanks", spec := "storeRanks", unfollowed := true, recurses := true, apart := false, narrowed := true }
def StoreRanksUptoSaid : Prop := storeRanksUptoRow.holds Tryz.pinned (OpenSpec.upto storeRanksSpec)

end Rows
end Go.Proofs.YtekmpjgcmooppaaGreat
