/-
  No cell of these rows narrows 'for every input' (looked for: loops, veiled, ifaces, maps, wideKeys, modest, calm, conditions, laid).
  DERIVED. THE GIVEN ROWS OF THIS SEAT. 12 by the template 'for every input the law returns true; each argument reads behind the call as it read before'; 0 by the template 'total and deterministic' (their statements: YtmbbcabhgcagaaaTotals.lean).
  GIVEN WITH THE SEED: the statements are not yours to turn. If you find one false, say at which input.
  Laid BY PROGRAM, IN A SANDBOX (cutbox-rows.mjs): the forced cells as the released guide's own fill.sh prints them over the translation d76cd6ad71975af1… (all of the seat's roots in one cut). By AI agents, Wed Nov 11 2026. No macro, syntax, notation, axiom, sorry.
-/
import Derived.Test.YtmbbcabhgcagaaaChecked
import GoSem.Claim
import GoSem.ClaimJoined
import GoSem.ClaimMapViews
import Derived.JoinedTies
import Derived.KernelRfl
namespace Go.Proofs.Ytmbbcabhgcagaaa
/- THE CELL 'sum', in the pinned program and in every row, IS THE sha256 OF THE DUMP (.gsa) THAT YtmbbcabhgcagaaaProg.lean LOADS. Nothing in Lean hashes anything: it is a label: what it is worth is what the hold of that sum in a sandbox is worth. -/
noncomputable def Try.pinned : Pinned := { name := "ytmbbcabhgcagaaa", sum := "d76cd6ad71975af1dc701df1b4aca7694c5d26a3417d36b9c27f780db831e53d", checked := Try.checked }
namespace Rows
def none {H : Type} : Left H := { results := [], args := [] }

/-- 'colophonlaw11.BwtMakes': WHATEVER THE INPUT: true; the input reads as it did. -/
def bwtMakesSpec : ChangeSpec := { name := "bwtMakes", fn := fun _ => fun
  | [d1, d2] => { results := [.lit (.bool true)], args := [d1, d2] }
  | _ => none }
def bwtMakesRow : OpenClaim := { program := "ytmbbcabhgcagaaa", sum := "d76cd6ad71975af1dc701df1b4aca7694c5d26a3417d36b9c27f780db831e53d", func := "colophon/colophonlaw11.BwtMakes", spec := "bwtMakes", unfollowed := true, recurses := true, apart := false }
def BwtMakesSaid : Prop := bwtMakesRow.holds Try.pinned (OpenSpec.ofChange bwtMakesSpec)

/-- ITS FALSE NEIGHBOUR: 'it returns false'. Refute it at one input. -/
def bwtMakesWrong : ChangeSpec := { name := "bwtMakes", fn := fun _ => fun
  | [d1, d2] => { results := [.lit (.bool false)], args := [d1, d2] }
  | _ => none }
def BwtMakesWrongFalsely : Prop := bwtMakesRow.holds Try.pinned (OpenSpec.ofChange bwtMakesWrong)

/-- 'colophonlaw11.BwtCounts': WHATEVER THE INPUT: true; the input reads as it did. -/
def bwtCountsSpec : ChangeSpec := { name := "bwtCounts", fn := fun _ => fun
  | [d1, d2] => { results := [.lit (.bool true)], args := [d1, d2] }
  | _ => none }
def bwtCountsRow : OpenClaim := { program := "ytmbbcabhgcagaaa", sum := "d76cd6ad71975af1dc701df1b4aca7694c5d26a3417d36b9c27f780db831e53d", func := "colophon/colophonlaw11.BwtCounts", spec := "bwtCounts", unfollowed := true, recurses := true, apart := false }
def BwtCountsSaid : Prop := bwtCountsRow.holds Try.pinned (OpenSpec.ofChange bwtCountsSpec)

/-- ITS FALSE NEIGHBOUR: 'it returns false'. Refute it at one input. -/
def bwtCountsWrong : ChangeSpec := { name := "bwtCounts", fn := fun _ => fun
  | [d1, d2] => { results := [.lit (.bool false)], args := [d1, d2] }
  | _ => none }
def BwtCountsWrongFalsely : Prop := bwtCountsRow.holds Try.pinned (OpenSpec.ofChange bwtCountsWrong)

/-- 'colophonlaw11.BwtBack': WHATEVER THE INPUT: true; the input reads as it did. -/
def bwtBackSpec : ChangeSpec := { name := "bwtBack", fn := fun _ => fun
  | [d1, d2, d3] => { results := [.lit (.bool true)], args := [d1, d2, d3] }
  | _ => none }
def bwtBackRow : OpenClaim := { program := "ytmbbcabhgcagaaa", sum := "d76cd6ad71975af1dc701df1b4aca7694c5d26a3417d36b9c27f780db831e53d", func := "colophon/colophonlaw11.BwtBack", spec := "bwtBack", unfollowed := true, recurses := true, apart := false }
def BwtBackSaid : Prop := bwtBackRow.holds Try.pinned (OpenSpec.ofChange bwtBackSpec)

/-- ITS FALSE NEIGHBOUR: 'it returns false'. Refute it at one input. -/
def bwtBackWrong : ChangeSpec := { name := "bwtBack", fn := fun _ => fun
  | [d1, d2, d3] => { results := [.lit (.bool false)], args := [d1, d2, d3] }
  | _ => none }
def BwtBackWrongFalsely : Prop := bwtBackRow.holds Try.pinned (OpenSpec.ofChange bwtBackWrong)

/-- 'colophonlaw11.BwtTurns': WHATEVER THE INPUT: true; the input reads as it did. -/
def bwtTurnsSpec : ChangeSpec := { name := "bwtTurns", fn := fun _ => fun
  | [d1, d2] => { results := [.lit (.bool true)], args := [d1, d2] }
  | _ => none }
def bwtTurnsRow : OpenClaim := { program := "ytmbbcabhgcagaaa", sum := "d76cd6ad71975af1dc701df1b4aca7694c5d26a3417d36b9c27f780db831e53d", func := "colophon/colophonlaw11.BwtTurns", spec := "bwtTurns", unfollowed := true, recurses := true, apart := false }
def BwtTurnsSaid : Prop := bwtTurnsRow.holds Try.pinned (OpenSpec.ofChange bwtTurnsSpec)

/-- ITS FALSE NEIGHBOUR: 'it returns false'. Refute it at one input. -/
def bwtTurnsWrong : ChangeSpec := { name := "bwtTurns", fn := fun _ => fun
  | [d1, d2] => { results := [.lit (.bool false)], args := [d1, d2] }
  | _ => none }
def BwtTurnsWrongFalsely : Prop := bwtTurnsRow.holds Try.pinned (OpenSpec.ofChange bwtTurnsWrong)

/-- 'colophonlaw11.BwtKeeps': WHATEVER THE INPUT: true; the input reads as it did. -/
def bwtKeepsSpec : ChangeSpec := { name := "bwtKeeps", fn := fun _ => fun
  | [d] => { results := [.lit (.bool true)], args := [d] }
  | _ => none }
def bwtKeepsRow : OpenClaim := { program := "ytmbbcabhgcagaaa", sum := "d76cd6ad71975af1dc701df1b4aca7694c5d26a3417d36b9c27f780db831e53d", func := "colophon/colophonlaw11.BwtKeeps", spec := "bwtKeeps", unfollowed := true, recurses := true, apart := false }
def BwtKeepsSaid : Prop := bwtKeepsRow.holds Try.pinned (OpenSpec.ofChange bwtKeepsSpec)

/-- ITS FALSE NEIGHBOUR: 'it returns false'. Refute it at one input. -/
def bwtKeepsWrong : ChangeSpec := { name := "bwtKeeps", fn := fun _ => fun
  | [d] => { results := [.lit (.bool false)], args := [d] }
  | _ => none }
def BwtKeepsWrongFalsely : Prop := bwtKeepsRow.holds Try.pinned (OpenSpec.ofChange bwtKeepsWrong)

/-- 'colophonlaw13.WaveMakes': WHATEVER THE INPUT: true; the input reads as it did. -/
def waveMakesSpec : ChangeSpec := { name := "waveMakes", fn := fun _ => fun
  | [d1, d2] => { results := [.lit (.bool true)], args := [d1, d2] }
  | _ => none }
def waveMakesRow : OpenClaim := { program := "ytmbbcabhgcagaaa", sum := "d76cd6ad71975af1dc701df1b4aca7694c5d26a3417d36b9c27f780db831e53d", func := "colophon/colophonlaw13.WaveMakes", spec := "waveMakes", unfollowed := true, recurses := true, apart := false }
def WaveMakesSaid : Prop := waveMakesRow.holds Try.pinned (OpenSpec.ofChange waveMakesSpec)

/-- ITS FALSE NEIGHBOUR: 'it returns false'. Refute it at one input. -/
def waveMakesWrong : ChangeSpec := { name := "waveMakes", fn := fun _ => fun
  | [d1, d2] => { results := [.lit (.bool false)], args := [d1, d2] }
  | _ => none }
def WaveMakesWrongFalsely : Prop := waveMakesRow.holds Try.pinned (OpenSpec.ofChange waveMakesWrong)

/-- 'colophonlaw13.WaveRanks': WHATEVER THE INPUT: true; the input reads as it did. -/
def waveRanksSpec : ChangeSpec := { name := "waveRanks", fn := fun _ => fun
  | [d1, d2, d3] => { results := [.lit (.bool true)], args := [d1, d2, d3] }
  | _ => none }
def waveRanksRow : OpenClaim := { program := "ytmbbcabhgcagaaa", sum := "d76cd6ad71975af1dc701df1b4aca7694c5d26a3417d36b9c27f780db831e53d", func := "colophon/colophonlaw13.WaveRanks", spec := "waveRanks", unfollowed := true, recurses := true, apart := false }
def WaveRanksSaid : Prop := waveRanksRow.holds Try.pinned (OpenSpec.ofChange waveRanksSpec)

/-- ITS FALSE NEIGHBOUR: 'it returns false'. Refute it at one input. -/
def waveRanksWrong : ChangeSpec := { name := "waveRanks", fn := fun _ => fun
  | [d1, d2, d3] => { results := [.lit (.bool false)], args := [d1, d2, d3] }
  | _ => none }
def WaveRanksWrongFalsely : Prop := waveRanksRow.holds Try.pinned (OpenSpec.ofChange waveRanksWrong)

/-- 'colophonlaw13.WaveRanges': WHATEVER THE INPUT: true; the input reads as it did. -/
def waveRangesSpec : ChangeSpec := { name := "waveRanges", fn := fun _ => fun
  | [d1, d2, d3] => { results := [.lit (.bool true)], args := [d1, d2, d3] }
  | _ => none }
def waveRangesRow : OpenClaim := { program := "ytmbbcabhgcagaaa", sum := "d76cd6ad71975af1dc701df1b4aca7694c5d26a3417d36b9c27f780db831e53d", func := "colophon/colophonlaw13.WaveRanges", spec := "waveRanges", unfollowed := true, recurses := true, apart := false }
def WaveRangesSaid : Prop := waveRangesRow.holds Try.pinned (OpenSpec.ofChange waveRangesSpec)

/-- ITS FALSE NEIGHBOUR: 'it returns false'. Refute it at one input. -/
def waveRangesWrong : ChangeSpec := { name := "waveRanges", fn := fun _ => fun
  | [d1, d2, d3] => { results := [.lit (.bool false)], args := [d1, d2, d3] }
  | _ => none }
def WaveRangesWrongFalsely : Prop := waveRangesRow.holds Try.pinned (OpenSpec.ofChange waveRangesWrong)

/-- 'colophonlaw13.WaveTurns': WHATEVER THE INPUT: true; the input reads as it did. -/
def waveTurnsSpec : ChangeSpec := { name := "waveTurns", fn := fun _ => fun
  | [d] => { results := [.lit (.bool true)], args := [d] }
  | _ => none }
def waveTurnsRow : OpenClaim := { program := "ytmbbcabhgcagaaa", sum := "d76cd6ad71975af1dc701df1b4aca7694c5d26a3417d36b9c27f780db831e53d", func := "colophon/colophonlaw13.WaveTurns", spec := "waveTurns", unfollowed := true, recurses := true, apart := false }
def WaveTurnsSaid : Prop := waveTurnsRow.holds Try.pinned (OpenSpec.ofChange waveTurnsSpec)

/-- ITS FALSE NEIGHBOUR: 'it returns false'. Refute it at one input. -/
def waveTurnsWrong : ChangeSpec := { name := "waveTurns", fn := fun _ => fun
  | [d] => { results := [.lit (.bool false)], args := [d] }
  | _ => none }
def WaveTurnsWrongFalsely : Prop := waveTurnsRow.holds Try.pinned (OpenSpec.ofChange waveTurnsWrong)

/-- 'colophonlaw13.WaveSorts': WHATEVER THE INPUT: true; the input reads as it did. -/
def waveSortsSpec : ChangeSpec := { name := "waveSorts", fn := fun _ => fun
  | [d1, d2] => { results := [.lit (.bool true)], args := [d1, d2] }
  | _ => none }
def waveSortsRow : OpenClaim := { program := "ytmbbcabhgcagaaa", sum := "d76cd6ad71975af1dc701df1b4aca7694c5d26a3417d36b9c27f780db831e53d", func := "colophon/colophonlaw13.WaveSorts", spec := "waveSorts", unfollowed := true, recurses := true, apart := false }
def WaveSortsSaid : Prop := waveSortsRow.holds Try.pinned (OpenSpec.ofChange waveSortsSpec)

/-- ITS FALSE NEIGHBOUR: 'it returns false'. Refute it at one input. -/
def waveSortsWrong : ChangeSpec := { name := "waveSorts", fn := fun _ => fun
  | [d1, d2] => { results := [.lit (.bool false)], args := [d1, d2] }
  | _ => none }
def WaveSortsWrongFalsely : Prop := waveSortsRow.holds Try.pinned (OpenSpec.ofChange waveSortsWrong)

/-- 'colophonlaw13.WaveAdds': WHATEVER THE INPUT: true; the input reads as it did. -/
def waveAddsSpec : ChangeSpec := { name := "waveAdds", fn := fun _ => fun
  | [d1, d2, d3] => { results := [.lit (.bool true)], args := [d1, d2, d3] }
  | _ => none }
def waveAddsRow : OpenClaim := { program := "ytmbbcabhgcagaaa", sum := "d76cd6ad71975af1dc701df1b4aca7694c5d26a3417d36b9c27f780db831e53d", func := "colophon/colophonlaw13.WaveAdds", spec := "waveAdds", unfollowed := true, recurses := true, apart := false }
def WaveAddsSaid : Prop := waveAddsRow.holds Try.pinned (OpenSpec.ofChange waveAddsSpec)

/-- ITS FALSE NEIGHBOUR: 'it returns false'. Refute it at one input. -/
def waveAddsWrong : ChangeSpec := { name := "waveAdds", fn := fun _ => fun
  | [d1, d2, d3] => { results := [.lit (.bool false)], args := [d1, d2, d3] }
  | _ => none }
def WaveAddsWrongFalsely : Prop := waveAddsRow.holds Try.pinned (OpenSpec.ofChange waveAddsWrong)

/-- 'colophonlaw13.WaveWidths': WHATEVER THE INPUT: true; the input reads as it did. -/
def waveWidthsSpec : ChangeSpec := { name := "waveWidths", fn := fun _ => fun
  | [d1, d2, d3] => { results := [.lit (.bool true)], args := [d1, d2, d3] }
  | _ => none }
def waveWidthsRow : OpenClaim := { program := "ytmbbcabhgcagaaa", sum := "d76cd6ad71975af1dc701df1b4aca7694c5d26a3417d36b9c27f780db831e53d", func := "colophon/colophonlaw13.WaveWidths", spec := "waveWidths", unfollowed := true, recurses := true, apart := false }
def WaveWidthsSaid : Prop := waveWidthsRow.holds Try.pinned (OpenSpec.ofChange waveWidthsSpec)

/-- ITS FALSE NEIGHBOUR: 'it returns false'. Refute it at one input. -/
def waveWidthsWrong : ChangeSpec := { name := "waveWidths", fn := fun _ => fun
  | [d1, d2, d3] => { results := [.lit (.bool false)], args := [d1, d2, d3] }
  | _ => none }
def WaveWidthsWrongFalsely : Prop := waveWidthsRow.holds Try.pinned (OpenSpec.ofChange waveWidthsWrong)

/- THE SECOND FORM. 'bulk': how many values and letters a reading holds, each counted each time it is reached (what is shared counts as often as it is met; a slice's spare places count too). A statement '..UptoSaid' is the law's where the arguments, and the package variables that the reading takes, are together of bulk at most 1048576: NARROWER than '..Said'. Prove '..Said' where nothing that the law and all that it calls make is longer than what came in: it says more and counts as full. Else prove '..UptoSaid'. A law counts once. -/
mutual
def uptoBulk {H : Type} : DataW H → Nat
  | .lit (.string bytes) => bytes.length + 1
  | .lit _ => 1
  | .nil => 1
  | .ptr d => uptoBulk d + 1
  | .slice elems spare => uptoBulkAll elems + uptoBulkAll spare + 1
  | .agg parts => uptoBulkAll parts + 1
  | .iface _ d => uptoBulk d + 1
  | .map entries => uptoBulkEntries entries + 1
  | .held _ => 1
def uptoBulkAll {H : Type} : List (DataW H) → Nat
  | [] => 0
  | d :: r => uptoBulk d + uptoBulkAll r
def uptoBulkEntries {H : Type} : List (Lit × DataW H) → Nat
  | [] => 0
  | x :: r => uptoBulkEntry x + uptoBulkEntries r
def uptoBulkEntry {H : Type} : Lit × DataW H → Nat
  | (.string bytes, d) => bytes.length + uptoBulk d + 1
  | (_, d) => uptoBulk d + 1
 end
def uptoSmall : (H : Type) → List (DataW H) → Bool := fun _ ds => decide (uptoBulkAll ds ≤ 1048576)
def OpenSpec.upto (s : _root_.Go.ChangeSpec) : _root_.Go.OpenSpec := { _root_.Go.OpenSpec.ofChange s with cond := some uptoSmall }

/-- 'colophonlaw11.BwtMakes', WHERE WHAT IT READS IS OF BULK AT MOST 1048576: true; the input reads as it did. -/
def bwtMakesUptoRow : OpenClaim := { program := "ytmbbcabhgcagaaa", sum := "d76cd6ad71975af1dc701df1b4aca7694c5d26a3417d36b9c27f780db831e53d", func := "colophon/colophonlaw11.BwtMakes", spec := "bwtMakes", unfollowed := true, recurses := true, apart := false, narrowed := true }
def BwtMakesUptoSaid : Prop := bwtMakesUptoRow.holds Try.pinned (OpenSpec.upto bwtMakesSpec)

/-- 'colophonlaw11.BwtCounts', WHERE WHAT IT READS IS OF BULK AT MOST 1048576: true; the input reads as it did. -/
def bwtCountsUptoRow : OpenClaim := { program := "ytmbbcabhgcagaaa", sum := "d76cd6ad71975af1dc701df1b4aca7694c5d26a3417d36b9c27f780db831e53d", func := "colophon/colophonlaw11.BwtCounts", spec := "bwtCounts", unfollowed := true, recurses := true, apart := false, narrowed := true }
def BwtCountsUptoSaid : Prop := bwtCountsUptoRow.holds Try.pinned (OpenSpec.upto bwtCountsSpec)

/-- 'colophonlaw11.BwtBack', WHERE WHAT IT READS IS OF BULK AT MOST 1048576: true; the input reads as it did. -/
def bwtBackUptoRow : OpenClaim := { program := "ytmbbcabhgcagaaa", sum := "d76cd6ad71975af1dc701df1b4aca7694c5d26a3417d36b9c27f780db831e53d", func := "colophon/colophonlaw11.BwtBack", spec := "bwtBack", unfollowed := true, recurses := true, apart := false, narrowed := true }
def BwtBackUptoSaid : Prop := bwtBackUptoRow.holds Try.pinned (OpenSpec.upto bwtBackSpec)

/-- 'colophonlaw11.BwtTurns', WHERE WHAT IT READS IS OF BULK AT MOST 1048576: true; the input reads as it did. -/
def bwtTurnsUptoRow : OpenClaim := { program := "ytmbbcabhgcagaaa", sum := "d76cd6ad71975af1dc701df1b4aca7694c5d26a3417d36b9c27f780db831e53d", func := "colophon/colophonlaw11.BwtTurns", spec := "bwtTurns", unfollowed := true, recurses := true, apart := false, narrowed := true }
def BwtTurnsUptoSaid : Prop := bwtTurnsUptoRow.holds Try.pinned (OpenSpec.upto bwtTurnsSpec)

/-- 'colophonlaw11.BwtKeeps', WHERE WHAT IT READS IS OF BULK AT MOST 1048576: true; the input reads as it did. -/
def bwtKeepsUptoRow : OpenClaim := { program := "ytmbbcabhgcagaaa", sum := "d76cd6ad71975af1dc701df1b4aca7694c5d26a3417d36b9c27f780db831e53d", func := "colophon/colophonlaw11.BwtKeeps", spec := "bwtKeeps", unfollowed := true, recurses := true, apart := false, narrowed := true }
def BwtKeepsUptoSaid : Prop := bwtKeepsUptoRow.holds Try.pinned (OpenSpec.upto bwtKeepsSpec)

/-- 'colophonlaw13.WaveMakes', WHERE WHAT IT READS IS OF BULK AT MOST 1048576: true; the input reads as it did. -/
def waveMakesUptoRow : OpenClaim := { program := "ytmbbcabhgcagaaa", sum := "d76cd6ad71975af1dc701df1b4aca7694c5d26a3417d36b9c27f780db831e53d", func := "colophon/colophonlaw13.WaveMakes", spec := "waveMakes", unfollowed := true, recurses := true, apart := false, narrowed := true }
def WaveMakesUptoSaid : Prop := waveMakesUptoRow.holds Try.pinned (OpenSpec.upto waveMakesSpec)

/-- 'colophonlaw13.WaveRanks', WHERE WHAT IT READS IS OF BULK AT MOST 1048576: true; the input reads as it did. -/
def waveRanksUptoRow : OpenClaim := { program := "ytmbbcabhgcagaaa", sum := "d76cd6ad71975af1dc701df1b4aca7694c5d26a3417d36b9c27f780db831e53d", func := "colophon/colophonlaw13.WaveRanks", spec := "waveRanks", unfollowed := true, recurses := true, apart := false, narrowed := true }
def WaveRanksUptoSaid : Prop := waveRanksUptoRow.holds Try.pinned (OpenSpec.upto waveRanksSpec)

/-- 'colophonlaw13.WaveRanges', WHERE WHAT IT READS IS OF BULK AT MOST 1048576: true; the input reads as it did. -/
def waveRangesUptoRow : OpenClaim := { program := "ytmbbcabhgcagaaa", sum := "d76cd6ad71975af1dc701df1b4aca7694c5d26a3417d36b9c27f780db831e53d", func := "colophon/colophonlaw13.WaveRanges", spec := "waveRanges", unfollowed := true, recurses := true, apart := false, narrowed := true }
def WaveRangesUptoSaid : Prop := waveRangesUptoRow.holds Try.pinned (OpenSpec.upto waveRangesSpec)

/-- 'colophonlaw13.WaveTurns', WHERE WHAT IT READS IS OF BULK AT MOST 1048576: true; the input reads as it did. -/
def waveTurnsUptoRow : OpenClaim := { program := "ytmbbcabhgcagaaa", sum := "d76cd6ad71975af1dc701df1b4aca7694c5d26a3417d36b9c27f780db831e53d", func := "colophon/colophonlaw13.WaveTurns", spec := "waveTurns", unfollowed := true, recurses := true, apart := false, narrowed := true }
def WaveTurnsUptoSaid : Prop := waveTurnsUptoRow.holds Try.pinned (OpenSpec.upto waveTurnsSpec)

/-- 'colophonlaw13.WaveSorts', WHERE WHAT IT READS IS OF BULK AT MOST 1048576: true; the input reads as it did. -/
def waveSortsUptoRow : OpenClaim := { program := "ytmbbcabhgcagaaa", sum := "d76cd6ad71975af1dc701df1b4aca7694c5d26a3417d36b9c27f780db831e53d", func := "colophon/colophonlaw13.WaveSorts", spec := "waveSorts", unfollowed := true, recurses := true, apart := false, narrowed := true }
def WaveSortsUptoSaid : Prop := waveSortsUptoRow.holds Try.pinned (OpenSpec.upto waveSortsSpec)

/-- 'colophonlaw13.WaveAdds', WHERE WHAT IT READS IS OF BULK AT MOST 1048576: true; the input reads as it did. -/
def waveAddsUptoRow : OpenClaim := { program := "ytmbbcabhgcagaaa", sum := "d76cd6ad71975af1dc701df1b4aca7694c5d26a3417d36b9c27f780db831e53d", func := "colophon/colophonlaw13.WaveAdds", spec := "waveAdds", unfollowed := true, recurses := true, apart := false, narrowed := true }
def WaveAddsUptoSaid : Prop := waveAddsUptoRow.holds Try.pinned (OpenSpec.upto waveAddsSpec)

/-- 'colophonlaw13.WaveWidths', WHERE WHAT IT READS IS OF BULK AT MOST 1048576: true; the input reads as it did. -/
def waveWidthsUptoRow : OpenClaim := { program := "ytmbbcabhgcagaaa", sum := "d76cd6ad71975af1dc701df1b4aca7694c5d26a3417d36b9c27f780db831e53d", func := "colophon/colophonlaw13.WaveWidths", spec := "waveWidths", unfollowed := true, recurses := true, apart := false, narrowed := true }
def WaveWidthsUptoSaid : Prop := waveWidthsUptoRow.holds Try.pinned (OpenSpec.upto waveWidthsSpec)

end Rows
end Go.Proofs.Ytmbbcabhgcagaaa
