/-
  No cell of these rows narrows 'for every input' (looked for: loops, veiled, ifaces, maps, wideKeys, modest, calm, conditions, laid).
  DERIVED. THE GIVEN ROWS OF THIS SEAT. 13 by the template 'for every input the law returns true; each argument reads behind the call as it read before'; 0 by the template 'total and deterministic' (their statements: YtokadkakmhfdeaaTotals.lean).
  GIVEN WITH THE SEED: the statements are not yours to turn. If you find one false, say at which input.
  Laid BY PROGRAM, IN A SANDBOX (cutbox-rows.mjs): the forced cells as the released guide's own fill.sh prints them over the translation 0f3ad87a89c08596… (all of the seat's roots in one cut). By AI agents, Wed Nov 11 2026. No macro, syntax, notation, axiom, sorry.
-/
import Derived.Test.YtokadkakmhfdeaaChecked
import GoSem.Claim
import GoSem.ClaimJoined
import GoSem.ClaimMapViews
import Derived.JoinedTies
import Derived.KernelRfl
namespace Go.Proofs.Ytokadkakmhfdeaa
/- THE CELL 'sum', in the pinned program and in every row, IS THE sha256 OF THE DUMP (.gsa) THAT YtokadkakmhfdeaaProg.lean LOADS. Nothing in Lean hashes anything: it is a label: what it is worth is what the hold of that sum in a sandbox is worth. -/
noncomputable def Try.pinned : Pinned := { name := "ytokadkakmhfdeaa", sum := "0f3ad87a89c08596dc9559b8019e629bfcbca767c1916d766899f5a303c8cc97", checked := Try.checked }
namespace Rows
def none {H : Type} : Left H := { results := [], args := [] }

/-- 'parquetrylaw16.TileShares': WHATEVER THE INPUT: true; the input reads as it did. -/
def tileSharesSpec : ChangeSpec := { name := "tileShares", fn := fun _ => fun
  | [d] => { results := [.lit (.bool true)], args := [d] }
  | _ => none }
def tileSharesRow : OpenClaim := { program := "ytokadkakmhfdeaa", sum := "0f3ad87a89c08596dc9559b8019e629bfcbca767c1916d766899f5a303c8cc97", func := "parquetry/parquetrylaw16.TileShares", spec := "tileShares", apart := false }
def TileSharesSaid : Prop := tileSharesRow.holds Try.pinned (OpenSpec.ofChange tileSharesSpec)

/-- ITS FALSE NEIGHBOUR: 'it returns false'. Refute it at one input. -/
def tileSharesWrong : ChangeSpec := { name := "tileShares", fn := fun _ => fun
  | [d] => { results := [.lit (.bool false)], args := [d] }
  | _ => none }
def TileSharesWrongFalsely : Prop := tileSharesRow.holds Try.pinned (OpenSpec.ofChange tileSharesWrong)

/-- 'parquetrylaw15.SpecNumbers': WHATEVER THE INPUT: true; the input reads as it did. -/
def specNumbersSpec : ChangeSpec := { name := "specNumbers", fn := fun _ => fun
  | [] => { results := [.lit (.bool true)], args := [] }
  | _ => none }
def specNumbersRow : OpenClaim := { program := "ytokadkakmhfdeaa", sum := "0f3ad87a89c08596dc9559b8019e629bfcbca767c1916d766899f5a303c8cc97", func := "parquetry/parquetrylaw15.SpecNumbers", spec := "specNumbers", apart := false }
def SpecNumbersSaid : Prop := specNumbersRow.holds Try.pinned (OpenSpec.ofChange specNumbersSpec)

/-- ITS FALSE NEIGHBOUR: 'it returns false'. Refute it at one input. -/
def specNumbersWrong : ChangeSpec := { name := "specNumbers", fn := fun _ => fun
  | [] => { results := [.lit (.bool false)], args := [] }
  | _ => none }
def SpecNumbersWrongFalsely : Prop := specNumbersRow.holds Try.pinned (OpenSpec.ofChange specNumbersWrong)

/-- 'parquetrylaw21.RingReduces': WHATEVER THE INPUT: true; the input reads as it did. -/
def ringReducesSpec : ChangeSpec := { name := "ringReduces", fn := fun _ => fun
  | [d1, d2] => { results := [.lit (.bool true)], args := [d1, d2] }
  | _ => none }
def ringReducesRow : OpenClaim := { program := "ytokadkakmhfdeaa", sum := "0f3ad87a89c08596dc9559b8019e629bfcbca767c1916d766899f5a303c8cc97", func := "parquetry/parquetrylaw21.RingReduces", spec := "ringReduces", unfollowed := true, recurses := true, apart := false }
def RingReducesSaid : Prop := ringReducesRow.holds Try.pinned (OpenSpec.ofChange ringReducesSpec)

/-- ITS FALSE NEIGHBOUR: 'it returns false'. Refute it at one input. -/
def ringReducesWrong : ChangeSpec := { name := "ringReduces", fn := fun _ => fun
  | [d1, d2] => { results := [.lit (.bool false)], args := [d1, d2] }
  | _ => none }
def RingReducesWrongFalsely : Prop := ringReducesRow.holds Try.pinned (OpenSpec.ofChange ringReducesWrong)

/-- 'parquetrylaw21.RingGathers': WHATEVER THE INPUT: true; the input reads as it did. -/
def ringGathersSpec : ChangeSpec := { name := "ringGathers", fn := fun _ => fun
  | [d1, d2] => { results := [.lit (.bool true)], args := [d1, d2] }
  | _ => none }
def ringGathersRow : OpenClaim := { program := "ytokadkakmhfdeaa", sum := "0f3ad87a89c08596dc9559b8019e629bfcbca767c1916d766899f5a303c8cc97", func := "parquetry/parquetrylaw21.RingGathers", spec := "ringGathers", unfollowed := true, recurses := true, apart := false }
def RingGathersSaid : Prop := ringGathersRow.holds Try.pinned (OpenSpec.ofChange ringGathersSpec)

/-- ITS FALSE NEIGHBOUR: 'it returns false'. Refute it at one input. -/
def ringGathersWrong : ChangeSpec := { name := "ringGathers", fn := fun _ => fun
  | [d1, d2] => { results := [.lit (.bool false)], args := [d1, d2] }
  | _ => none }
def RingGathersWrongFalsely : Prop := ringGathersRow.holds Try.pinned (OpenSpec.ofChange ringGathersWrong)

/-- 'parquetrylaw21.RingSwaps': WHATEVER THE INPUT: true; the input reads as it did. -/
def ringSwapsSpec : ChangeSpec := { name := "ringSwaps", fn := fun _ => fun
  | [d] => { results := [.lit (.bool true)], args := [d] }
  | _ => none }
def ringSwapsRow : OpenClaim := { program := "ytokadkakmhfdeaa", sum := "0f3ad87a89c08596dc9559b8019e629bfcbca767c1916d766899f5a303c8cc97", func := "parquetry/parquetrylaw21.RingSwaps", spec := "ringSwaps", unfollowed := true, recurses := true, apart := false }
def RingSwapsSaid : Prop := ringSwapsRow.holds Try.pinned (OpenSpec.ofChange ringSwapsSpec)

/-- ITS FALSE NEIGHBOUR: 'it returns false'. Refute it at one input. -/
def ringSwapsWrong : ChangeSpec := { name := "ringSwaps", fn := fun _ => fun
  | [d] => { results := [.lit (.bool false)], args := [d] }
  | _ => none }
def RingSwapsWrongFalsely : Prop := ringSwapsRow.holds Try.pinned (OpenSpec.ofChange ringSwapsWrong)

/-- 'parquetrylaw17.SplitNumbers': WHATEVER THE INPUT: true; the input reads as it did. -/
def splitNumbersSpec : ChangeSpec := { name := "splitNumbers", fn := fun _ => fun
  | [] => { results := [.lit (.bool true)], args := [] }
  | _ => none }
def splitNumbersRow : OpenClaim := { program := "ytokadkakmhfdeaa", sum := "0f3ad87a89c08596dc9559b8019e629bfcbca767c1916d766899f5a303c8cc97", func := "parquetry/parquetrylaw17.SplitNumbers", spec := "splitNumbers", unfollowed := true, recurses := true, apart := false }
def SplitNumbersSaid : Prop := splitNumbersRow.holds Try.pinned (OpenSpec.ofChange splitNumbersSpec)

/-- ITS FALSE NEIGHBOUR: 'it returns false'. Refute it at one input. -/
def splitNumbersWrong : ChangeSpec := { name := "splitNumbers", fn := fun _ => fun
  | [] => { results := [.lit (.bool false)], args := [] }
  | _ => none }
def SplitNumbersWrongFalsely : Prop := splitNumbersRow.holds Try.pinned (OpenSpec.ofChange splitNumbersWrong)

/-- 'parquetrylaw17.SplitTells': WHATEVER THE INPUT: true; the input reads as it did. -/
def splitTellsSpec : ChangeSpec := { name := "splitTells", fn := fun _ => fun
  | [d1, d2, d3, d4, d5, d6, d7, d8, d9] => { results := [.lit (.bool true)], args := [d1, d2, d3, d4, d5, d6, d7, d8, d9] }
  | _ => none }
def splitTellsRow : OpenClaim := { program := "ytokadkakmhfdeaa", sum := "0f3ad87a89c08596dc9559b8019e629bfcbca767c1916d766899f5a303c8cc97", func := "parquetry/parquetrylaw17.SplitTells", spec := "splitTells", unfollowed := true, recurses := true, apart := false }
def SplitTellsSaid : Prop := splitTellsRow.holds Try.pinned (OpenSpec.ofChange splitTellsSpec)

/-- ITS FALSE NEIGHBOUR: 'it returns false'. Refute it at one input. -/
def splitTellsWrong : ChangeSpec := { name := "splitTells", fn := fun _ => fun
  | [d1, d2, d3, d4, d5, d6, d7, d8, d9] => { results := [.lit (.bool false)], args := [d1, d2, d3, d4, d5, d6, d7, d8, d9] }
  | _ => none }
def SplitTellsWrongFalsely : Prop := splitTellsRow.holds Try.pinned (OpenSpec.ofChange splitTellsWrong)

/-- 'parquetrylaw17.SplitBack': WHATEVER THE INPUT: true; the input reads as it did. -/
def splitBackSpec : ChangeSpec := { name := "splitBack", fn := fun _ => fun
  | [d] => { results := [.lit (.bool true)], args := [d] }
  | _ => none }
def splitBackRow : OpenClaim := { program := "ytokadkakmhfdeaa", sum := "0f3ad87a89c08596dc9559b8019e629bfcbca767c1916d766899f5a303c8cc97", func := "parquetry/parquetrylaw17.SplitBack", spec := "splitBack", unfollowed := true, recurses := true, apart := false }
def SplitBackSaid : Prop := splitBackRow.holds Try.pinned (OpenSpec.ofChange splitBackSpec)

/-- ITS FALSE NEIGHBOUR: 'it returns false'. Refute it at one input. -/
def splitBackWrong : ChangeSpec := { name := "splitBack", fn := fun _ => fun
  | [d] => { results := [.lit (.bool false)], args := [d] }
  | _ => none }
def SplitBackWrongFalsely : Prop := splitBackRow.holds Try.pinned (OpenSpec.ofChange splitBackWrong)

/-- 'parquetrylaw17.SplitFirsts': WHATEVER THE INPUT: true; the input reads as it did. -/
def splitFirstsSpec : ChangeSpec := { name := "splitFirsts", fn := fun _ => fun
  | [d1, d2] => { results := [.lit (.bool true)], args := [d1, d2] }
  | _ => none }
def splitFirstsRow : OpenClaim := { program := "ytokadkakmhfdeaa", sum := "0f3ad87a89c08596dc9559b8019e629bfcbca767c1916d766899f5a303c8cc97", func := "parquetry/parquetrylaw17.SplitFirsts", spec := "splitFirsts", unfollowed := true, recurses := true, apart := false }
def SplitFirstsSaid : Prop := splitFirstsRow.holds Try.pinned (OpenSpec.ofChange splitFirstsSpec)

/-- ITS FALSE NEIGHBOUR: 'it returns false'. Refute it at one input. -/
def splitFirstsWrong : ChangeSpec := { name := "splitFirsts", fn := fun _ => fun
  | [d1, d2] => { results := [.lit (.bool false)], args := [d1, d2] }
  | _ => none }
def SplitFirstsWrongFalsely : Prop := splitFirstsRow.holds Try.pinned (OpenSpec.ofChange splitFirstsWrong)

/-- 'parquetrylaw21.RingCasts': WHATEVER THE INPUT: true; the input reads as it did. -/
def ringCastsSpec : ChangeSpec := { name := "ringCasts", fn := fun _ => fun
  | [d1, d2, d3] => { results := [.lit (.bool true)], args := [d1, d2, d3] }
  | _ => none }
def ringCastsRow : OpenClaim := { program := "ytokadkakmhfdeaa", sum := "0f3ad87a89c08596dc9559b8019e629bfcbca767c1916d766899f5a303c8cc97", func := "parquetry/parquetrylaw21.RingCasts", spec := "ringCasts", inPlace := ["slices.overlaps[int]"], unfollowed := true, recurses := true, apart := false }
def RingCastsSaid : Prop := ringCastsRow.holds Try.pinned (OpenSpec.ofChange ringCastsSpec)

/-- ITS FALSE NEIGHBOUR: 'it returns false'. Refute it at one input. -/
def ringCastsWrong : ChangeSpec := { name := "ringCasts", fn := fun _ => fun
  | [d1, d2, d3] => { results := [.lit (.bool false)], args := [d1, d2, d3] }
  | _ => none }
def RingCastsWrongFalsely : Prop := ringCastsRow.holds Try.pinned (OpenSpec.ofChange ringCastsWrong)

/-- 'parquetrylaw21.RingRefuses': WHATEVER THE INPUT: true; the input reads as it did. -/
def ringRefusesSpec : ChangeSpec := { name := "ringRefuses", fn := fun _ => fun
  | [d1, d2, d3, d4, d5, d6] => { results := [.lit (.bool true)], args := [d1, d2, d3, d4, d5, d6] }
  | _ => none }
def ringRefusesRow : OpenClaim := { program := "ytokadkakmhfdeaa", sum := "0f3ad87a89c08596dc9559b8019e629bfcbca767c1916d766899f5a303c8cc97", func := "parquetry/parquetrylaw21.RingRefuses", spec := "ringRefuses", inPlace := ["slices.overlaps[int]"], unfollowed := true, recurses := true, apart := false }
def RingRefusesSaid : Prop := ringRefusesRow.holds Try.pinned (OpenSpec.ofChange ringRefusesSpec)

/-- ITS FALSE NEIGHBOUR: 'it returns false'. Refute it at one input. -/
def ringRefusesWrong : ChangeSpec := { name := "ringRefuses", fn := fun _ => fun
  | [d1, d2, d3, d4, d5, d6] => { results := [.lit (.bool false)], args := [d1, d2, d3, d4, d5, d6] }
  | _ => none }
def RingRefusesWrongFalsely : Prop := ringRefusesRow.holds Try.pinned (OpenSpec.ofChange ringRefusesWrong)

/-- 'parquetrylaw21.RingRows': WHATEVER THE INPUT: true; the input reads as it did. -/
def ringRowsSpec : ChangeSpec := { name := "ringRows", fn := fun _ => fun
  | [d1, d2, d3] => { results := [.lit (.bool true)], args := [d1, d2, d3] }
  | _ => none }
def ringRowsRow : OpenClaim := { program := "ytokadkakmhfdeaa", sum := "0f3ad87a89c08596dc9559b8019e629bfcbca767c1916d766899f5a303c8cc97", func := "parquetry/parquetrylaw21.RingRows", spec := "ringRows", inPlace := ["slices.overlaps[int]"], unfollowed := true, recurses := true, apart := false }
def RingRowsSaid : Prop := ringRowsRow.holds Try.pinned (OpenSpec.ofChange ringRowsSpec)

/-- ITS FALSE NEIGHBOUR: 'it returns false'. Refute it at one input. -/
def ringRowsWrong : ChangeSpec := { name := "ringRows", fn := fun _ => fun
  | [d1, d2, d3] => { results := [.lit (.bool false)], args := [d1, d2, d3] }
  | _ => none }
def RingRowsWrongFalsely : Prop := ringRowsRow.holds Try.pinned (OpenSpec.ofChange ringRowsWrong)

/-- 'parquetrylaw23.MoveRefuses': WHATEVER THE INPUT: true; the input reads as it did. -/
def moveRefusesSpec : ChangeSpec := { name := "moveRefuses", fn := fun _ => fun
  | [d1, d2, d3, d4, d5, d6, d7] => { results := [.lit (.bool true)], args := [d1, d2, d3, d4, d5, d6, d7] }
  | _ => none }
def moveRefusesRow : OpenClaim := { program := "ytokadkakmhfdeaa", sum := "0f3ad87a89c08596dc9559b8019e629bfcbca767c1916d766899f5a303c8cc97", func := "parquetry/parquetrylaw23.MoveRefuses", spec := "moveRefuses", unfollowed := true, recurses := true, apart := false }
def MoveRefusesSaid : Prop := moveRefusesRow.holds Try.pinned (OpenSpec.ofChange moveRefusesSpec)

/-- ITS FALSE NEIGHBOUR: 'it returns false'. Refute it at one input. -/
def moveRefusesWrong : ChangeSpec := { name := "moveRefuses", fn := fun _ => fun
  | [d1, d2, d3, d4, d5, d6, d7] => { results := [.lit (.bool false)], args := [d1, d2, d3, d4, d5, d6, d7] }
  | _ => none }
def MoveRefusesWrongFalsely : Prop := moveRefusesRow.holds Try.pinned (OpenSpec.ofChange moveRefusesWrong)

/- THE SECOND FORM. 'bulk': how many values and letters a reading holds, each counted each time it is reached (what is shared counts as often as it is met; a slice's spare places count too). A statement '..UptoSaid' is the law's where the arguments, and the package variables that the reading takes, are together of bulk at most 1048576: NARROWER than '..Said'. Prove '..Said' where nothing that the law and all that it calls make is longer than what came in: it says more and counts as full. Else prove '..UptoSaid'. A law counts once. -/
mutual
def uptoBulk {H : Type} : DataW H → Nat
  | .lit (.string bytes) => bytes.length + 1
  | .lit _ => 1
  | .nil => 1
  | .ptr d => uptoBulk d + 1
  | .slice elems spare => uptoBulkAll elems + uptoBulkAll spare + 1
  | .agg parts => uptoBulkAll parts + 1
  | .iface _ d => uptoBulk d + 1
  | .map entries => uptoBulkEntries entries + 1
  | .held _ => 1
def uptoBulkAll {H : Type} : List (DataW H) → Nat
  | [] => 0
  | d :: r => uptoBulk d + uptoBulkAll r
def uptoBulkEntries {H : Type} : List (Lit × DataW H) → Nat
  | [] => 0
  | x :: r => uptoBulkEntry x + uptoBulkEntries r
def uptoBulkEntry {H : Type} : Lit × DataW H → Nat
  | (.string bytes, d) => bytes.length + uptoBulk d + 1
  | (_, d) => uptoBulk d + 1
 end
def uptoSmall : (H : Type) → List (DataW H) → Bool := fun _ ds => decide (uptoBulkAll ds ≤ 1048576)
def OpenSpec.upto (s : _root_.Go.ChangeSpec) : _root_.Go.OpenSpec := { _root_.Go.OpenSpec.ofChange s with cond := some uptoSmall }

/-- 'parquetrylaw16.TileShares', WHERE WHAT IT READS IS OF BULK AT MOST 1048576: true; the input reads as it did. -/
def tileSharesUptoRow : OpenClaim := { program := "ytokadkakmhfdeaa", sum := "0f3ad87a89c08596dc9559b8019e629bfcbca767c1916d766899f5a303c8cc97", func := "parquetry/parquetrylaw16.TileShares", spec := "tileShares", apart := false, narrowed := true }
def TileSharesUptoSaid : Prop := tileSharesUptoRow.holds Try.pinned (OpenSpec.upto tileSharesSpec)

/-- 'parquetrylaw15.SpecNumbers', WHERE WHAT IT READS IS OF BULK AT MOST 1048576: true; the input reads as it did. -/
def specNumbersUptoRow : OpenClaim := { program := "ytokadkakmhfdeaa", sum := "0f3ad87a89c08596dc9559b8019e629bfcbca767c1916d766899f5a303c8cc97", func := "parquetry/parquetrylaw15.SpecNumbers", spec := "specNumbers", apart := false, narrowed := true }
def SpecNumbersUptoSaid : Prop := specNumbersUptoRow.holds Try.pinned (OpenSpec.upto specNumbersSpec)

/-- 'parquetrylaw21.RingReduces', WHERE WHAT IT READS IS OF BULK AT MOST 1048576: true; the input reads as it did. -/
def ringReducesUptoRow : OpenClaim := { program := "ytokadkakmhfdeaa", sum := "0f3ad87a89c08596dc9559b8019e629bfcbca767c1916d766899f5a303c8cc97", func := "parquetry/parquetrylaw21.RingReduces", spec := "ringReduces", unfollowed := true, recurses := true, apart := false, narrowed := true }
def RingReducesUptoSaid : Prop := ringReducesUptoRow.holds Try.pinned (OpenSpec.upto ringReducesSpec)

/-- 'parquetrylaw21.RingGathers', WHERE WHAT IT READS IS OF BULK AT MOST 1048576: true; the input reads as it did. -/
def ringGathersUptoRow : OpenClaim := { program := "ytokadkakmhfdeaa", sum := "0f3ad87a89c08596dc9559b8019e629bfcbca767c1916d766899f5a303c8cc97", func := "parquetry/parquetrylaw21.RingGathers", spec := "ringGathers", unfollowed := true, recurses := true, apart := false, narrowed := true }
def RingGathersUptoSaid : Prop := ringGathersUptoRow.holds Try.pinned (OpenSpec.upto ringGathersSpec)

/-- 'parquetrylaw21.RingSwaps', WHERE WHAT IT READS IS OF BULK AT MOST 1048576: true; the input reads as it did. -/
def ringSwapsUptoRow : OpenClaim := { program := "ytokadkakmhfdeaa", sum := "0f3ad87a89c08596dc9559b8019e629bfcbca767c1916d766899f5a303c8cc97", func := "parquetry/parquetrylaw21.RingSwaps", spec := "ringSwaps", unfollowed := true, recurses := true, apart := false, narrowed := true }
def RingSwapsUptoSaid : Prop := ringSwapsUptoRow.holds Try.pinned (OpenSpec.upto ringSwapsSpec)

/-- 'parquetrylaw17.SplitNumbers', WHERE WHAT IT READS IS OF BULK AT MOST 1048576: true; the input reads as it did. -/
def splitNumbersUptoRow : OpenClaim := { program := "ytokadkakmhfdeaa", sum := "0f3ad87a89c08596dc9559b8019e629bfcbca767c1916d766899f5a303c8cc97", func := "parquetry/parquetrylaw17.SplitNumbers", spec := "splitNumbers", unfollowed := true, recurses := true, apart := false, narrowed := true }
def SplitNumbersUptoSaid : Prop := splitNumbersUptoRow.holds Try.pinned (OpenSpec.upto splitNumbersSpec)

/-- 'parquetrylaw17.SplitTells', WHERE WHAT IT READS IS OF BULK AT MOST 1048576: true; the input reads as it did. -/
def splitTellsUptoRow : OpenClaim := { program := "ytokadkakmhfdeaa", sum := "0f3ad87a89c08596dc9559b8019e629bfcbca767c1916d766899f5a303c8cc97", func := "parquetry/parquetrylaw17.SplitTells", spec := "splitTells", unfollowed := true, recurses := true, apart := false, narrowed := true }
def SplitTellsUptoSaid : Prop := splitTellsUptoRow.holds Try.pinned (OpenSpec.upto splitTellsSpec)

/-- 'parquetrylaw17.SplitBack', WHERE WHAT IT READS IS OF BULK AT MOST 1048576: true; the input reads as it did. -/
def splitBackUptoRow : OpenClaim := { program := "ytokadkakmhfdeaa", sum := "0f3ad87a89c08596dc9559b8019e629bfcbca767c1916d766899f5a303c8cc97", func := "parquetry/parquetrylaw17.SplitBack", spec := "splitBack", unfollowed := true, recurses := true, apart := false, narrowed := true }
def SplitBackUptoSaid : Prop := splitBackUptoRow.holds Try.pinned (OpenSpec.upto splitBackSpec)

/-- 'parquetrylaw17.SplitFirsts', WHERE WHAT IT READS IS OF BULK AT MOST 1048576: true; the input reads as it did. -/
def splitFirstsUptoRow : OpenClaim := { program := "ytokadkakmhfdeaa", sum := "0f3ad87a89c08596dc9559b8019e629bfcbca767c1916d766899f5a303c8cc97", func := "parquetry/parquetrylaw17.SplitFirsts", spec := "splitFirsts", unfollowed := true, recurses := true, apart := false, narrowed := true }
def SplitFirstsUptoSaid : Prop := splitFirstsUptoRow.holds Try.pinned (OpenSpec.upto splitFirstsSpec)

/-- 'parquetrylaw21.RingCasts', WHERE WHAT IT READS IS OF BULK AT MOST 1048576: true; the input reads as it did. -/
def ringCastsUptoRow : OpenClaim := { program := "ytokadkakmhfdeaa", sum := "0f3ad87a89c08596dc9559b8019e629bfcbca767c1916d766899f5a303c8cc97", func := "parquetry/parquetrylaw21.RingCasts", spec := "ringCasts", inPlace := ["slices.overlaps[int]"], unfollowed := true, recurses := true, apart := false, narrowed := true }
def RingCastsUptoSaid : Prop := ringCastsUptoRow.holds Try.pinned (OpenSpec.upto ringCastsSpec)

/-- 'parquetrylaw21.RingRefuses', WHERE WHAT IT READS IS OF BULK AT MOST 1048576: true; the input reads as it did. -/
def ringRefusesUptoRow : OpenClaim := { program := "ytokadkakmhfdeaa", sum := "0f3ad87a89c08596dc9559b8019e629bfcbca767c1916d766899f5a303c8cc97", func := "parquetry/parquetrylaw21.RingRefuses", spec := "ringRefuses", inPlace := ["slices.overlaps[int]"], unfollowed := true, recurses := true, apart := false, narrowed := true }
def RingRefusesUptoSaid : Prop := ringRefusesUptoRow.holds Try.pinned (OpenSpec.upto ringRefusesSpec)

/-- 'parquetrylaw21.RingRows', WHERE WHAT IT READS IS OF BULK AT MOST 1048576: true; the input reads as it did. -/
def ringRowsUptoRow : OpenClaim := { program := "ytokadkakmhfdeaa", sum := "0f3ad87a89c08596dc9559b8019e629bfcbca767c1916d766899f5a303c8cc97", func := "parquetry/parquetrylaw21.RingRows", spec := "ringRows", inPlace := ["slices.overlaps[int]"], unfollowed := true, recurses := true, apart := false, narrowed := true }
def RingRowsUptoSaid : Prop := ringRowsUptoRow.holds Try.pinned (OpenSpec.upto ringRowsSpec)

/-- 'parquetrylaw23.MoveRefuses', WHERE WHAT IT READS IS OF BULK AT MOST 1048576: true; the input reads as it did. -/
def moveRefusesUptoRow : OpenClaim := { program := "ytokadkakmhfdeaa", sum := "0f3ad87a89c08596dc9559b8019e629bfcbca767c1916d766899f5a303c8cc97", func := "parquetry/parquetrylaw23.MoveRefuses", spec := "moveRefuses", unfollowed := true, recurses := true, apart := false, narrowed := true }
def MoveRefusesUptoSaid : Prop := moveRefusesUptoRow.holds Try.pinned (OpenSpec.upto moveRefusesSpec)

end Rows
end Go.Proofs.Ytokadkakmhfdeaa
