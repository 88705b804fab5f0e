/-
  No cell of these rows narrows 'for every input' (looked for: loops, veiled, ifaces, maps, wideKeys, modest, calm, conditions, laid).
  DERIVED. THE GIVEN ROWS OF THIS SEAT. 31 by the template 'for every input the law returns true; each argument reads behind the call as it read before'; 0 by the template 'total and deterministic' (their statements: YtemnchkebhclpaaTotals.lean).
  GIVEN WITH THE SEED: the statements are not yours to turn. If you find one false, say at which input.
  Laid BY PROGRAM, IN A SANDBOX (cutbox-rows.mjs): the forced cells as the released guide's own fill.sh prints them over the translation 81d0bedff0c412a0… (all of the seat's roots in one cut). By AI agents, Wed Nov 11 2026. No macro, syntax, notation, axiom, sorry.
-/
import Derived.Test.YtemnchkebhclpaaChecked
import GoSem.Claim
import GoSem.ClaimJoined
import GoSem.ClaimMapViews
import Derived.JoinedTies
import Derived.KernelRfl
namespace Go.Proofs.Ytemnchkebhclpaa
/- THE CELL 'sum', in the pinned program and in every row, IS THE sha256 OF THE DUMP (.gsa) THAT YtemnchkebhclpaaProg.lean LOADS. Nothing in Lean hashes anything: it is a label: what it is worth is what the hold of that sum in a sandbox is worth. -/
noncomputable def Try.pinned : Pinned := { name := "ytemnchkebhclpaa", sum := "81d0bedff0c412a0d243316d221de4204460429b048d031f628eab2b4c8e4fa8", checked := Try.checked }
namespace Rows
def none {H : Type} : Left H := { results := [], args := [] }

/-- 'tailracekeep.TwiceSame': WHATEVER THE INPUT: true; the input reads as it did. -/
def twiceSameSpec : ChangeSpec := { name := "twiceSame", fn := fun _ => fun
  | [d1, d2] => { results := [.lit (.bool true)], args := [d1, d2] }
  | _ => none }
def twiceSameRow : OpenClaim := { program := "ytemnchkebhclpaa", sum := "81d0bedff0c412a0d243316d221de4204460429b048d031f628eab2b4c8e4fa8", func := "tailrace/tailracekeep.TwiceSame", spec := "twiceSame", unfollowed := true, recurses := true, plainKeys := false, apart := false }
def TwiceSameSaid : Prop := twiceSameRow.holds Try.pinned (OpenSpec.ofChange twiceSameSpec)

/-- ITS FALSE NEIGHBOUR: 'it returns false'. Refute it at one input. -/
def twiceSameWrong : ChangeSpec := { name := "twiceSame", fn := fun _ => fun
  | [d1, d2] => { results := [.lit (.bool false)], args := [d1, d2] }
  | _ => none }
def TwiceSameWrongFalsely : Prop := twiceSameRow.holds Try.pinned (OpenSpec.ofChange twiceSameWrong)

/-- 'tailracekeep.StableAhead': WHATEVER THE INPUT: true; the input reads as it did. -/
def stableAheadSpec : ChangeSpec := { name := "stableAhead", fn := fun _ => fun
  | [d1, d2, d3] => { results := [.lit (.bool true)], args := [d1, d2, d3] }
  | _ => none }
def stableAheadRow : OpenClaim := { program := "ytemnchkebhclpaa", sum := "81d0bedff0c412a0d243316d221de4204460429b048d031f628eab2b4c8e4fa8", func := "tailrace/tailracekeep.StableAhead", spec := "stableAhead", unfollowed := true, recurses := true, plainKeys := false, apart := false }
def StableAheadSaid : Prop := stableAheadRow.holds Try.pinned (OpenSpec.ofChange stableAheadSpec)

/-- ITS FALSE NEIGHBOUR: 'it returns false'. Refute it at one input. -/
def stableAheadWrong : ChangeSpec := { name := "stableAhead", fn := fun _ => fun
  | [d1, d2, d3] => { results := [.lit (.bool false)], args := [d1, d2, d3] }
  | _ => none }
def StableAheadWrongFalsely : Prop := stableAheadRow.holds Try.pinned (OpenSpec.ofChange stableAheadWrong)

/-- 'tailracekeep.EntryFixed': WHATEVER THE INPUT: true; the input reads as it did. -/
def entryFixedSpec : ChangeSpec := { name := "entryFixed", fn := fun _ => fun
  | [d] => { results := [.lit (.bool true)], args := [d] }
  | _ => none }
def entryFixedRow : OpenClaim := { program := "ytemnchkebhclpaa", sum := "81d0bedff0c412a0d243316d221de4204460429b048d031f628eab2b4c8e4fa8", func := "tailrace/tailracekeep.EntryFixed", spec := "entryFixed", plainKeys := false, apart := false }
def EntryFixedSaid : Prop := entryFixedRow.holds Try.pinned (OpenSpec.ofChange entryFixedSpec)

/-- ITS FALSE NEIGHBOUR: 'it returns false'. Refute it at one input. -/
def entryFixedWrong : ChangeSpec := { name := "entryFixed", fn := fun _ => fun
  | [d] => { results := [.lit (.bool false)], args := [d] }
  | _ => none }
def EntryFixedWrongFalsely : Prop := entryFixedRow.holds Try.pinned (OpenSpec.ofChange entryFixedWrong)

/-- 'tailracekeep.CoordPids': WHATEVER THE INPUT: true; the input reads as it did. -/
def coordPidsSpec : ChangeSpec := { name := "coordPids", fn := fun _ => fun
  | [d] => { results := [.lit (.bool true)], args := [d] }
  | _ => none }
def coordPidsRow : OpenClaim := { program := "ytemnchkebhclpaa", sum := "81d0bedff0c412a0d243316d221de4204460429b048d031f628eab2b4c8e4fa8", func := "tailrace/tailracekeep.CoordPids", spec := "coordPids", unfollowed := true, recurses := true, plainKeys := false, apart := false }
def CoordPidsSaid : Prop := coordPidsRow.holds Try.pinned (OpenSpec.ofChange coordPidsSpec)

/-- ITS FALSE NEIGHBOUR: 'it returns false'. Refute it at one input. -/
def coordPidsWrong : ChangeSpec := { name := "coordPids", fn := fun _ => fun
  | [d] => { results := [.lit (.bool false)], args := [d] }
  | _ => none }
def CoordPidsWrongFalsely : Prop := coordPidsRow.holds Try.pinned (OpenSpec.ofChange coordPidsWrong)

/-- 'tailracekeep.OnceEach': WHATEVER THE INPUT: true; the input reads as it did. -/
def onceEachSpec : ChangeSpec := { name := "onceEach", fn := fun _ => fun
  | [d] => { results := [.lit (.bool true)], args := [d] }
  | _ => none }
def onceEachRow : OpenClaim := { program := "ytemnchkebhclpaa", sum := "81d0bedff0c412a0d243316d221de4204460429b048d031f628eab2b4c8e4fa8", func := "tailrace/tailracekeep.OnceEach", spec := "onceEach", plainKeys := false, apart := false }
def OnceEachSaid : Prop := onceEachRow.holds Try.pinned (OpenSpec.ofChange onceEachSpec)

/-- ITS FALSE NEIGHBOUR: 'it returns false'. Refute it at one input. -/
def onceEachWrong : ChangeSpec := { name := "onceEach", fn := fun _ => fun
  | [d] => { results := [.lit (.bool false)], args := [d] }
  | _ => none }
def OnceEachWrongFalsely : Prop := onceEachRow.holds Try.pinned (OpenSpec.ofChange onceEachWrong)

/-- 'tailracekeep.EntrySpoilt': WHATEVER THE INPUT: true; the input reads as it did. -/
def entrySpoiltSpec : ChangeSpec := { name := "entrySpoilt", fn := fun _ => fun
  | [d1, d2, d3] => { results := [.lit (.bool true)], args := [d1, d2, d3] }
  | _ => none }
def entrySpoiltRow : OpenClaim := { program := "ytemnchkebhclpaa", sum := "81d0bedff0c412a0d243316d221de4204460429b048d031f628eab2b4c8e4fa8", func := "tailrace/tailracekeep.EntrySpoilt", spec := "entrySpoilt", plainKeys := false, apart := false }
def EntrySpoiltSaid : Prop := entrySpoiltRow.holds Try.pinned (OpenSpec.ofChange entrySpoiltSpec)

/-- ITS FALSE NEIGHBOUR: 'it returns false'. Refute it at one input. -/
def entrySpoiltWrong : ChangeSpec := { name := "entrySpoilt", fn := fun _ => fun
  | [d1, d2, d3] => { results := [.lit (.bool false)], args := [d1, d2, d3] }
  | _ => none }
def EntrySpoiltWrongFalsely : Prop := entrySpoiltRow.holds Try.pinned (OpenSpec.ofChange entrySpoiltWrong)

/-- 'tailracekeep.EntryBack': WHATEVER THE INPUT: true; the input reads as it did. -/
def entryBackSpec : ChangeSpec := { name := "entryBack", fn := fun _ => fun
  | [d] => { results := [.lit (.bool true)], args := [d] }
  | _ => none }
def entryBackRow : OpenClaim := { program := "ytemnchkebhclpaa", sum := "81d0bedff0c412a0d243316d221de4204460429b048d031f628eab2b4c8e4fa8", func := "tailrace/tailracekeep.EntryBack", spec := "entryBack", plainKeys := false, apart := false }
def EntryBackSaid : Prop := entryBackRow.holds Try.pinned (OpenSpec.ofChange entryBackSpec)

/-- ITS FALSE NEIGHBOUR: 'it returns false'. Refute it at one input. -/
def entryBackWrong : ChangeSpec := { name := "entryBack", fn := fun _ => fun
  | [d] => { results := [.lit (.bool false)], args := [d] }
  | _ => none }
def EntryBackWrongFalsely : Prop := entryBackRow.holds Try.pinned (OpenSpec.ofChange entryBackWrong)

/-- 'tailracekeep.ReadPages': WHATEVER THE INPUT: true; the input reads as it did. -/
def readPagesSpec : ChangeSpec := { name := "readPages", fn := fun _ => fun
  | [d1, d2] => { results := [.lit (.bool true)], args := [d1, d2] }
  | _ => none }
def readPagesRow : OpenClaim := { program := "ytemnchkebhclpaa", sum := "81d0bedff0c412a0d243316d221de4204460429b048d031f628eab2b4c8e4fa8", func := "tailrace/tailracekeep.ReadPages", spec := "readPages", plainKeys := false, apart := false }
def ReadPagesSaid : Prop := readPagesRow.holds Try.pinned (OpenSpec.ofChange readPagesSpec)

/-- ITS FALSE NEIGHBOUR: 'it returns false'. Refute it at one input. -/
def readPagesWrong : ChangeSpec := { name := "readPages", fn := fun _ => fun
  | [d1, d2] => { results := [.lit (.bool false)], args := [d1, d2] }
  | _ => none }
def ReadPagesWrongFalsely : Prop := readPagesRow.holds Try.pinned (OpenSpec.ofChange readPagesWrong)

/-- 'tailracekeep.ReadDone': WHATEVER THE INPUT: true; the input reads as it did. -/
def readDoneSpec : ChangeSpec := { name := "readDone", fn := fun _ => fun
  | [d] => { results := [.lit (.bool true)], args := [d] }
  | _ => none }
def readDoneRow : OpenClaim := { program := "ytemnchkebhclpaa", sum := "81d0bedff0c412a0d243316d221de4204460429b048d031f628eab2b4c8e4fa8", func := "tailrace/tailracekeep.ReadDone", spec := "readDone", unfollowed := true, recurses := true, plainKeys := false, apart := false }
def ReadDoneSaid : Prop := readDoneRow.holds Try.pinned (OpenSpec.ofChange readDoneSpec)

/-- ITS FALSE NEIGHBOUR: 'it returns false'. Refute it at one input. -/
def readDoneWrong : ChangeSpec := { name := "readDone", fn := fun _ => fun
  | [d] => { results := [.lit (.bool false)], args := [d] }
  | _ => none }
def ReadDoneWrongFalsely : Prop := readDoneRow.holds Try.pinned (OpenSpec.ofChange readDoneWrong)

/-- 'tailracekeep.EntryBad': WHATEVER THE INPUT: true; the input reads as it did. -/
def entryBadSpec : ChangeSpec := { name := "entryBad", fn := fun _ => fun
  | [d1, d2] => { results := [.lit (.bool true)], args := [d1, d2] }
  | _ => none }
def entryBadRow : OpenClaim := { program := "ytemnchkebhclpaa", sum := "81d0bedff0c412a0d243316d221de4204460429b048d031f628eab2b4c8e4fa8", func := "tailrace/tailracekeep.EntryBad", spec := "entryBad", plainKeys := false, apart := false }
def EntryBadSaid : Prop := entryBadRow.holds Try.pinned (OpenSpec.ofChange entryBadSpec)

/-- ITS FALSE NEIGHBOUR: 'it returns false'. Refute it at one input. -/
def entryBadWrong : ChangeSpec := { name := "entryBad", fn := fun _ => fun
  | [d1, d2] => { results := [.lit (.bool false)], args := [d1, d2] }
  | _ => none }
def EntryBadWrongFalsely : Prop := entryBadRow.holds Try.pinned (OpenSpec.ofChange entryBadWrong)

/-- 'tailracekeep.EntryTorn': WHATEVER THE INPUT: true; the input reads as it did. -/
def entryTornSpec : ChangeSpec := { name := "entryTorn", fn := fun _ => fun
  | [d1, d2] => { results := [.lit (.bool true)], args := [d1, d2] }
  | _ => none }
def entryTornRow : OpenClaim := { program := "ytemnchkebhclpaa", sum := "81d0bedff0c412a0d243316d221de4204460429b048d031f628eab2b4c8e4fa8", func := "tailrace/tailracekeep.EntryTorn", spec := "entryTorn", plainKeys := false, apart := false }
def EntryTornSaid : Prop := entryTornRow.holds Try.pinned (OpenSpec.ofChange entryTornSpec)

/-- ITS FALSE NEIGHBOUR: 'it returns false'. Refute it at one input. -/
def entryTornWrong : ChangeSpec := { name := "entryTorn", fn := fun _ => fun
  | [d1, d2] => { results := [.lit (.bool false)], args := [d1, d2] }
  | _ => none }
def EntryTornWrongFalsely : Prop := entryTornRow.holds Try.pinned (OpenSpec.ofChange entryTornWrong)

/-- 'tailracekeep.LogGrows': WHATEVER THE INPUT: true; the input reads as it did. -/
def logGrowsSpec : ChangeSpec := { name := "logGrows", fn := fun _ => fun
  | [d1, d2] => { results := [.lit (.bool true)], args := [d1, d2] }
  | _ => none }
def logGrowsRow : OpenClaim := { program := "ytemnchkebhclpaa", sum := "81d0bedff0c412a0d243316d221de4204460429b048d031f628eab2b4c8e4fa8", func := "tailrace/tailracekeep.LogGrows", spec := "logGrows", plainKeys := false, apart := false }
def LogGrowsSaid : Prop := logGrowsRow.holds Try.pinned (OpenSpec.ofChange logGrowsSpec)

/-- ITS FALSE NEIGHBOUR: 'it returns false'. Refute it at one input. -/
def logGrowsWrong : ChangeSpec := { name := "logGrows", fn := fun _ => fun
  | [d1, d2] => { results := [.lit (.bool false)], args := [d1, d2] }
  | _ => none }
def LogGrowsWrongFalsely : Prop := logGrowsRow.holds Try.pinned (OpenSpec.ofChange logGrowsWrong)

/-- 'tailracekeep.LogCrashes': WHATEVER THE INPUT: true; the input reads as it did. -/
def logCrashesSpec : ChangeSpec := { name := "logCrashes", fn := fun _ => fun
  | [d1, d2, d3] => { results := [.lit (.bool true)], args := [d1, d2, d3] }
  | _ => none }
def logCrashesRow : OpenClaim := { program := "ytemnchkebhclpaa", sum := "81d0bedff0c412a0d243316d221de4204460429b048d031f628eab2b4c8e4fa8", func := "tailrace/tailracekeep.LogCrashes", spec := "logCrashes", plainKeys := false, apart := false }
def LogCrashesSaid : Prop := logCrashesRow.holds Try.pinned (OpenSpec.ofChange logCrashesSpec)

/-- ITS FALSE NEIGHBOUR: 'it returns false'. Refute it at one input. -/
def logCrashesWrong : ChangeSpec := { name := "logCrashes", fn := fun _ => fun
  | [d1, d2, d3] => { results := [.lit (.bool false)], args := [d1, d2, d3] }
  | _ => none }
def LogCrashesWrongFalsely : Prop := logCrashesRow.holds Try.pinned (OpenSpec.ofChange logCrashesWrong)

/-- 'tailracekeep.LogCuts': WHATEVER THE INPUT: true; the input reads as it did. -/
def logCutsSpec : ChangeSpec := { name := "logCuts", fn := fun _ => fun
  | [d1, d2, d3] => { results := [.lit (.bool true)], args := [d1, d2, d3] }
  | _ => none }
def logCutsRow : OpenClaim := { program := "ytemnchkebhclpaa", sum := "81d0bedff0c412a0d243316d221de4204460429b048d031f628eab2b4c8e4fa8", func := "tailrace/tailracekeep.LogCuts", spec := "logCuts", plainKeys := false, apart := false }
def LogCutsSaid : Prop := logCutsRow.holds Try.pinned (OpenSpec.ofChange logCutsSpec)

/-- ITS FALSE NEIGHBOUR: 'it returns false'. Refute it at one input. -/
def logCutsWrong : ChangeSpec := { name := "logCuts", fn := fun _ => fun
  | [d1, d2, d3] => { results := [.lit (.bool false)], args := [d1, d2, d3] }
  | _ => none }
def LogCutsWrongFalsely : Prop := logCutsRow.holds Try.pinned (OpenSpec.ofChange logCutsWrong)

/-- 'tailracekeep.GroupOrder': WHATEVER THE INPUT: true; the input reads as it did. -/
def groupOrderSpec : ChangeSpec := { name := "groupOrder", fn := fun _ => fun
  | [d1, d2, d3] => { results := [.lit (.bool true)], args := [d1, d2, d3] }
  | _ => none }
def groupOrderRow : OpenClaim := { program := "ytemnchkebhclpaa", sum := "81d0bedff0c412a0d243316d221de4204460429b048d031f628eab2b4c8e4fa8", func := "tailrace/tailracekeep.GroupOrder", spec := "groupOrder", unfollowed := true, recurses := true, plainKeys := false, apart := false }
def GroupOrderSaid : Prop := groupOrderRow.holds Try.pinned (OpenSpec.ofChange groupOrderSpec)

/-- ITS FALSE NEIGHBOUR: 'it returns false'. Refute it at one input. -/
def groupOrderWrong : ChangeSpec := { name := "groupOrder", fn := fun _ => fun
  | [d1, d2, d3] => { results := [.lit (.bool false)], args := [d1, d2, d3] }
  | _ => none }
def GroupOrderWrongFalsely : Prop := groupOrderRow.holds Try.pinned (OpenSpec.ofChange groupOrderWrong)

/-- 'tailracekeep.CoordWaits': WHATEVER THE INPUT: true; the input reads as it did. -/
def coordWaitsSpec : ChangeSpec := { name := "coordWaits", fn := fun _ => fun
  | [d1, d2] => { results := [.lit (.bool true)], args := [d1, d2] }
  | _ => none }
def coordWaitsRow : OpenClaim := { program := "ytemnchkebhclpaa", sum := "81d0bedff0c412a0d243316d221de4204460429b048d031f628eab2b4c8e4fa8", func := "tailrace/tailracekeep.CoordWaits", spec := "coordWaits", inPlace := ["slices.overlaps[int]"], unfollowed := true, recurses := true, plainKeys := false, apart := false }
def CoordWaitsSaid : Prop := coordWaitsRow.holds Try.pinned (OpenSpec.ofChange coordWaitsSpec)

/-- ITS FALSE NEIGHBOUR: 'it returns false'. Refute it at one input. -/
def coordWaitsWrong : ChangeSpec := { name := "coordWaits", fn := fun _ => fun
  | [d1, d2] => { results := [.lit (.bool false)], args := [d1, d2] }
  | _ => none }
def CoordWaitsWrongFalsely : Prop := coordWaitsRow.holds Try.pinned (OpenSpec.ofChange coordWaitsWrong)

/-- 'tailracekeep.GroupSilent': WHATEVER THE INPUT: true; the input reads as it did. -/
def groupSilentSpec : ChangeSpec := { name := "groupSilent", fn := fun _ => fun
  | [d1, d2] => { results := [.lit (.bool true)], args := [d1, d2] }
  | _ => none }
def groupSilentRow : OpenClaim := { program := "ytemnchkebhclpaa", sum := "81d0bedff0c412a0d243316d221de4204460429b048d031f628eab2b4c8e4fa8", func := "tailrace/tailracekeep.GroupSilent", spec := "groupSilent", unfollowed := true, recurses := true, plainKeys := false, apart := false }
def GroupSilentSaid : Prop := groupSilentRow.holds Try.pinned (OpenSpec.ofChange groupSilentSpec)

/-- ITS FALSE NEIGHBOUR: 'it returns false'. Refute it at one input. -/
def groupSilentWrong : ChangeSpec := { name := "groupSilent", fn := fun _ => fun
  | [d1, d2] => { results := [.lit (.bool false)], args := [d1, d2] }
  | _ => none }
def GroupSilentWrongFalsely : Prop := groupSilentRow.holds Try.pinned (OpenSpec.ofChange groupSilentWrong)

/-- 'tailracekeep.CoordGood': WHATEVER THE INPUT: true; the input reads as it did. -/
def coordGoodSpec : ChangeSpec := { name := "coordGood", fn := fun _ => fun
  | [d] => { results := [.lit (.bool true)], args := [d] }
  | _ => none }
def coordGoodRow : OpenClaim := { program := "ytemnchkebhclpaa", sum := "81d0bedff0c412a0d243316d221de4204460429b048d031f628eab2b4c8e4fa8", func := "tailrace/tailracekeep.CoordGood", spec := "coordGood", inPlace := ["slices.overlaps[int]"], unfollowed := true, recurses := true, plainKeys := false, apart := false }
def CoordGoodSaid : Prop := coordGoodRow.holds Try.pinned (OpenSpec.ofChange coordGoodSpec)

/-- ITS FALSE NEIGHBOUR: 'it returns false'. Refute it at one input. -/
def coordGoodWrong : ChangeSpec := { name := "coordGood", fn := fun _ => fun
  | [d] => { results := [.lit (.bool false)], args := [d] }
  | _ => none }
def CoordGoodWrongFalsely : Prop := coordGoodRow.holds Try.pinned (OpenSpec.ofChange coordGoodWrong)

/-- 'tailracekeep.CoordFences': WHATEVER THE INPUT: true; the input reads as it did. -/
def coordFencesSpec : ChangeSpec := { name := "coordFences", fn := fun _ => fun
  | [d1, d2] => { results := [.lit (.bool true)], args := [d1, d2] }
  | _ => none }
def coordFencesRow : OpenClaim := { program := "ytemnchkebhclpaa", sum := "81d0bedff0c412a0d243316d221de4204460429b048d031f628eab2b4c8e4fa8", func := "tailrace/tailracekeep.CoordFences", spec := "coordFences", inPlace := ["slices.overlaps[int]"], unfollowed := true, recurses := true, plainKeys := false, apart := false }
def CoordFencesSaid : Prop := coordFencesRow.holds Try.pinned (OpenSpec.ofChange coordFencesSpec)

/-- ITS FALSE NEIGHBOUR: 'it returns false'. Refute it at one input. -/
def coordFencesWrong : ChangeSpec := { name := "coordFences", fn := fun _ => fun
  | [d1, d2] => { results := [.lit (.bool false)], args := [d1, d2] }
  | _ => none }
def CoordFencesWrongFalsely : Prop := coordFencesRow.holds Try.pinned (OpenSpec.ofChange coordFencesWrong)

/-- 'tailracekeep.PartFew': WHATEVER THE INPUT: true; the input reads as it did. -/
def partFewSpec : ChangeSpec := { name := "partFew", fn := fun _ => fun
  | [d1, d2] => { results := [.lit (.bool true)], args := [d1, d2] }
  | _ => none }
def partFewRow : OpenClaim := { program := "ytemnchkebhclpaa", sum := "81d0bedff0c412a0d243316d221de4204460429b048d031f628eab2b4c8e4fa8", func := "tailrace/tailracekeep.PartFew", spec := "partFew", plainKeys := false, apart := false }
def PartFewSaid : Prop := partFewRow.holds Try.pinned (OpenSpec.ofChange partFewSpec)

/-- ITS FALSE NEIGHBOUR: 'it returns false'. Refute it at one input. -/
def partFewWrong : ChangeSpec := { name := "partFew", fn := fun _ => fun
  | [d1, d2] => { results := [.lit (.bool false)], args := [d1, d2] }
  | _ => none }
def PartFewWrongFalsely : Prop := partFewRow.holds Try.pinned (OpenSpec.ofChange partFewWrong)

/-- 'tailracekeep.PartCatches': WHATEVER THE INPUT: true; the input reads as it did. -/
def partCatchesSpec : ChangeSpec := { name := "partCatches", fn := fun _ => fun
  | [d1, d2] => { results := [.lit (.bool true)], args := [d1, d2] }
  | _ => none }
def partCatchesRow : OpenClaim := { program := "ytemnchkebhclpaa", sum := "81d0bedff0c412a0d243316d221de4204460429b048d031f628eab2b4c8e4fa8", func := "tailrace/tailracekeep.PartCatches", spec := "partCatches", plainKeys := false, apart := false }
def PartCatchesSaid : Prop := partCatchesRow.holds Try.pinned (OpenSpec.ofChange partCatchesSpec)

/-- ITS FALSE NEIGHBOUR: 'it returns false'. Refute it at one input. -/
def partCatchesWrong : ChangeSpec := { name := "partCatches", fn := fun _ => fun
  | [d1, d2] => { results := [.lit (.bool false)], args := [d1, d2] }
  | _ => none }
def PartCatchesWrongFalsely : Prop := partCatchesRow.holds Try.pinned (OpenSpec.ofChange partCatchesWrong)

/-- 'tailracekeep.GroupGood': WHATEVER THE INPUT: true; the input reads as it did. -/
def groupGoodSpec : ChangeSpec := { name := "groupGood", fn := fun _ => fun
  | [d1, d2] => { results := [.lit (.bool true)], args := [d1, d2] }
  | _ => none }
def groupGoodRow : OpenClaim := { program := "ytemnchkebhclpaa", sum := "81d0bedff0c412a0d243316d221de4204460429b048d031f628eab2b4c8e4fa8", func := "tailrace/tailracekeep.GroupGood", spec := "groupGood", inPlace := ["slices.overlaps[tailrace/api.Offset]"], unfollowed := true, recurses := true, plainKeys := false, apart := false }
def GroupGoodSaid : Prop := groupGoodRow.holds Try.pinned (OpenSpec.ofChange groupGoodSpec)

/-- ITS FALSE NEIGHBOUR: 'it returns false'. Refute it at one input. -/
def groupGoodWrong : ChangeSpec := { name := "groupGood", fn := fun _ => fun
  | [d1, d2] => { results := [.lit (.bool false)], args := [d1, d2] }
  | _ => none }
def GroupGoodWrongFalsely : Prop := groupGoodRow.holds Try.pinned (OpenSpec.ofChange groupGoodWrong)

/-- 'tailracekeep.GroupShares': WHATEVER THE INPUT: true; the input reads as it did. -/
def groupSharesSpec : ChangeSpec := { name := "groupShares", fn := fun _ => fun
  | [d1, d2] => { results := [.lit (.bool true)], args := [d1, d2] }
  | _ => none }
def groupSharesRow : OpenClaim := { program := "ytemnchkebhclpaa", sum := "81d0bedff0c412a0d243316d221de4204460429b048d031f628eab2b4c8e4fa8", func := "tailrace/tailracekeep.GroupShares", spec := "groupShares", inPlace := ["slices.overlaps[tailrace/api.Offset]"], unfollowed := true, recurses := true, plainKeys := false, apart := false }
def GroupSharesSaid : Prop := groupSharesRow.holds Try.pinned (OpenSpec.ofChange groupSharesSpec)

/-- ITS FALSE NEIGHBOUR: 'it returns false'. Refute it at one input. -/
def groupSharesWrong : ChangeSpec := { name := "groupShares", fn := fun _ => fun
  | [d1, d2] => { results := [.lit (.bool false)], args := [d1, d2] }
  | _ => none }
def GroupSharesWrongFalsely : Prop := groupSharesRow.holds Try.pinned (OpenSpec.ofChange groupSharesWrong)

/-- 'tailracekeep.GroupGoesOn': WHATEVER THE INPUT: true; the input reads as it did. -/
def groupGoesOnSpec : ChangeSpec := { name := "groupGoesOn", fn := fun _ => fun
  | [d1, d2] => { results := [.lit (.bool true)], args := [d1, d2] }
  | _ => none }
def groupGoesOnRow : OpenClaim := { program := "ytemnchkebhclpaa", sum := "81d0bedff0c412a0d243316d221de4204460429b048d031f628eab2b4c8e4fa8", func := "tailrace/tailracekeep.GroupGoesOn", spec := "groupGoesOn", inPlace := ["slices.overlaps[tailrace/api.Offset]"], unfollowed := true, recurses := true, plainKeys := false, apart := false }
def GroupGoesOnSaid : Prop := groupGoesOnRow.holds Try.pinned (OpenSpec.ofChange groupGoesOnSpec)

/-- ITS FALSE NEIGHBOUR: 'it returns false'. Refute it at one input. -/
def groupGoesOnWrong : ChangeSpec := { name := "groupGoesOn", fn := fun _ => fun
  | [d1, d2] => { results := [.lit (.bool false)], args := [d1, d2] }
  | _ => none }
def GroupGoesOnWrongFalsely : Prop := groupGoesOnRow.holds Try.pinned (OpenSpec.ofChange groupGoesOnWrong)

/-- 'tailracekeep.PartLed': WHATEVER THE INPUT: true; the input reads as it did. -/
def partLedSpec : ChangeSpec := { name := "partLed", fn := fun _ => fun
  | [d1, d2] => { results := [.lit (.bool true)], args := [d1, d2] }
  | _ => none }
def partLedRow : OpenClaim := { program := "ytemnchkebhclpaa", sum := "81d0bedff0c412a0d243316d221de4204460429b048d031f628eab2b4c8e4fa8", func := "tailrace/tailracekeep.PartLed", spec := "partLed", plainKeys := false, apart := false }
def PartLedSaid : Prop := partLedRow.holds Try.pinned (OpenSpec.ofChange partLedSpec)

/-- ITS FALSE NEIGHBOUR: 'it returns false'. Refute it at one input. -/
def partLedWrong : ChangeSpec := { name := "partLed", fn := fun _ => fun
  | [d1, d2] => { results := [.lit (.bool false)], args := [d1, d2] }
  | _ => none }
def PartLedWrongFalsely : Prop := partLedRow.holds Try.pinned (OpenSpec.ofChange partLedWrong)

/-- 'tailracekeep.PartGood': WHATEVER THE INPUT: true; the input reads as it did. -/
def partGoodSpec : ChangeSpec := { name := "partGood", fn := fun _ => fun
  | [d1, d2, d3] => { results := [.lit (.bool true)], args := [d1, d2, d3] }
  | _ => none }
def partGoodRow : OpenClaim := { program := "ytemnchkebhclpaa", sum := "81d0bedff0c412a0d243316d221de4204460429b048d031f628eab2b4c8e4fa8", func := "tailrace/tailracekeep.PartGood", spec := "partGood", plainKeys := false, apart := false }
def PartGoodSaid : Prop := partGoodRow.holds Try.pinned (OpenSpec.ofChange partGoodSpec)

/-- ITS FALSE NEIGHBOUR: 'it returns false'. Refute it at one input. -/
def partGoodWrong : ChangeSpec := { name := "partGood", fn := fun _ => fun
  | [d1, d2, d3] => { results := [.lit (.bool false)], args := [d1, d2, d3] }
  | _ => none }
def PartGoodWrongFalsely : Prop := partGoodRow.holds Try.pinned (OpenSpec.ofChange partGoodWrong)

/-- 'tailracekeep.PartCalm': WHATEVER THE INPUT: true; the input reads as it did. -/
def partCalmSpec : ChangeSpec := { name := "partCalm", fn := fun _ => fun
  | [d1, d2] => { results := [.lit (.bool true)], args := [d1, d2] }
  | _ => none }
def partCalmRow : OpenClaim := { program := "ytemnchkebhclpaa", sum := "81d0bedff0c412a0d243316d221de4204460429b048d031f628eab2b4c8e4fa8", func := "tailrace/tailracekeep.PartCalm", spec := "partCalm", plainKeys := false, apart := false }
def PartCalmSaid : Prop := partCalmRow.holds Try.pinned (OpenSpec.ofChange partCalmSpec)

/-- ITS FALSE NEIGHBOUR: 'it returns false'. Refute it at one input. -/
def partCalmWrong : ChangeSpec := { name := "partCalm", fn := fun _ => fun
  | [d1, d2] => { results := [.lit (.bool false)], args := [d1, d2] }
  | _ => none }
def PartCalmWrongFalsely : Prop := partCalmRow.holds Try.pinned (OpenSpec.ofChange partCalmWrong)

/-- 'tailracekeep.PartKept': WHATEVER THE INPUT: true; the input reads as it did. -/
def partKeptSpec : ChangeSpec := { name := "partKept", fn := fun _ => fun
  | [d1, d2, d3] => { results := [.lit (.bool true)], args := [d1, d2, d3] }
  | _ => none }
def partKeptRow : OpenClaim := { program := "ytemnchkebhclpaa", sum := "81d0bedff0c412a0d243316d221de4204460429b048d031f628eab2b4c8e4fa8", func := "tailrace/tailracekeep.PartKept", spec := "partKept", plainKeys := false, apart := false }
def PartKeptSaid : Prop := partKeptRow.holds Try.pinned (OpenSpec.ofChange partKeptSpec)

/-- ITS FALSE NEIGHBOUR: 'it returns false'. Refute it at one input. -/
def partKeptWrong : ChangeSpec := { name := "partKept", fn := fun _ => fun
  | [d1, d2, d3] => { results := [.lit (.bool false)], args := [d1, d2, d3] }
  | _ => none }
def PartKeptWrongFalsely : Prop := partKeptRow.holds Try.pinned (OpenSpec.ofChange partKeptWrong)

/-- 'tailracekeep.PartAlike': WHATEVER THE INPUT: true; the input reads as it did. -/
def partAlikeSpec : ChangeSpec := { name := "partAlike", fn := fun _ => fun
  | [d1, d2] => { results := [.lit (.bool true)], args := [d1, d2] }
  | _ => none }
def partAlikeRow : OpenClaim := { program := "ytemnchkebhclpaa", sum := "81d0bedff0c412a0d243316d221de4204460429b048d031f628eab2b4c8e4fa8", func := "tailrace/tailracekeep.PartAlike", spec := "partAlike", plainKeys := false, apart := false }
def PartAlikeSaid : Prop := partAlikeRow.holds Try.pinned (OpenSpec.ofChange partAlikeSpec)

/-- ITS FALSE NEIGHBOUR: 'it returns false'. Refute it at one input. -/
def partAlikeWrong : ChangeSpec := { name := "partAlike", fn := fun _ => fun
  | [d1, d2] => { results := [.lit (.bool false)], args := [d1, d2] }
  | _ => none }
def PartAlikeWrongFalsely : Prop := partAlikeRow.holds Try.pinned (OpenSpec.ofChange partAlikeWrong)

/-- 'tailracekeep.ReadsKept': WHATEVER THE INPUT: true; the input reads as it did. -/
def readsKeptSpec : ChangeSpec := { name := "readsKept", fn := fun _ => fun
  | [d1, d2, d3] => { results := [.lit (.bool true)], args := [d1, d2, d3] }
  | _ => none }
def readsKeptRow : OpenClaim := { program := "ytemnchkebhclpaa", sum := "81d0bedff0c412a0d243316d221de4204460429b048d031f628eab2b4c8e4fa8", func := "tailrace/tailracekeep.ReadsKept", spec := "readsKept", plainKeys := false, apart := false }
def ReadsKeptSaid : Prop := readsKeptRow.holds Try.pinned (OpenSpec.ofChange readsKeptSpec)

/-- ITS FALSE NEIGHBOUR: 'it returns false'. Refute it at one input. -/
def readsKeptWrong : ChangeSpec := { name := "readsKept", fn := fun _ => fun
  | [d1, d2, d3] => { results := [.lit (.bool false)], args := [d1, d2, d3] }
  | _ => none }
def ReadsKeptWrongFalsely : Prop := readsKeptRow.holds Try.pinned (OpenSpec.ofChange readsKeptWrong)

/-- 'tailracekeep.CoordStays': WHATEVER THE INPUT: true; the input reads as it did. -/
def coordStaysSpec : ChangeSpec := { name := "coordStays", fn := fun _ => fun
  | [d1, d2, d3] => { results := [.lit (.bool true)], args := [d1, d2, d3] }
  | _ => none }
def coordStaysRow : OpenClaim := { program := "ytemnchkebhclpaa", sum := "81d0bedff0c412a0d243316d221de4204460429b048d031f628eab2b4c8e4fa8", func := "tailrace/tailracekeep.CoordStays", spec := "coordStays", inPlace := ["slices.overlaps[int]"], unfollowed := true, recurses := true, plainKeys := false, apart := false }
def CoordStaysSaid : Prop := coordStaysRow.holds Try.pinned (OpenSpec.ofChange coordStaysSpec)

/-- ITS FALSE NEIGHBOUR: 'it returns false'. Refute it at one input. -/
def coordStaysWrong : ChangeSpec := { name := "coordStays", fn := fun _ => fun
  | [d1, d2, d3] => { results := [.lit (.bool false)], args := [d1, d2, d3] }
  | _ => none }
def CoordStaysWrongFalsely : Prop := coordStaysRow.holds Try.pinned (OpenSpec.ofChange coordStaysWrong)

/- THE SECOND FORM. 'bulk': how many values and letters a reading holds, each counted each time it is reached (what is shared counts as often as it is met; a slice's spare places count too). A statement '..UptoSaid' is the law's where the arguments, and the package variables that the reading takes, are together of bulk at most 1048576: NARROWER than '..Said'. Prove '..Said' where nothing that the law and all that it calls make is longer than what came in: it says more and counts as full. Else prove '..UptoSaid'. A law counts once. -/
mutual
def uptoBulk {H : Type} : DataW H → Nat
  | .lit (.string bytes) => bytes.length + 1
  | .lit _ => 1
  | .nil => 1
  | .ptr d => uptoBulk d + 1
  | .slice elems spare => uptoBulkAll elems + uptoBulkAll spare + 1
  | .agg parts => uptoBulkAll parts + 1
  | .iface _ d => uptoBulk d + 1
  | .map entries => uptoBulkEntries entries + 1
  | .held _ => 1
def uptoBulkAll {H : Type} : List (DataW H) → Nat
  | [] => 0
  | d :: r => uptoBulk d + uptoBulkAll r
def uptoBulkEntries {H : Type} : List (Lit × DataW H) → Nat
  | [] => 0
  | x :: r => uptoBulkEntry x + uptoBulkEntries r
def uptoBulkEntry {H : Type} : Lit × DataW H → Nat
  | (.string bytes, d) => bytes.length + uptoBulk d + 1
  | (_, d) => uptoBulk d + 1
 end
def uptoSmall : (H : Type) → List (DataW H) → Bool := fun _ ds => decide (uptoBulkAll ds ≤ 1048576)
def OpenSpec.upto (s : _root_.Go.ChangeSpec) : _root_.Go.OpenSpec := { _root_.Go.OpenSpec.ofChange s with cond := some uptoSmall }

/-- 'tailracekeep.TwiceSame', WHERE WHAT IT READS IS OF BULK AT MOST 1048576: true; the input reads as it did. -/
def twiceSameUptoRow : OpenClaim := { program := "ytemnchkebhclpaa", sum := "81d0bedff0c412a0d243316d221de4204460429b048d031f628eab2b4c8e4fa8", func := "tailrace/tailracekeep.TwiceSame", spec := "twiceSame", unfollowed := true, recurses := true, plainKeys := false, apart := false, narrowed := true }
def TwiceSameUptoSaid : Prop := twiceSameUptoRow.holds Try.pinned (OpenSpec.upto twiceSameSpec)

/-- 'tailracekeep.StableAhead', WHERE WHAT IT READS IS OF BULK AT MOST 1048576: true; the input reads as it did. -/
def stableAheadUptoRow : OpenClaim := { program := "ytemnchkebhclpaa", sum := "81d0bedff0c412a0d243316d221de4204460429b048d031f628eab2b4c8e4fa8", func := "tailrace/tailracekeep.StableAhead", spec := "stableAhead", unfollowed := true, recurses := true, plainKeys := false, apart := false, narrowed := true }
def StableAheadUptoSaid : Prop := stableAheadUptoRow.holds Try.pinned (OpenSpec.upto stableAheadSpec)

/-- 'tailracekeep.EntryFixed', WHERE WHAT IT READS IS OF BULK AT MOST 1048576: true; the input reads as it did. -/
def entryFixedUptoRow : OpenClaim := { program := "ytemnchkebhclpaa", sum := "81d0bedff0c412a0d243316d221de4204460429b048d031f628eab2b4c8e4fa8", func := "tailrace/tailracekeep.EntryFixed", spec := "entryFixed", plainKeys := false, apart := false, narrowed := true }
def EntryFixedUptoSaid : Prop := entryFixedUptoRow.holds Try.pinned (OpenSpec.upto entryFixedSpec)

/-- 'tailracekeep.CoordPids', WHERE WHAT IT READS IS OF BULK AT MOST 1048576: true; the input reads as it did. -/
def coordPidsUptoRow : OpenClaim := { program := "ytemnchkebhclpaa", sum := "81d0bedff0c412a0d243316d221de4204460429b048d031f628eab2b4c8e4fa8", func := "tailrace/tailracekeep.CoordPids", spec := "coordPids", unfollowed := true, recurses := true, plainKeys := false, apart := false, narrowed := true }
def CoordPidsUptoSaid : Prop := coordPidsUptoRow.holds Try.pinned (OpenSpec.upto coordPidsSpec)

/-- 'tailracekeep.OnceEach', WHERE WHAT IT READS IS OF BULK AT MOST 1048576: true; the input reads as it did. -/
def onceEachUptoRow : OpenClaim := { program := "ytemnchkebhclpaa", sum := "81d0bedff0c412a0d243316d221de4204460429b048d031f628eab2b4c8e4fa8", func := "tailrace/tailracekeep.OnceEach", spec := "onceEach", plainKeys := false, apart := false, narrowed := true }
def OnceEachUptoSaid : Prop := onceEachUptoRow.holds Try.pinned (OpenSpec.upto onceEachSpec)

/-- 'tailracekeep.EntrySpoilt', WHERE WHAT IT READS IS OF BULK AT MOST 1048576: true; the input reads as it did. -/
def entrySpoiltUptoRow : OpenClaim := { program := "ytemnchkebhclpaa", sum := "81d0bedff0c412a0d243316d221de4204460429b048d031f628eab2b4c8e4fa8", func := "tailrace/tailracekeep.EntrySpoilt", spec := "entrySpoilt", plainKeys := false, apart := false, narrowed := true }
def EntrySpoiltUptoSaid : Prop := entrySpoiltUptoRow.holds Try.pinned (OpenSpec.upto entrySpoiltSpec)

/-- 'tailracekeep.EntryBack', WHERE WHAT IT READS IS OF BULK AT MOST 1048576: true; the input reads as it did. -/
def entryBackUptoRow : OpenClaim := { program := "ytemnchkebhclpaa", sum := "81d0bedff0c412a0d243316d221de4204460429b048d031f628eab2b4c8e4fa8", func := "tailrace/tailracekeep.EntryBack", spec := "entryBack", plainKeys := false, apart := false, narrowed := true }
def EntryBackUptoSaid : Prop := entryBackUptoRow.holds Try.pinned (OpenSpec.upto entryBackSpec)

/-- 'tailracekeep.ReadPages', WHERE WHAT IT READS IS OF BULK AT MOST 1048576: true; the input reads as it did. -/
def readPagesUptoRow : OpenClaim := { program := "ytemnchkebhclpaa", sum := "81d0bedff0c412a0d243316d221de4204460429b048d031f628eab2b4c8e4fa8", func := "tailrace/tailracekeep.ReadPages", spec := "readPages", plainKeys := false, apart := false, narrowed := true }
def ReadPagesUptoSaid : Prop := readPagesUptoRow.holds Try.pinned (OpenSpec.upto readPagesSpec)

/-- 'tailracekeep.ReadDone', WHERE WHAT IT READS IS OF BULK AT MOST 1048576: true; the input reads as it did. -/
def readDoneUptoRow : OpenClaim := { program := "ytemnchkebhclpaa", sum := "81d0bedff0c412a0d243316d221de4204460429b048d031f628eab2b4c8e4fa8", func := "tailrace/tailracekeep.ReadDone", spec := "readDone", unfollowed := true, recurses := true, plainKeys := false, apart := false, narrowed := true }
def ReadDoneUptoSaid : Prop := readDoneUptoRow.holds Try.pinned (OpenSpec.upto readDoneSpec)

/-- 'tailracekeep.EntryBad', WHERE WHAT IT READS IS OF BULK AT MOST 1048576: true; the input reads as it did. -/
def entryBadUptoRow : OpenClaim := { program := "ytemnchkebhclpaa", sum := "81d0bedff0c412a0d243316d221de4204460429b048d031f628eab2b4c8e4fa8", func := "tailrace/tailracekeep.EntryBad", spec := "entryBad", plainKeys := false, apart := false, narrowed := true }
def EntryBadUptoSaid : Prop := entryBadUptoRow.holds Try.pinned (OpenSpec.upto entryBadSpec)

/-- 'tailracekeep.EntryTorn', WHERE WHAT IT READS IS OF BULK AT MOST 1048576: true; the input reads as it did. -/
def entryTornUptoRow : OpenClaim := { program := "ytemnchkebhclpaa", sum := "81d0bedff0c412a0d243316d221de4204460429b048d031f628eab2b4c8e4fa8", func := "tailrace/tailracekeep.EntryTorn", spec := "entryTorn", plainKeys := false, apart := false, narrowed := true }
def EntryTornUptoSaid : Prop := entryTornUptoRow.holds Try.pinned (OpenSpec.upto entryTornSpec)

/-- 'tailracekeep.LogGrows', WHERE WHAT IT READS IS OF BULK AT MOST 1048576: true; the input reads as it did. -/
def logGrowsUptoRow : OpenClaim := { program := "ytemnchkebhclpaa", sum := "81d0bedff0c412a0d243316d221de4204460429b048d031f628eab2b4c8e4fa8", func := "tailrace/tailracekeep.LogGrows", spec := "logGrows", plainKeys := false, apart := false, narrowed := true }
def LogGrowsUptoSaid : Prop := logGrowsUptoRow.holds Try.pinned (OpenSpec.upto logGrowsSpec)

/-- 'tailracekeep.LogCrashes', WHERE WHAT IT READS IS OF BULK AT MOST 1048576: true; the input reads as it did. -/
def logCrashesUptoRow : OpenClaim := { program := "ytemnchkebhclpaa", sum := "81d0bedff0c412a0d243316d221de4204460429b048d031f628eab2b4c8e4fa8", func := "tailrace/tailracekeep.LogCrashes", spec := "logCrashes", plainKeys := false, apart := false, narrowed := true }
def LogCrashesUptoSaid : Prop := logCrashesUptoRow.holds Try.pinned (OpenSpec.upto logCrashesSpec)

/-- 'tailracekeep.LogCuts', WHERE WHAT IT READS IS OF BULK AT MOST 1048576: true; the input reads as it did. -/
def logCutsUptoRow : OpenClaim := { program := "ytemnchkebhclpaa", sum := "81d0bedff0c412a0d243316d221de4204460429b048d031f628eab2b4c8e4fa8", func := "tailrace/tailracekeep.LogCuts", spec := "logCuts", plainKeys := false, apart := false, narrowed := true }
def LogCutsUptoSaid : Prop := logCutsUptoRow.holds Try.pinned (OpenSpec.upto logCutsSpec)

/-- 'tailracekeep.GroupOrder', WHERE WHAT IT READS IS OF BULK AT MOST 1048576: true; the input reads as it did. -/
def groupOrderUptoRow : OpenClaim := { program := "ytemnchkebhclpaa", sum := "81d0bedff0c412a0d243316d221de4204460429b048d031f628eab2b4c8e4fa8", func := "tailrace/tailracekeep.GroupOrder", spec := "groupOrder", unfollowed := true, recurses := true, plainKeys := false, apart := false, narrowed := true }
def GroupOrderUptoSaid : Prop := groupOrderUptoRow.holds Try.pinned (OpenSpec.upto groupOrderSpec)

/-- 'tailracekeep.CoordWaits', WHERE WHAT IT READS IS OF BULK AT MOST 1048576: true; the input reads as it did. -/
def coordWaitsUptoRow : OpenClaim := { program := "ytemnchkebhclpaa", sum := "81d0bedff0c412a0d243316d221de4204460429b048d031f628eab2b4c8e4fa8", func := "tailrace/tailracekeep.CoordWaits", spec := "coordWaits", inPlace := ["slices.overlaps[int]"], unfollowed := true, recurses := true, plainKeys := false, apart := false, narrowed := true }
def CoordWaitsUptoSaid : Prop := coordWaitsUptoRow.holds Try.pinned (OpenSpec.upto coordWaitsSpec)

/-- 'tailracekeep.GroupSilent', WHERE WHAT IT READS IS OF BULK AT MOST 1048576: true; the input reads as it did. -/
def groupSilentUptoRow : OpenClaim := { program := "ytemnchkebhclpaa", sum := "81d0bedff0c412a0d243316d221de4204460429b048d031f628eab2b4c8e4fa8", func := "tailrace/tailracekeep.GroupSilent", spec := "groupSilent", unfollowed := true, recurses := true, plainKeys := false, apart := false, narrowed := true }
def GroupSilentUptoSaid : Prop := groupSilentUptoRow.holds Try.pinned (OpenSpec.upto groupSilentSpec)

/-- 'tailracekeep.CoordGood', WHERE WHAT IT READS IS OF BULK AT MOST 1048576: true; the input reads as it did. -/
def coordGoodUptoRow : OpenClaim := { program := "ytemnchkebhclpaa", sum := "81d0bedff0c412a0d243316d221de4204460429b048d031f628eab2b4c8e4fa8", func := "tailrace/tailracekeep.CoordGood", spec := "coordGood", inPlace := ["slices.overlaps[int]"], unfollowed := true, recurses := true, plainKeys := false, apart := false, narrowed := true }
def CoordGoodUptoSaid : Prop := coordGoodUptoRow.holds Try.pinned (OpenSpec.upto coordGoodSpec)

/-- 'tailracekeep.CoordFences', WHERE WHAT IT READS IS OF BULK AT MOST 1048576: true; the input reads as it did. -/
def coordFencesUptoRow : OpenClaim := { program := "ytemnchkebhclpaa", sum := "81d0bedff0c412a0d243316d221de4204460429b048d031f628eab2b4c8e4fa8", func := "tailrace/tailracekeep.CoordFences", spec := "coordFences", inPlace := ["slices.overlaps[int]"], unfollowed := true, recurses := true, plainKeys := false, apart := false, narrowed := true }
def CoordFencesUptoSaid : Prop := coordFencesUptoRow.holds Try.pinned (OpenSpec.upto coordFencesSpec)

/-- 'tailracekeep.PartFew', WHERE WHAT IT READS IS OF BULK AT MOST 1048576: true; the input reads as it did. -/
def partFewUptoRow : OpenClaim := { program := "ytemnchkebhclpaa", sum := "81d0bedff0c412a0d243316d221de4204460429b048d031f628eab2b4c8e4fa8", func := "tailrace/tailracekeep.PartFew", spec := "partFew", plainKeys := false, apart := false, narrowed := true }
def PartFewUptoSaid : Prop := partFewUptoRow.holds Try.pinned (OpenSpec.upto partFewSpec)

/-- 'tailracekeep.PartCatches', WHERE WHAT IT READS IS OF BULK AT MOST 1048576: true; the input reads as it did. -/
def partCatchesUptoRow : OpenClaim := { program := "ytemnchkebhclpaa", sum := "81d0bedff0c412a0d243316d221de4204460429b048d031f628eab2b4c8e4fa8", func := "tailrace/tailracekeep.PartCatches", spec := "partCatches", plainKeys := false, apart := false, narrowed := true }
def PartCatchesUptoSaid : Prop := partCatchesUptoRow.holds Try.pinned (OpenSpec.upto partCatchesSpec)

/-- 'tailracekeep.GroupGood', WHERE WHAT IT READS IS OF BULK AT MOST 1048576: true; the input reads as it did. -/
def groupGoodUptoRow : OpenClaim := { program := "ytemnchkebhclpaa", sum := "81d0bedff0c412a0d243316d221de4204460429b048d031f628eab2b4c8e4fa8", func := "tailrace/tailracekeep.GroupGood", spec := "groupGood", inPlace := ["slices.overlaps[tailrace/api.Offset]"], unfollowed := true, recurses := true, plainKeys := false, apart := false, narrowed := true }
def GroupGoodUptoSaid : Prop := groupGoodUptoRow.holds Try.pinned (OpenSpec.upto groupGoodSpec)

/-- 'tailracekeep.GroupShares', WHERE WHAT IT READS IS OF BULK AT MOST 1048576: true; the input reads as it did. -/
def groupSharesUptoRow : OpenClaim := { program := "ytemnchkebhclpaa", sum := "81d0bedff0c412a0d243316d221de4204460429b048d031f628eab2b4c8e4fa8", func := "tailrace/tailracekeep.GroupShares", spec := "groupShares", inPlace := ["slices.overlaps[tailrace/api.Offset]"], unfollowed := true, recurses := true, plainKeys := false, apart := false, narrowed := true }
def GroupSharesUptoSaid : Prop := groupSharesUptoRow.holds Try.pinned (OpenSpec.upto groupSharesSpec)

/-- 'tailracekeep.GroupGoesOn', WHERE WHAT IT READS IS OF BULK AT MOST 1048576: true; the input reads as it did. -/
def groupGoesOnUptoRow : OpenClaim := { program := "ytemnchkebhclpaa", sum := "81d0bedff0c412a0d243316d221de4204460429b048d031f628eab2b4c8e4fa8", func := "tailrace/tailracekeep.GroupGoesOn", spec := "groupGoesOn", inPlace := ["slices.overlaps[tailrace/api.Offset]"], unfollowed := true, recurses := true, plainKeys := false, apart := false, narrowed := true }
def GroupGoesOnUptoSaid : Prop := groupGoesOnUptoRow.holds Try.pinned (OpenSpec.upto groupGoesOnSpec)

/-- 'tailracekeep.PartLed', WHERE WHAT IT READS IS OF BULK AT MOST 1048576: true; the input reads as it did. -/
def partLedUptoRow : OpenClaim := { program := "ytemnchkebhclpaa", sum := "81d0bedff0c412a0d243316d221de4204460429b048d031f628eab2b4c8e4fa8", func := "tailrace/tailracekeep.PartLed", spec := "partLed", plainKeys := false, apart := false, narrowed := true }
def PartLedUptoSaid : Prop := partLedUptoRow.holds Try.pinned (OpenSpec.upto partLedSpec)

/-- 'tailracekeep.PartGood', WHERE WHAT IT READS IS OF BULK AT MOST 1048576: true; the input reads as it did. -/
def partGoodUptoRow : OpenClaim := { program := "ytemnchkebhclpaa", sum := "81d0bedff0c412a0d243316d221de4204460429b048d031f628eab2b4c8e4fa8", func := "tailrace/tailracekeep.PartGood", spec := "partGood", plainKeys := false, apart := false, narrowed := true }
def PartGoodUptoSaid : Prop := partGoodUptoRow.holds Try.pinned (OpenSpec.upto partGoodSpec)

/-- 'tailracekeep.PartCalm', WHERE WHAT IT READS IS OF BULK AT MOST 1048576: true; the input reads as it did. -/
def partCalmUptoRow : OpenClaim := { program := "ytemnchkebhclpaa", sum := "81d0bedff0c412a0d243316d221de4204460429b048d031f628eab2b4c8e4fa8", func := "tailrace/tailracekeep.PartCalm", spec := "partCalm", plainKeys := false, apart := false, narrowed := true }
def PartCalmUptoSaid : Prop := partCalmUptoRow.holds Try.pinned (OpenSpec.upto partCalmSpec)

/-- 'tailracekeep.PartKept', WHERE WHAT IT READS IS OF BULK AT MOST 1048576: true; the input reads as it did. -/
def partKeptUptoRow : OpenClaim := { program := "ytemnchkebhclpaa", sum := "81d0bedff0c412a0d243316d221de4204460429b048d031f628eab2b4c8e4fa8", func := "tailrace/tailracekeep.PartKept", spec := "partKept", plainKeys := false, apart := false, narrowed := true }
def PartKeptUptoSaid : Prop := partKeptUptoRow.holds Try.pinned (OpenSpec.upto partKeptSpec)

/-- 'tailracekeep.PartAlike', WHERE WHAT IT READS IS OF BULK AT MOST 1048576: true; the input reads as it did. -/
def partAlikeUptoRow : OpenClaim := { program := "ytemnchkebhclpaa", sum := "81d0bedff0c412a0d243316d221de4204460429b048d031f628eab2b4c8e4fa8", func := "tailrace/tailracekeep.PartAlike", spec := "partAlike", plainKeys := false, apart := false, narrowed := true }
def PartAlikeUptoSaid : Prop := partAlikeUptoRow.holds Try.pinned (OpenSpec.upto partAlikeSpec)

/-- 'tailracekeep.ReadsKept', WHERE WHAT IT READS IS OF BULK AT MOST 1048576: true; the input reads as it did. -/
def readsKeptUptoRow : OpenClaim := { program := "ytemnchkebhclpaa", sum := "81d0bedff0c412a0d243316d221de4204460429b048d031f628eab2b4c8e4fa8", func := "tailrace/tailracekeep.ReadsKept", spec := "readsKept", plainKeys := false, apart := false, narrowed := true }
def ReadsKeptUptoSaid : Prop := readsKeptUptoRow.holds Try.pinned (OpenSpec.upto readsKeptSpec)

/-- 'tailracekeep.CoordStays', WHERE WHAT IT READS IS OF BULK AT MOST 1048576: true; the input reads as it did. -/
def coordStaysUptoRow : OpenClaim := { program := "ytemnchkebhclpaa", sum := "81d0bedff0c412a0d243316d221de4204460429b048d031f628eab2b4c8e4fa8", func := "tailrace/tailracekeep.CoordStays", spec := "coordStays", inPlace := ["slices.overlaps[int]"], unfollowed := true, recurses := true, plainKeys := false, apart := false, narrowed := true }
def CoordStaysUptoSaid : Prop := coordStaysUptoRow.holds Try.pinned (OpenSpec.upto coordStaysSpec)

end Rows
end Go.Proofs.Ytemnchkebhclpaa
