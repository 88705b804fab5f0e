/-
  No cell of these rows narrows 'for every input' (looked for: loops, veiled, ifaces, maps, wideKeys, modest, calm, conditions, laid).
  DERIVED. THE GIVEN ROWS OF THIS SEAT. 6 by the template 'for every input the law returns true; each argument reads behind the call as it read before'; 0 by the template 'total and deterministic' (their statements: YtclibalpdhhhfaaGreatTotals.lean).
  GIVEN WITH THE SEED: the statements are not yours to turn. If you find one false, say at which input.
  Laid BY PROGRAM, IN A SANDBOX (cutbox-rows.mjs): the forced cells as the released guide's own fill.sh prints them over the translation 8d6f02a03ebf9b41… (all of the seat's roots in one cut). By AI agents, Wed Nov 11 2026. No macro, syntax, notation, axiom, sorry.
-/
import Derived.Test.YtclibalpdhhhfaaGreatChecked
import GoSem.Claim
import GoSem.ClaimJoined
import GoSem.ClaimMapViews
import Derived.JoinedTies
import Derived.KernelRfl
namespace Go.Proofs.YtclibalpdhhhfaaGreat
/- THE CELL 'sum', in the pinned program and in every row, IS THE sha256 OF THE DUMP (.gsa) THAT YtclibalpdhhhfaaGreatProg.lean LOADS. Nothing in Lean hashes anything: it is a label: what it is worth is what the hold of that sum in a sandbox is worth. -/
noncomputable def Tryz.pinned : Pinned := { name := "ytclibalpdhhhfaagreat", sum := "8d6f02a03ebf9b4170f10d70b524459e4971d0fa37e2ba1aab44460bc005abde", checked := Tryz.checked }
namespace Rows
def none {H : Type} : Left H := { results := [], args := [] }

/-- 'tailracetop.TopKept': WHATEVER THE INPUT: true; the input reads as it did. -/
def topKeptSpec : ChangeSpec := { name := "topKept", fn := fun _ => fun
  | [d1, d2, d3, d4] => { results := [.lit (.bool true)], args := [d1, d2, d3, d4] }
  | _ => none }
def topKeptRow : OpenClaim := { program := "ytclibalpdhhhfaagreat", sum := "8d6f02a03ebf9b4170f10d70b524459e4971d0fa37e2ba1aab44460bc005abde", func := "tailrace/tailracetop.TopKept", spec := "topKept", inPlace := ["slices.overlaps[int]", "slices.overlaps[tailrace/api.Offset]"], unfollowed := true, recurses := true, plainKeys := false, apart := false }
def TopKeptSaid : Prop := topKeptRow.holds Tryz.pinned (OpenSpec.ofChange topKeptSpec)

/-- ITS FALSE NEIGHBOUR: 'it returns false'. Refute it at one input. -/
def topKeptWrong : ChangeSpec := { name := "topKept", fn := fun _ => fun
  | [d1, d2, d3, d4] => { results := [.lit (.bool false)], args := [d1, d2, d3, d4] }
  | _ => none }
def TopKeptWrongFalsely : Prop := topKeptRow.holds Tryz.pinned (OpenSpec.ofChange topKeptWrong)

/-- 'tailracetop.TopTwice': WHATEVER THE INPUT: true; the input reads as it did. -/
def topTwiceSpec : ChangeSpec := { name := "topTwice", fn := fun _ => fun
  | [d1, d2, d3] => { results := [.lit (.bool true)], args := [d1, d2, d3] }
  | _ => none }
def topTwiceRow : OpenClaim := { program := "ytclibalpdhhhfaagreat", sum := "8d6f02a03ebf9b4170f10d70b524459e4971d0fa37e2ba1aab44460bc005abde", func := "tailrace/tailracetop.TopTwice", spec := "topTwice", inPlace := ["slices.overlaps[int]", "slices.overlaps[tailrace/api.Offset]"], unfollowed := true, recurses := true, plainKeys := false, apart := false }
def TopTwiceSaid : Prop := topTwiceRow.holds Tryz.pinned (OpenSpec.ofChange topTwiceSpec)

/-- ITS FALSE NEIGHBOUR: 'it returns false'. Refute it at one input. -/
def topTwiceWrong : ChangeSpec := { name := "topTwice", fn := fun _ => fun
  | [d1, d2, d3] => { results := [.lit (.bool false)], args := [d1, d2, d3] }
  | _ => none }
def TopTwiceWrongFalsely : Prop := topTwiceRow.holds Tryz.pinned (OpenSpec.ofChange topTwiceWrong)

/-- 'tailracetop.TopLater': WHATEVER THE INPUT: true; the input reads as it did. -/
def topLaterSpec : ChangeSpec := { name := "topLater", fn := fun _ => fun
  | [d1, d2, d3, d4] => { results := [.lit (.bool true)], args := [d1, d2, d3, d4] }
  | _ => none }
def topLaterRow : OpenClaim := { program := "ytclibalpdhhhfaagreat", sum := "8d6f02a03ebf9b4170f10d70b524459e4971d0fa37e2ba1aab44460bc005abde", func := "tailrace/tailracetop.TopLater", spec := "topLater", inPlace := ["slices.overlaps[int]", "slices.overlaps[tailrace/api.Offset]"], unfollowed := true, recurses := true, plainKeys := false, apart := false }
def TopLaterSaid : Prop := topLaterRow.holds Tryz.pinned (OpenSpec.ofChange topLaterSpec)

/-- ITS FALSE NEIGHBOUR: 'it returns false'. Refute it at one input. -/
def topLaterWrong : ChangeSpec := { name := "topLater", fn := fun _ => fun
  | [d1, d2, d3, d4] => { results := [.lit (.bool false)], args := [d1, d2, d3, d4] }
  | _ => none }
def TopLaterWrongFalsely : Prop := topLaterRow.holds Tryz.pinned (OpenSpec.ofChange topLaterWrong)

/-- 'tailracekeep.WorldGood': WHATEVER THE INPUT: true; the input reads as it did. -/
def worldGoodSpec : ChangeSpec := { name := "worldGood", fn := fun _ => fun
  | [d1, d2, d3] => { results := [.lit (.bool true)], args := [d1, d2, d3] }
  | _ => none }
def worldGoodRow : OpenClaim := { program := "ytclibalpdhhhfaagreat", sum := "8d6f02a03ebf9b4170f10d70b524459e4971d0fa37e2ba1aab44460bc005abde", func := "tailrace/tailracekeep.WorldGood", spec := "worldGood", inPlace := ["slices.overlaps[int]", "slices.overlaps[tailrace/api.Offset]"], unfollowed := true, recurses := true, plainKeys := false, apart := false }
def WorldGoodSaid : Prop := worldGoodRow.holds Tryz.pinned (OpenSpec.ofChange worldGoodSpec)

/-- ITS FALSE NEIGHBOUR: 'it returns false'. Refute it at one input. -/
def worldGoodWrong : ChangeSpec := { name := "worldGood", fn := fun _ => fun
  | [d1, d2, d3] => { results := [.lit (.bool false)], args := [d1, d2, d3] }
  | _ => none }
def WorldGoodWrongFalsely : Prop := worldGoodRow.holds Tryz.pinned (OpenSpec.ofChange worldGoodWrong)

/-- 'tailracekeep.LogsOnce': WHATEVER THE INPUT: true; the input reads as it did. -/
def logsOnceSpec : ChangeSpec := { name := "logsOnce", fn := fun _ => fun
  | [d1, d2, d3] => { results := [.lit (.bool true)], args := [d1, d2, d3] }
  | _ => none }
def logsOnceRow : OpenClaim := { program := "ytclibalpdhhhfaagreat", sum := "8d6f02a03ebf9b4170f10d70b524459e4971d0fa37e2ba1aab44460bc005abde", func := "tailrace/tailracekeep.LogsOnce", spec := "logsOnce", inPlace := ["slices.overlaps[int]", "slices.overlaps[tailrace/api.Offset]"], unfollowed := true, recurses := true, plainKeys := false, apart := false }
def LogsOnceSaid : Prop := logsOnceRow.holds Tryz.pinned (OpenSpec.ofChange logsOnceSpec)

/-- ITS FALSE NEIGHBOUR: 'it returns false'. Refute it at one input. -/
def logsOnceWrong : ChangeSpec := { name := "logsOnce", fn := fun _ => fun
  | [d1, d2, d3] => { results := [.lit (.bool false)], args := [d1, d2, d3] }
  | _ => none }
def LogsOnceWrongFalsely : Prop := logsOnceRow.holds Tryz.pinned (OpenSpec.ofChange logsOnceWrong)

/-- 'tailracekeep.AgainSame': WHATEVER THE INPUT: true; the input reads as it did. -/
def againSameSpec : ChangeSpec := { name := "againSame", fn := fun _ => fun
  | [d1, d2, d3, d4] => { results := [.lit (.bool true)], args := [d1, d2, d3, d4] }
  | _ => none }
def againSameRow : OpenClaim := { program := "ytclibalpdhhhfaagreat", sum := "8d6f02a03ebf9b4170f10d70b524459e4971d0fa37e2ba1aab44460bc005abde", func := "tailrace/tailracekeep.AgainSame", spec := "againSame", inPlace := ["slices.overlaps[int]", "slices.overlaps[tailrace/api.Offset]"], unfollowed := true, recurses := true, plainKeys := false, apart := false }
def AgainSameSaid : Prop := againSameRow.holds Tryz.pinned (OpenSpec.ofChange againSameSpec)

/-- ITS FALSE NEIGHBOUR: 'it returns false'. Refute it at one input. -/
def againSameWrong : ChangeSpec := { name := "againSame", fn := fun _ => fun
  | [d1, d2, d3, d4] => { results := [.lit (.bool false)], args := [d1, d2, d3, d4] }
  | _ => none }
def AgainSameWrongFalsely : Prop := againSameRow.holds Tryz.pinned (OpenSpec.ofChange againSameWrong)

/- THE SECOND FORM. 'bulk': how many values and letters a reading holds, each counted each time it is reached (what is shared counts as often as it is met; a slice's spare places count too). A statement '..UptoSaid' is the law's where the arguments, and the package variables that the reading takes, are together of bulk at most 1048576: NARROWER than '..Said'. Prove '..Said' where nothing that the law and all that it calls make is longer than what came in: it says more and counts as full. Else prove '..UptoSaid'. A law counts once. -/
mutual
def uptoBulk {H : Type} : DataW H → Nat
  | .lit (.string bytes) => bytes.length + 1
  | .lit _ => 1
  | .nil => 1
  | .ptr d => uptoBulk d + 1
  | .slice elems spare => uptoBulkAll elems + uptoBulkAll spare + 1
  | .agg parts => uptoBulkAll parts + 1
  | .iface _ d => uptoBulk d + 1
  | .map entries => uptoBulkEntries entries + 1
  | .held _ => 1
def uptoBulkAll {H : Type} : List (DataW H) → Nat
  | [] => 0
  | d :: r => uptoBulk d + uptoBulkAll r
def uptoBulkEntries {H : Type} : List (Lit × DataW H) → Nat
  | [] => 0
  | x :: r => uptoBulkEntry x + uptoBulkEntries r
def uptoBulkEntry {H : Type} : Lit × DataW H → Nat
  | (.string bytes, d) => bytes.length + uptoBulk d + 1
  | (_, d) => uptoBulk d + 1
 end
def uptoSmall : (H : Type) → List (DataW H) → Bool := fun _ ds => decide (uptoBulkAll ds ≤ 1048576)
def OpenSpec.upto (s : _root_.Go.ChangeSpec) : _root_.Go.OpenSpec := { _root_.Go.OpenSpec.ofChange s with cond := some uptoSmall }

/-- 'tailracetop.TopKept', WHERE WHAT IT READS IS OF BULK AT MOST 1048576: true; the input reads as it did. -/
def topKeptUptoRow : OpenClaim := { program := "ytclibalpdhhhfaagreat", sum := "8d6f02a03ebf9b4170f10d70b524459e4971d0fa37e2ba1aab44460bc005abde", func := "tailrace/tailracetop.TopKept", spec := "topKept", inPlace := ["slices.overlaps[int]", "slices.overlaps[tailrace/api.Offset]"], unfollowed := true, recurses := true, plainKeys := false, apart := false, narrowed := true }
def TopKeptUptoSaid : Prop := topKeptUptoRow.holds Tryz.pinned (OpenSpec.upto topKeptSpec)

/-- 'tailracetop.TopTwice', WHERE WHAT IT READS IS OF BULK AT MOST 1048576: true; the input reads as it did. -/
def topTwiceUptoRow : OpenClaim := { program := "ytclibalpdhhhfaagreat", sum := "8d6f02a03ebf9b4170f10d70b524459e4971d0fa37e2ba1aab44460bc005abde", func := "tailrace/tailracetop.TopTwice", spec := "topTwice", inPlace := ["slices.overlaps[int]", "slices.overlaps[tailrace/api.Offset]"], unfollowed := true, recurses := true, plainKeys := false, apart := false, narrowed := true }
def TopTwiceUptoSaid : Prop := topTwiceUptoRow.holds Tryz.pinned (OpenSpec.upto topTwiceSpec)

/-- 'tailracetop.TopLater', WHERE WHAT IT READS IS OF BULK AT MOST 1048576: true; the input reads as it did. -/
def topLaterUptoRow : OpenClaim := { program := "ytclibalpdhhhfaagreat", sum := "8d6f02a03ebf9b4170f10d70b524459e4971d0fa37e2ba1aab44460bc005abde", func := "tailrace/tailracetop.TopLater", spec := "topLater", inPlace := ["slices.overlaps[int]", "slices.overlaps[tailrace/api.Offset]"], unfollowed := true, recurses := true, plainKeys := false, apart := false, narrowed := true }
def TopLaterUptoSaid : Prop := topLaterUptoRow.holds Tryz.pinned (OpenSpec.upto topLaterSpec)

/-- 'tailracekeep.WorldGood', WHERE WHAT IT READS IS OF BULK AT MOST 1048576: true; the input reads as it did. -/
def worldGoodUptoRow : OpenClaim := { program := "ytclibalpdhhhfaagreat", sum := "8d6f02a03ebf9b4170f10d70b524459e4971d0fa37e2ba1aab44460bc005abde", func := "tailrace/tailracekeep.WorldGood", spec := "worldGood", inPlace := ["slices.overlaps[int]", "slices.overlaps[tailrace/api.Offset]"], unfollowed := true, recurses := true, plainKeys := false, apart := false, narrowed := true }
def WorldGoodUptoSaid : Prop := worldGoodUptoRow.holds Tryz.pinned (OpenSpec.upto worldGoodSpec)

/-- 'tailracekeep.LogsOnce', WHERE WHAT IT READS IS OF BULK AT MOST 1048576: true; the input reads as it did. -/
def logsOnceUptoRow : OpenClaim := { program := "ytclibalpdhhhfaagreat", sum := "8d6f02a03ebf9b4170f10d70b524459e4971d0fa37e2ba1aab44460bc005abde", func := "tailrace/tailracekeep.LogsOnce", spec := "logsOnce", inPlace := ["slices.overlaps[int]", "slices.overlaps[tailrace/api.Offset]"], unfollowed := true, recurses := true, plainKeys := false, apart := false, narrowed := true }
def LogsOnceUptoSaid : Prop := logsOnceUptoRow.holds Tryz.pinned (OpenSpec.upto logsOnceSpec)

/-- 'tailracekeep.AgainSame', WHERE WHAT IT READS IS OF BULK AT MOST 1048576: true; the input reads as it did. -/
def againSameUptoRow : OpenClaim := { program := "ytclibalpdhhhfaagreat", sum := "8d6f02a03ebf9b4170f10d70b524459e4971d0fa37e2ba1aab44460bc005abde", func := "tailrace/tailracekeep.AgainSame", spec := "againSame", inPlace := ["slices.overlaps[int]", "slices.overlaps[tailrace/api.Offset]"], unfollowed := true, recurses := true, plainKeys := false, apart := false, narrowed := true }
def AgainSameUptoSaid : Prop := againSameUptoRow.holds Tryz.pinned (OpenSpec.upto againSameSpec)

end Rows
end Go.Proofs.YtclibalpdhhhfaaGreat
