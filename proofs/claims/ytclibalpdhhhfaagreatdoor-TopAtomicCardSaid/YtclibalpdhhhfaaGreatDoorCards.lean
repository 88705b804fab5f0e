/-
  DERIVED. GIVEN WITH THE SEED: THE CARDS: each row of YtclibalpdhhhfaaGreatDoorRows.lean that lists a variable, with what it lists TIED to the program's text (the seventh form; the later family's looks); each row that meets fmt, with fmt's text TOLD by the authors' own Lean function (tested against real Go, not proved from fmt's source: count such statements apart). THE CARD IS WHAT COUNTS. Prove the row's statement (the work); the ties are given (YtclibalpdhhhfaaGreatDoorTie.lean); close each card by the builder's one call (the guide's Derived/Test/ToyasCard.lean, 'card_holds'). Laid BY PROGRAM, IN A SANDBOX (cutbox-door.mjs). By AI agents, Wed Nov 11 2026. No macro, syntax, notation, axiom, sorry.
-/
import Derived.Test.YtclibalpdhhhfaaGreatDoorRows
import GoSem.ClaimSeven
namespace Go.Proofs.YtclibalpdhhhfaaGreatDoor
namespace Rows

/-- THE TIED CARD OF 'tailracetop.TopAtomic'. -/
def topAtomicCard : Claim7 := { stood := { row := topAtomicRow, standIns := [], harness := (true, "007a4d8a169976b0ba2aaf4c57cec0e1c4973fa92c663323ef8e144715bd72c6"), looks := false }, kinds := [], alts := [], laidByText := true, laidKinds := [.data, .data, .data], laidTests := true, laidLooks := .later }
def TopAtomicCardSaid : Prop := Claim7.holds Tryz.pinned (.plain (OpenSpec.ofChange topAtomicSpec)) topAtomicCard

/-- THE TIED CARD OF 'tailracetop.TopOrder'. -/
def topOrderCard : Claim7 := { stood := { row := topOrderRow, standIns := [], harness := (true, "007a4d8a169976b0ba2aaf4c57cec0e1c4973fa92c663323ef8e144715bd72c6"), looks := false }, kinds := [], alts := [], laidByText := true, laidKinds := [.data, .data, .data], laidTests := true, laidLooks := .later }
def TopOrderCardSaid : Prop := Claim7.holds Tryz.pinned (.plain (OpenSpec.ofChange topOrderSpec)) topOrderCard

/-- THE TIED CARD OF 'tailracetop.TopPolled'. -/
def topPolledCard : Claim7 := { stood := { row := topPolledRow, standIns := [], harness := (true, "007a4d8a169976b0ba2aaf4c57cec0e1c4973fa92c663323ef8e144715bd72c6"), looks := false }, kinds := [], alts := [], laidByText := true, laidKinds := [.data, .data, .data], laidTests := true, laidLooks := .later }
def TopPolledCardSaid : Prop := Claim7.holds Tryz.pinned (.plain (OpenSpec.ofChange topPolledSpec)) topPolledCard

/-- THE SECOND FORM's CARD OF 'tailracetop.TopAtomic'. -/
def topAtomicUptoCard : Claim7 := { stood := { row := topAtomicUptoRow, standIns := [], harness := (true, "007a4d8a169976b0ba2aaf4c57cec0e1c4973fa92c663323ef8e144715bd72c6"), looks := false }, kinds := [], alts := [], laidByText := true, laidKinds := [.data, .data, .data], laidTests := true, laidLooks := .later }
def TopAtomicUptoCardSaid : Prop := Claim7.holds Tryz.pinned (.plain (OpenSpec.upto topAtomicSpec)) topAtomicUptoCard

/-- THE SECOND FORM's CARD OF 'tailracetop.TopOrder'. -/
def topOrderUptoCard : Claim7 := { stood := { row := topOrderUptoRow, standIns := [], harness := (true, "007a4d8a169976b0ba2aaf4c57cec0e1c4973fa92c663323ef8e144715bd72c6"), looks := false }, kinds := [], alts := [], laidByText := true, laidKinds := [.data, .data, .data], laidTests := true, laidLooks := .later }
def TopOrderUptoCardSaid : Prop := Claim7.holds Tryz.pinned (.plain (OpenSpec.upto topOrderSpec)) topOrderUptoCard

/-- THE SECOND FORM's CARD OF 'tailracetop.TopPolled'. -/
def topPolledUptoCard : Claim7 := { stood := { row := topPolledUptoRow, standIns := [], harness := (true, "007a4d8a169976b0ba2aaf4c57cec0e1c4973fa92c663323ef8e144715bd72c6"), looks := false }, kinds := [], alts := [], laidByText := true, laidKinds := [.data, .data, .data], laidTests := true, laidLooks := .later }
def TopPolledUptoCardSaid : Prop := Claim7.holds Tryz.pinned (.plain (OpenSpec.upto topPolledSpec)) topPolledUptoCard
end Rows
end Go.Proofs.YtclibalpdhhhfaaGreatDoor
