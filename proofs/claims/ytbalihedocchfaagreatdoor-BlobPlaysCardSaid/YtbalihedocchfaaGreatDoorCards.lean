/-
  DERIVED. GIVEN WITH THE SEED: THE CARDS: each row of YtbalihedocchfaaGreatDoorRows.lean that lists a variable, with what it lists TIED to the program's text (the seventh form; the later family's looks); each row that meets fmt, with fmt's text TOLD by the authors' own Lean function (tested against real Go, not proved from fmt's source: count such statements apart). THE CARD IS WHAT COUNTS. Prove the row's statement (the work); the ties are given (YtbalihedocchfaaGreatDoorTie.lean); close each card by the builder's one call (the guide's Derived/Test/ToyasCard.lean, 'card_holds'). Laid BY PROGRAM, IN A SANDBOX (cutbox-door.mjs). By AI agents, Wed Nov 11 2026. No macro, syntax, notation, axiom, sorry.
-/
import Derived.Test.YtbalihedocchfaaGreatDoorRows
import GoSem.ClaimSeven
namespace Go.Proofs.YtbalihedocchfaaGreatDoor
namespace Rows

/-- THE TIED CARD OF 'astrolabelaw20.BlobPlays'. -/
def blobPlaysCard : Claim7 := { stood := { row := blobPlaysRow, standIns := [], harness := (true, "20ced7995b16fd9eade28782448234c424100a0af02195dd21f5693178228a56"), looks := false }, kinds := [], alts := [], laidByText := true, laidKinds := [.data, .pinned], laidTests := true, laidLooks := .later }
def BlobPlaysCardSaid : Prop := Claim7.holds Tryz.pinned (.plain (OpenSpec.ofChange blobPlaysSpec)) blobPlaysCard

/-- THE SECOND FORM's CARD OF 'astrolabelaw20.BlobPlays'. -/
def blobPlaysUptoCard : Claim7 := { stood := { row := blobPlaysUptoRow, standIns := [], harness := (true, "20ced7995b16fd9eade28782448234c424100a0af02195dd21f5693178228a56"), looks := false }, kinds := [], alts := [], laidByText := true, laidKinds := [.data, .pinned], laidTests := true, laidLooks := .later }
def BlobPlaysUptoCardSaid : Prop := Claim7.holds Tryz.pinned (.plain (OpenSpec.upto blobPlaysSpec)) blobPlaysUptoCard
end Rows
end Go.Proofs.YtbalihedocchfaaGreatDoor
