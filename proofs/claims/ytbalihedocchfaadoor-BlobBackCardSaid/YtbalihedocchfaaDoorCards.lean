/-
  DERIVED. GIVEN WITH THE SEED: THE CARDS: each row of YtbalihedocchfaaDoorRows.lean that lists a variable, with what it lists TIED to the program's text (the seventh form; the later family's looks); each row that meets fmt, with fmt's text TOLD by the authors' own Lean function (tested against real Go, not proved from fmt's source: count such statements apart). THE CARD IS WHAT COUNTS. Prove the row's statement (the work); the ties are given (YtbalihedocchfaaDoorTie.lean); close each card by the builder's one call (the guide's Derived/Test/ToyasCard.lean, 'card_holds'). Laid BY PROGRAM, IN A SANDBOX (cutbox-door.mjs). By AI agents, Wed Nov 11 2026. No macro, syntax, notation, axiom, sorry.
-/
import Derived.Test.YtbalihedocchfaaDoorRows
import GoSem.ClaimSeven
namespace Go.Proofs.YtbalihedocchfaaDoor
namespace Rows

/-- THE TIED CARD OF 'astrolabelaw20.BlobBack'. -/
def blobBackCard : Claim7 := { stood := { row := blobBackRow, standIns := [], harness := (true, "14ec47715b313ee0bc0d863ea893f365cc9690ea23f6bf931392bf869b5a9e11"), looks := false }, kinds := [], alts := [], laidByText := true, laidKinds := [.data, .pinned], laidTests := true, laidLooks := .later }
def BlobBackCardSaid : Prop := Claim7.holds Tryd.pinned (.plain (OpenSpec.ofChange blobBackSpec)) blobBackCard

/-- THE TIED CARD OF 'astrolabelaw20.BlobNeeds'. -/
def blobNeedsCard : Claim7 := { stood := { row := blobNeedsRow, standIns := [], harness := (true, "14ec47715b313ee0bc0d863ea893f365cc9690ea23f6bf931392bf869b5a9e11"), looks := false }, kinds := [], alts := [], laidByText := true, laidKinds := [.data, .pinned], laidTests := true, laidLooks := .later }
def BlobNeedsCardSaid : Prop := Claim7.holds Tryd.pinned (.plain (OpenSpec.ofChange blobNeedsSpec)) blobNeedsCard

/-- THE TIED CARD OF 'astrolabelaw20.BlobChains'. -/
def blobChainsCard : Claim7 := { stood := { row := blobChainsRow, standIns := [], harness := (true, "14ec47715b313ee0bc0d863ea893f365cc9690ea23f6bf931392bf869b5a9e11"), looks := false }, kinds := [], alts := [], laidByText := true, laidKinds := [.data, .pinned], laidTests := true, laidLooks := .later }
def BlobChainsCardSaid : Prop := Claim7.holds Tryd.pinned (.plain (OpenSpec.ofChange blobChainsSpec)) blobChainsCard

/-- THE SECOND FORM's CARD OF 'astrolabelaw20.BlobBack'. -/
def blobBackUptoCard : Claim7 := { stood := { row := blobBackUptoRow, standIns := [], harness := (true, "14ec47715b313ee0bc0d863ea893f365cc9690ea23f6bf931392bf869b5a9e11"), looks := false }, kinds := [], alts := [], laidByText := true, laidKinds := [.data, .pinned], laidTests := true, laidLooks := .later }
def BlobBackUptoCardSaid : Prop := Claim7.holds Tryd.pinned (.plain (OpenSpec.upto blobBackSpec)) blobBackUptoCard

/-- THE SECOND FORM's CARD OF 'astrolabelaw20.BlobNeeds'. -/
def blobNeedsUptoCard : Claim7 := { stood := { row := blobNeedsUptoRow, standIns := [], harness := (true, "14ec47715b313ee0bc0d863ea893f365cc9690ea23f6bf931392bf869b5a9e11"), looks := false }, kinds := [], alts := [], laidByText := true, laidKinds := [.data, .pinned], laidTests := true, laidLooks := .later }
def BlobNeedsUptoCardSaid : Prop := Claim7.holds Tryd.pinned (.plain (OpenSpec.upto blobNeedsSpec)) blobNeedsUptoCard

/-- THE SECOND FORM's CARD OF 'astrolabelaw20.BlobChains'. -/
def blobChainsUptoCard : Claim7 := { stood := { row := blobChainsUptoRow, standIns := [], harness := (true, "14ec47715b313ee0bc0d863ea893f365cc9690ea23f6bf931392bf869b5a9e11"), looks := false }, kinds := [], alts := [], laidByText := true, laidKinds := [.data, .pinned], laidTests := true, laidLooks := .later }
def BlobChainsUptoCardSaid : Prop := Claim7.holds Tryd.pinned (.plain (OpenSpec.upto blobChainsSpec)) blobChainsUptoCard
end Rows
end Go.Proofs.YtbalihedocchfaaDoor
