/-
  DERIVED. GIVEN WITH THE SEED: THE CARDS: each row of YtmoonbjbllkdoaaDoorRows.lean that lists a variable, with what it lists TIED to the program's text (the seventh form; the later family's looks); each row that meets fmt, with fmt's text TOLD by the authors' own Lean function (tested against real Go, not proved from fmt's source: count such statements apart). THE CARD IS WHAT COUNTS. Prove the row's statement (the work); the ties are given (YtmoonbjbllkdoaaDoorTie.lean); close each card by the builder's one call (the guide's Derived/Test/ToyasCard.lean, 'card_holds'). Laid BY PROGRAM, IN A SANDBOX (cutbox-door.mjs). By AI agents, Wed Nov 11 2026. No macro, syntax, notation, axiom, sorry.
-/
import Derived.Test.YtmoonbjbllkdoaaDoorRows
import GoSem.ClaimSeven
namespace Go.Proofs.YtmoonbjbllkdoaaDoor
namespace Rows

/-- THE TIED CARD OF 'astrolabelaw23.CatBack'. -/
def catBackCard : Claim7 := { stood := { row := catBackRow, standIns := [], harness := (true, "7efcd3adef6acefcea9616e236a8b08d8154413ce0d54b130597b62832d00436"), looks := false }, kinds := [], alts := [], laidByText := true, laidKinds := [.data, .pinned], laidTests := true, laidLooks := .later }
def CatBackCardSaid : Prop := Claim7.holds Tryd.pinned (.plain (OpenSpec.ofChange catBackSpec)) catBackCard

/-- THE SECOND FORM's CARD OF 'astrolabelaw23.CatBack'. -/
def catBackUptoCard : Claim7 := { stood := { row := catBackUptoRow, standIns := [], harness := (true, "7efcd3adef6acefcea9616e236a8b08d8154413ce0d54b130597b62832d00436"), looks := false }, kinds := [], alts := [], laidByText := true, laidKinds := [.data, .pinned], laidTests := true, laidLooks := .later }
def CatBackUptoCardSaid : Prop := Claim7.holds Tryd.pinned (.plain (OpenSpec.upto catBackSpec)) catBackUptoCard
end Rows
end Go.Proofs.YtmoonbjbllkdoaaDoor
