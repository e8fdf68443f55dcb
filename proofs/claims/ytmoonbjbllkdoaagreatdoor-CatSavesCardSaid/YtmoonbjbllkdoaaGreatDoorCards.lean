/-
  DERIVED. GIVEN WITH THE SEED: THE CARDS: each row of YtmoonbjbllkdoaaGreatDoorRows.lean that lists a variable, with what it lists TIED to the program's text (the seventh form; the later family's looks); each row that meets fmt, with fmt's text TOLD by the authors' own Lean function (tested against real Go, not proved from fmt's source: count such statements apart). THE CARD IS WHAT COUNTS. Prove the row's statement (the work); the ties are given (YtmoonbjbllkdoaaGreatDoorTie.lean); close each card by the builder's one call (the guide's Derived/Test/ToyasCard.lean, 'card_holds'). Laid BY PROGRAM, IN A SANDBOX (cutbox-door.mjs). By AI agents, Wed Nov 11 2026. No macro, syntax, notation, axiom, sorry.
-/
import Derived.Test.YtmoonbjbllkdoaaGreatDoorRows
import GoSem.ClaimSeven
namespace Go.Proofs.YtmoonbjbllkdoaaGreatDoor
namespace Rows

/-- THE TIED CARD OF 'astrolabelaw23.CatSaves'. -/
def catSavesCard : Claim7 := { stood := { row := catSavesRow, standIns := [], harness := (true, "db7494f31ad788cf55ab6d415bb47c21d6a51ad95caa4e8015ca6d773a24b3c1"), looks := false }, kinds := [], alts := [], laidByText := true, laidKinds := [.data, .pinned], laidTests := true, laidLooks := .later }
def CatSavesCardSaid : Prop := Claim7.holds Tryz.pinned (.plain (OpenSpec.ofChange catSavesSpec)) catSavesCard

/-- THE SECOND FORM's CARD OF 'astrolabelaw23.CatSaves'. -/
def catSavesUptoCard : Claim7 := { stood := { row := catSavesUptoRow, standIns := [], harness := (true, "db7494f31ad788cf55ab6d415bb47c21d6a51ad95caa4e8015ca6d773a24b3c1"), looks := false }, kinds := [], alts := [], laidByText := true, laidKinds := [.data, .pinned], laidTests := true, laidLooks := .later }
def CatSavesUptoCardSaid : Prop := Claim7.holds Tryz.pinned (.plain (OpenSpec.upto catSavesSpec)) catSavesUptoCard
end Rows
end Go.Proofs.YtmoonbjbllkdoaaGreatDoor
