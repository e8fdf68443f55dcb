/-
  DERIVED. GIVEN WITH THE SEED: THE CARDS: each row of YtmbflcdokjjleaaDoorRows.lean that lists a variable, with what it lists TIED to the program's text (the seventh form; the later family's looks); each row that meets fmt, with fmt's text TOLD by the authors' own Lean function (tested against real Go, not proved from fmt's source: count such statements apart). THE CARD IS WHAT COUNTS. Prove the row's statement (the work); the ties are given (YtmbflcdokjjleaaDoorTie.lean); close each card by the builder's one call (the guide's Derived/Test/ToyasCard.lean, 'card_holds'). Laid BY PROGRAM, IN A SANDBOX (cutbox-door.mjs). By AI agents, Wed Nov 11 2026. No macro, syntax, notation, axiom, sorry.
-/
import Derived.Test.YtmbflcdokjjleaaDoorRows
import GoSem.ClaimSeven
namespace Go.Proofs.YtmbflcdokjjleaaDoor
namespace Rows

/-- THE TIED CARD OF 'astrolabelaw18.PageSeals'. -/
def pageSealsCard : Claim7 := { stood := { row := pageSealsRow, standIns := [], harness := (true, "4f129574d3baff85aba494b00e3cd101855771fb987e210b31891683bd380a5f"), looks := false }, kinds := [], alts := [], laidByText := true, laidKinds := [.data, .pinned], laidTests := true, laidLooks := .later }
def PageSealsCardSaid : Prop := Claim7.holds Tryd.pinned (.plain (OpenSpec.ofChange pageSealsSpec)) pageSealsCard

/-- THE TIED CARD OF 'astrolabelaw18.PageBack'. -/
def pageBackCard : Claim7 := { stood := { row := pageBackRow, standIns := [], harness := (true, "4f129574d3baff85aba494b00e3cd101855771fb987e210b31891683bd380a5f"), looks := false }, kinds := [], alts := [], laidByText := true, laidKinds := [.data, .pinned], laidTests := true, laidLooks := .later }
def PageBackCardSaid : Prop := Claim7.holds Tryd.pinned (.plain (OpenSpec.ofChange pageBackSpec)) pageBackCard

/-- THE TIED CARD OF 'astrolabelaw18.PageBurst'. -/
def pageBurstCard : Claim7 := { stood := { row := pageBurstRow, standIns := [], harness := (true, "4f129574d3baff85aba494b00e3cd101855771fb987e210b31891683bd380a5f"), looks := false }, kinds := [], alts := [], laidByText := true, laidKinds := [.data, .pinned], laidTests := true, laidLooks := .later }
def PageBurstCardSaid : Prop := Claim7.holds Tryd.pinned (.plain (OpenSpec.ofChange pageBurstSpec)) pageBurstCard

/-- THE SECOND FORM's CARD OF 'astrolabelaw18.PageSeals'. -/
def pageSealsUptoCard : Claim7 := { stood := { row := pageSealsUptoRow, standIns := [], harness := (true, "4f129574d3baff85aba494b00e3cd101855771fb987e210b31891683bd380a5f"), looks := false }, kinds := [], alts := [], laidByText := true, laidKinds := [.data, .pinned], laidTests := true, laidLooks := .later }
def PageSealsUptoCardSaid : Prop := Claim7.holds Tryd.pinned (.plain (OpenSpec.upto pageSealsSpec)) pageSealsUptoCard

/-- THE SECOND FORM's CARD OF 'astrolabelaw18.PageBack'. -/
def pageBackUptoCard : Claim7 := { stood := { row := pageBackUptoRow, standIns := [], harness := (true, "4f129574d3baff85aba494b00e3cd101855771fb987e210b31891683bd380a5f"), looks := false }, kinds := [], alts := [], laidByText := true, laidKinds := [.data, .pinned], laidTests := true, laidLooks := .later }
def PageBackUptoCardSaid : Prop := Claim7.holds Tryd.pinned (.plain (OpenSpec.upto pageBackSpec)) pageBackUptoCard

/-- THE SECOND FORM's CARD OF 'astrolabelaw18.PageBurst'. -/
def pageBurstUptoCard : Claim7 := { stood := { row := pageBurstUptoRow, standIns := [], harness := (true, "4f129574d3baff85aba494b00e3cd101855771fb987e210b31891683bd380a5f"), looks := false }, kinds := [], alts := [], laidByText := true, laidKinds := [.data, .pinned], laidTests := true, laidLooks := .later }
def PageBurstUptoCardSaid : Prop := Claim7.holds Tryd.pinned (.plain (OpenSpec.upto pageBurstSpec)) pageBurstUptoCard
end Rows
end Go.Proofs.YtmbflcdokjjleaaDoor
