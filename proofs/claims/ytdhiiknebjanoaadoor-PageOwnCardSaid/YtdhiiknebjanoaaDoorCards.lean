/-
  DERIVED. GIVEN WITH THE SEED: THE CARDS: each row of YtdhiiknebjanoaaDoorRows.lean that lists a variable, with what it lists TIED to the program's text (the seventh form; the later family's looks); each row that meets fmt, with fmt's text TOLD by the authors' own Lean function (tested against real Go, not proved from fmt's source: count such statements apart). THE CARD IS WHAT COUNTS. Prove the row's statement (the work); the ties are given (YtdhiiknebjanoaaDoorTie.lean); close each card by the builder's one call (the guide's Derived/Test/ToyasCard.lean, 'card_holds'). Laid BY PROGRAM, IN A SANDBOX (cutbox-door.mjs). By AI agents, Wed Nov 11 2026. No macro, syntax, notation, axiom, sorry.
-/
import Derived.Test.YtdhiiknebjanoaaDoorRows
import GoSem.ClaimSeven
namespace Go.Proofs.YtdhiiknebjanoaaDoor
namespace Rows

/-- THE TIED CARD OF 'astrolabelaw18.PageSeals'. -/
def pageSealsCard : Claim7 := { stood := { row := pageSealsRow, standIns := [], harness := (true, "ff71d3c356a67d417cdaf91993022e8da2e86cb02a7e12174577cbff02bc569b"), looks := false }, kinds := [], alts := [], laidByText := true, laidKinds := [.data, .pinned], laidTests := true, laidLooks := .later }
def PageSealsCardSaid : Prop := Claim7.holds Tryd.pinned (.plain (OpenSpec.ofChange pageSealsSpec)) pageSealsCard

/-- THE TIED CARD OF 'astrolabelaw18.PageBack'. -/
def pageBackCard : Claim7 := { stood := { row := pageBackRow, standIns := [], harness := (true, "ff71d3c356a67d417cdaf91993022e8da2e86cb02a7e12174577cbff02bc569b"), looks := false }, kinds := [], alts := [], laidByText := true, laidKinds := [.data, .pinned], laidTests := true, laidLooks := .later }
def PageBackCardSaid : Prop := Claim7.holds Tryd.pinned (.plain (OpenSpec.ofChange pageBackSpec)) pageBackCard

/-- THE TIED CARD OF 'astrolabelaw18.PageBurst'. -/
def pageBurstCard : Claim7 := { stood := { row := pageBurstRow, standIns := [], harness := (true, "ff71d3c356a67d417cdaf91993022e8da2e86cb02a7e12174577cbff02bc569b"), looks := false }, kinds := [], alts := [], laidByText := true, laidKinds := [.data, .pinned], laidTests := true, laidLooks := .later }
def PageBurstCardSaid : Prop := Claim7.holds Tryd.pinned (.plain (OpenSpec.ofChange pageBurstSpec)) pageBurstCard

/-- THE TIED CARD OF 'astrolabelaw18.PageOwn'. -/
def pageOwnCard : Claim7 := { stood := { row := pageOwnRow, standIns := [], harness := (true, "ff71d3c356a67d417cdaf91993022e8da2e86cb02a7e12174577cbff02bc569b"), looks := false }, kinds := [], alts := [], laidByText := true, laidKinds := [.data, .pinned], laidTests := true, laidLooks := .later }
def PageOwnCardSaid : Prop := Claim7.holds Tryd.pinned (.plain (OpenSpec.ofChange pageOwnSpec)) pageOwnCard

/-- THE SECOND FORM's CARD OF 'astrolabelaw18.PageSeals'. -/
def pageSealsUptoCard : Claim7 := { stood := { row := pageSealsUptoRow, standIns := [], harness := (true, "ff71d3c356a67d417cdaf91993022e8da2e86cb02a7e12174577cbff02bc569b"), looks := false }, kinds := [], alts := [], laidByText := true, laidKinds := [.data, .pinned], laidTests := true, laidLooks := .later }
def PageSealsUptoCardSaid : Prop := Claim7.holds Tryd.pinned (.plain (OpenSpec.upto pageSealsSpec)) pageSealsUptoCard

/-- THE SECOND FORM's CARD OF 'astrolabelaw18.PageBack'. -/
def pageBackUptoCard : Claim7 := { stood := { row := pageBackUptoRow, standIns := [], harness := (true, "ff71d3c356a67d417cdaf91993022e8da2e86cb02a7e12174577cbff02bc569b"), looks := false }, kinds := [], alts := [], laidByText := true, laidKinds := [.data, .pinned], laidTests := true, laidLooks := .later }
def PageBackUptoCardSaid : Prop := Claim7.holds Tryd.pinned (.plain (OpenSpec.upto pageBackSpec)) pageBackUptoCard

/-- THE SECOND FORM's CARD OF 'astrolabelaw18.PageBurst'. -/
def pageBurstUptoCard : Claim7 := { stood := { row := pageBurstUptoRow, standIns := [], harness := (true, "ff71d3c356a67d417cdaf91993022e8da2e86cb02a7e12174577cbff02bc569b"), looks := false }, kinds := [], alts := [], laidByText := true, laidKinds := [.data, .pinned], laidTests := true, laidLooks := .later }
def PageBurstUptoCardSaid : Prop := Claim7.holds Tryd.pinned (.plain (OpenSpec.upto pageBurstSpec)) pageBurstUptoCard

/-- THE SECOND FORM's CARD OF 'astrolabelaw18.PageOwn'. -/
def pageOwnUptoCard : Claim7 := { stood := { row := pageOwnUptoRow, standIns := [], harness := (true, "ff71d3c356a67d417cdaf91993022e8da2e86cb02a7e12174577cbff02bc569b"), looks := false }, kinds := [], alts := [], laidByText := true, laidKinds := [.data, .pinned], laidTests := true, laidLooks := .later }
def PageOwnUptoCardSaid : Prop := Claim7.holds Tryd.pinned (.plain (OpenSpec.upto pageOwnSpec)) pageOwnUptoCard
end Rows
end Go.Proofs.YtdhiiknebjanoaaDoor
