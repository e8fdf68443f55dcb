/-
  DERIVED. GIVEN WITH THE SEED: THE CARDS: each row of YtjhabnaeigipoaaDoorRows.lean that lists a variable, with what it lists TIED to the program's text (the seventh form; the later family's looks); each row that meets fmt, with fmt's text TOLD by the authors' own Lean function (tested against real Go, not proved from fmt's source: count such statements apart). THE CARD IS WHAT COUNTS. Prove the row's statement (the work); the ties are given (YtjhabnaeigipoaaDoorTie.lean); close each card by the builder's one call (the guide's Derived/Test/ToyasCard.lean, 'card_holds'). Laid BY PROGRAM, IN A SANDBOX (cutbox-door.mjs). By AI agents, Wed Nov 11 2026. No macro, syntax, notation, axiom, sorry.
-/
import Derived.Test.YtjhabnaeigipoaaDoorRows
import GoSem.ClaimSeven
namespace Go.Proofs.YtjhabnaeigipoaaDoor
namespace Rows

/-- THE TIED CARD OF 'astrolabelaw04.ZintOrder'. -/
def zintOrderCard : Claim7 := { stood := { row := zintOrderRow, standIns := [], harness := (true, "ee78ca599f0f1d44fb104a81aed14395e9ad26db60c94fe6a3d2ea10bc972a5f"), looks := false }, kinds := [], alts := [], laidByText := true, laidKinds := [.data, .pinned], laidTests := true, laidLooks := .later }
def ZintOrderCardSaid : Prop := Claim7.holds Tryd.pinned (.plain (OpenSpec.ofChange zintOrderSpec)) zintOrderCard

/-- THE TIED CARD OF 'astrolabelaw04.ZintDivides'. -/
def zintDividesCard : Claim7 := { stood := { row := zintDividesRow, standIns := [], harness := (true, "ee78ca599f0f1d44fb104a81aed14395e9ad26db60c94fe6a3d2ea10bc972a5f"), looks := false }, kinds := [], alts := [], laidByText := true, laidKinds := [.data, .pinned], laidTests := true, laidLooks := .later }
def ZintDividesCardSaid : Prop := Claim7.holds Tryd.pinned (.plain (OpenSpec.ofChange zintDividesSpec)) zintDividesCard

/-- THE TIED CARD OF 'astrolabelaw04.ZintLaws'. -/
def zintLawsCard : Claim7 := { stood := { row := zintLawsRow, standIns := [], harness := (true, "ee78ca599f0f1d44fb104a81aed14395e9ad26db60c94fe6a3d2ea10bc972a5f"), looks := false }, kinds := [], alts := [], laidByText := true, laidKinds := [.data, .pinned], laidTests := true, laidLooks := .later }
def ZintLawsCardSaid : Prop := Claim7.holds Tryd.pinned (.plain (OpenSpec.ofChange zintLawsSpec)) zintLawsCard

/-- THE TIED CARD OF 'astrolabelaw04.ZintShifts'. -/
def zintShiftsCard : Claim7 := { stood := { row := zintShiftsRow, standIns := [], harness := (true, "ee78ca599f0f1d44fb104a81aed14395e9ad26db60c94fe6a3d2ea10bc972a5f"), looks := false }, kinds := [], alts := [], laidByText := true, laidKinds := [.data, .pinned], laidTests := true, laidLooks := .later }
def ZintShiftsCardSaid : Prop := Claim7.holds Tryd.pinned (.plain (OpenSpec.ofChange zintShiftsSpec)) zintShiftsCard

/-- THE TIED CARD OF 'astrolabelaw04.ZintSmalls'. -/
def zintSmallsCard : Claim7 := { stood := { row := zintSmallsRow, standIns := [], harness := (true, "ee78ca599f0f1d44fb104a81aed14395e9ad26db60c94fe6a3d2ea10bc972a5f"), looks := false }, kinds := [], alts := [], laidByText := true, laidKinds := [.data, .pinned], laidTests := true, laidLooks := .later }
def ZintSmallsCardSaid : Prop := Claim7.holds Tryd.pinned (.plain (OpenSpec.ofChange zintSmallsSpec)) zintSmallsCard

/-- THE TIED CARD OF 'astrolabelaw04.ZintBytes'. -/
def zintBytesCard : Claim7 := { stood := { row := zintBytesRow, standIns := [], harness := (true, "ee78ca599f0f1d44fb104a81aed14395e9ad26db60c94fe6a3d2ea10bc972a5f"), looks := false }, kinds := [], alts := [], laidByText := true, laidKinds := [.data, .pinned], laidTests := true, laidLooks := .later }
def ZintBytesCardSaid : Prop := Claim7.holds Tryd.pinned (.plain (OpenSpec.ofChange zintBytesSpec)) zintBytesCard

/-- THE TIED CARD OF 'astrolabelaw04.ZintReckons'. -/
def zintReckonsCard : Claim7 := { stood := { row := zintReckonsRow, standIns := [], harness := (true, "ee78ca599f0f1d44fb104a81aed14395e9ad26db60c94fe6a3d2ea10bc972a5f"), looks := false }, kinds := [], alts := [], laidByText := true, laidKinds := [.data, .pinned], laidTests := true, laidLooks := .later }
def ZintReckonsCardSaid : Prop := Claim7.holds Tryd.pinned (.plain (OpenSpec.ofChange zintReckonsSpec)) zintReckonsCard

/-- THE TIED CARD OF 'astrolabelaw04.ZintBack'. -/
def zintBackCard : Claim7 := { stood := { row := zintBackRow, standIns := [], harness := (true, "ee78ca599f0f1d44fb104a81aed14395e9ad26db60c94fe6a3d2ea10bc972a5f"), looks := false }, kinds := [], alts := [], laidByText := true, laidKinds := [.data, .pinned], laidTests := true, laidLooks := .later }
def ZintBackCardSaid : Prop := Claim7.holds Tryd.pinned (.plain (OpenSpec.ofChange zintBackSpec)) zintBackCard

/-- THE TIED CARD OF 'astrolabelaw04.ZintTexts'. -/
def zintTextsCard : Claim7 := { stood := { row := zintTextsRow, standIns := [], harness := (true, "ee78ca599f0f1d44fb104a81aed14395e9ad26db60c94fe6a3d2ea10bc972a5f"), looks := false }, kinds := [], alts := [], laidByText := true, laidKinds := [.data, .pinned], laidTests := true, laidLooks := .later }
def ZintTextsCardSaid : Prop := Claim7.holds Tryd.pinned (.plain (OpenSpec.ofChange zintTextsSpec)) zintTextsCard

/-- THE SECOND FORM's CARD OF 'astrolabelaw04.ZintOrder'. -/
def zintOrderUptoCard : Claim7 := { stood := { row := zintOrderUptoRow, standIns := [], harness := (true, "ee78ca599f0f1d44fb104a81aed14395e9ad26db60c94fe6a3d2ea10bc972a5f"), looks := false }, kinds := [], alts := [], laidByText := true, laidKinds := [.data, .pinned], laidTests := true, laidLooks := .later }
def ZintOrderUptoCardSaid : Prop := Claim7.holds Tryd.pinned (.plain (OpenSpec.upto zintOrderSpec)) zintOrderUptoCard

/-- THE SECOND FORM's CARD OF 'astrolabelaw04.ZintDivides'. -/
def zintDividesUptoCard : Claim7 := { stood := { row := zintDividesUptoRow, standIns := [], harness := (true, "ee78ca599f0f1d44fb104a81aed14395e9ad26db60c94fe6a3d2ea10bc972a5f"), looks := false }, kinds := [], alts := [], laidByText := true, laidKinds := [.data, .pinned], laidTests := true, laidLooks := .later }
def ZintDividesUptoCardSaid : Prop := Claim7.holds Tryd.pinned (.plain (OpenSpec.upto zintDividesSpec)) zintDividesUptoCard

/-- THE SECOND FORM's CARD OF 'astrolabelaw04.ZintLaws'. -/
def zintLawsUptoCard : Claim7 := { stood := { row := zintLawsUptoRow, standIns := [], harness := (true, "ee78ca599f0f1d44fb104a81aed14395e9ad26db60c94fe6a3d2ea10bc972a5f"), looks := false }, kinds := [], alts := [], laidByText := true, laidKinds := [.data, .pinned], laidTests := true, laidLooks := .later }
def ZintLawsUptoCardSaid : Prop := Claim7.holds Tryd.pinned (.plain (OpenSpec.upto zintLawsSpec)) zintLawsUptoCard

/-- THE SECOND FORM's CARD OF 'astrolabelaw04.ZintShifts'. -/
def zintShiftsUptoCard : Claim7 := { stood := { row := zintShiftsUptoRow, standIns := [], harness := (true, "ee78ca599f0f1d44fb104a81aed14395e9ad26db60c94fe6a3d2ea10bc972a5f"), looks := false }, kinds := [], alts := [], laidByText := true, laidKinds := [.data, .pinned], laidTests := true, laidLooks := .later }
def ZintShiftsUptoCardSaid : Prop := Claim7.holds Tryd.pinned (.plain (OpenSpec.upto zintShiftsSpec)) zintShiftsUptoCard

/-- THE SECOND FORM's CARD OF 'astrolabelaw04.ZintSmalls'. -/
def zintSmallsUptoCard : Claim7 := { stood := { row := zintSmallsUptoRow, standIns := [], harness := (true, "ee78ca599f0f1d44fb104a81aed14395e9ad26db60c94fe6a3d2ea10bc972a5f"), looks := false }, kinds := [], alts := [], laidByText := true, laidKinds := [.data, .pinned], laidTests := true, laidLooks := .later }
def ZintSmallsUptoCardSaid : Prop := Claim7.holds Tryd.pinned (.plain (OpenSpec.upto zintSmallsSpec)) zintSmallsUptoCard

/-- THE SECOND FORM's CARD OF 'astrolabelaw04.ZintBytes'. -/
def zintBytesUptoCard : Claim7 := { stood := { row := zintBytesUptoRow, standIns := [], harness := (true, "ee78ca599f0f1d44fb104a81aed14395e9ad26db60c94fe6a3d2ea10bc972a5f"), looks := false }, kinds := [], alts := [], laidByText := true, laidKinds := [.data, .pinned], laidTests := true, laidLooks := .later }
def ZintBytesUptoCardSaid : Prop := Claim7.holds Tryd.pinned (.plain (OpenSpec.upto zintBytesSpec)) zintBytesUptoCard

/-- THE SECOND FORM's CARD OF 'astrolabelaw04.ZintReckons'. -/
def zintReckonsUptoCard : Claim7 := { stood := { row := zintReckonsUptoRow, standIns := [], harness := (true, "ee78ca599f0f1d44fb104a81aed14395e9ad26db60c94fe6a3d2ea10bc972a5f"), looks := false }, kinds := [], alts := [], laidByText := true, laidKinds := [.data, .pinned], laidTests := true, laidLooks := .later }
def ZintReckonsUptoCardSaid : Prop := Claim7.holds Tryd.pinned (.plain (OpenSpec.upto zintReckonsSpec)) zintReckonsUptoCard

/-- THE SECOND FORM's CARD OF 'astrolabelaw04.ZintBack'. -/
def zintBackUptoCard : Claim7 := { stood := { row := zintBackUptoRow, standIns := [], harness := (true, "ee78ca599f0f1d44fb104a81aed14395e9ad26db60c94fe6a3d2ea10bc972a5f"), looks := false }, kinds := [], alts := [], laidByText := true, laidKinds := [.data, .pinned], laidTests := true, laidLooks := .later }
def ZintBackUptoCardSaid : Prop := Claim7.holds Tryd.pinned (.plain (OpenSpec.upto zintBackSpec)) zintBackUptoCard

/-- THE SECOND FORM's CARD OF 'astrolabelaw04.ZintTexts'. -/
def zintTextsUptoCard : Claim7 := { stood := { row := zintTextsUptoRow, standIns := [], harness := (true, "ee78ca599f0f1d44fb104a81aed14395e9ad26db60c94fe6a3d2ea10bc972a5f"), looks := false }, kinds := [], alts := [], laidByText := true, laidKinds := [.data, .pinned], laidTests := true, laidLooks := .later }
def ZintTextsUptoCardSaid : Prop := Claim7.holds Tryd.pinned (.plain (OpenSpec.upto zintTextsSpec)) zintTextsUptoCard
end Rows
end Go.Proofs.YtjhabnaeigipoaaDoor
