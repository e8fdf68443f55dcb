/-
  DERIVED. GIVEN WITH THE SEED: THE CARDS: each row of YtmbffiebfmnhhaaDoorRows.lean that lists a variable, with what it lists TIED to the program's text (the seventh form; the later family's looks); each row that meets fmt, with fmt's text TOLD by the authors' own Lean function (tested against real Go, not proved from fmt's source: count such statements apart). THE CARD IS WHAT COUNTS. Prove the row's statement (the work); the ties are given (YtmbffiebfmnhhaaDoorTie.lean); close each card by the builder's one call (the guide's Derived/Test/ToyasCard.lean, 'card_holds'). Laid BY PROGRAM, IN A SANDBOX (cutbox-door.mjs). By AI agents, Wed Nov 11 2026. No macro, syntax, notation, axiom, sorry.
-/
import Derived.Test.YtmbffiebfmnhhaaDoorRows
import GoSem.ClaimSeven
namespace Go.Proofs.YtmbffiebfmnhhaaDoor
namespace Rows

/-- THE TIED CARD OF 'astrolabelaw19.PagerHands'. -/
def pagerHandsCard : Claim7 := { stood := { row := pagerHandsRow, standIns := [], harness := (true, "aead282aab343c2997b57961fd699a8028e0b4648cd297ed1fbfe803a2d36533"), looks := false }, kinds := [], alts := [], laidByText := true, laidKinds := [.data, .pinned], laidTests := true, laidLooks := .later }
def PagerHandsCardSaid : Prop := Claim7.holds Tryd.pinned (.plain (OpenSpec.ofChange pagerHandsSpec)) pagerHandsCard

/-- THE TIED CARD OF 'astrolabelaw19.PagerKeeps'. -/
def pagerKeepsCard : Claim7 := { stood := { row := pagerKeepsRow, standIns := [], harness := (true, "aead282aab343c2997b57961fd699a8028e0b4648cd297ed1fbfe803a2d36533"), looks := false }, kinds := [], alts := [], laidByText := true, laidKinds := [.data, .pinned], laidTests := true, laidLooks := .later }
def PagerKeepsCardSaid : Prop := Claim7.holds Tryd.pinned (.plain (OpenSpec.ofChange pagerKeepsSpec)) pagerKeepsCard

/-- THE TIED CARD OF 'astrolabelaw19.PagerLasts'. -/
def pagerLastsCard : Claim7 := { stood := { row := pagerLastsRow, standIns := [], harness := (true, "aead282aab343c2997b57961fd699a8028e0b4648cd297ed1fbfe803a2d36533"), looks := false }, kinds := [], alts := [], laidByText := true, laidKinds := [.data, .pinned], laidTests := true, laidLooks := .later }
def PagerLastsCardSaid : Prop := Claim7.holds Tryd.pinned (.plain (OpenSpec.ofChange pagerLastsSpec)) pagerLastsCard

/-- THE SECOND FORM's CARD OF 'astrolabelaw19.PagerHands'. -/
def pagerHandsUptoCard : Claim7 := { stood := { row := pagerHandsUptoRow, standIns := [], harness := (true, "aead282aab343c2997b57961fd699a8028e0b4648cd297ed1fbfe803a2d36533"), looks := false }, kinds := [], alts := [], laidByText := true, laidKinds := [.data, .pinned], laidTests := true, laidLooks := .later }
def PagerHandsUptoCardSaid : Prop := Claim7.holds Tryd.pinned (.plain (OpenSpec.upto pagerHandsSpec)) pagerHandsUptoCard

/-- THE SECOND FORM's CARD OF 'astrolabelaw19.PagerKeeps'. -/
def pagerKeepsUptoCard : Claim7 := { stood := { row := pagerKeepsUptoRow, standIns := [], harness := (true, "aead282aab343c2997b57961fd699a8028e0b4648cd297ed1fbfe803a2d36533"), looks := false }, kinds := [], alts := [], laidByText := true, laidKinds := [.data, .pinned], laidTests := true, laidLooks := .later }
def PagerKeepsUptoCardSaid : Prop := Claim7.holds Tryd.pinned (.plain (OpenSpec.upto pagerKeepsSpec)) pagerKeepsUptoCard

/-- THE SECOND FORM's CARD OF 'astrolabelaw19.PagerLasts'. -/
def pagerLastsUptoCard : Claim7 := { stood := { row := pagerLastsUptoRow, standIns := [], harness := (true, "aead282aab343c2997b57961fd699a8028e0b4648cd297ed1fbfe803a2d36533"), looks := false }, kinds := [], alts := [], laidByText := true, laidKinds := [.data, .pinned], laidTests := true, laidLooks := .later }
def PagerLastsUptoCardSaid : Prop := Claim7.holds Tryd.pinned (.plain (OpenSpec.upto pagerLastsSpec)) pagerLastsUptoCard
end Rows
end Go.Proofs.YtmbffiebfmnhhaaDoor
