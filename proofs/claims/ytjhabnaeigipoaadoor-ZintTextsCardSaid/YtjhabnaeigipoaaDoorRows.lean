/-
  NARROWER THAN 'FOR EVERY INPUT', by the rows' own cells (each row's printed sentence says how): ZintOrder: laid · ZintDivides: laid · ZintLaws: laid · ZintShifts: laid · ZintSmalls: laid · ZintBytes: laid · ZintReckons: laid · ZintBack: laid · ZintTexts: laid.
  DERIVED. THE GIVEN ROWS OF THIS SEAT. 9 by the template 'for every input the law returns true; each argument reads behind the call as it read before'; 0 by the template 'total and deterministic' (their statements: YtjhabnaeigipoaaDoorTotals.lean).
  GIVEN WITH THE SEED: the statements are not yours to turn. If you find one false, say at which input.
  Laid BY PROGRAM, IN A SANDBOX (cutbox-rows.mjs): the forced cells as the released guide's own fill.sh prints them over the translation a6de0b205c47cb42… (all of the seat's roots in one cut). By AI agents, Wed Nov 11 2026. No macro, syntax, notation, axiom, sorry.
-/
import Derived.Test.YtjhabnaeigipoaaDoorChecked
import GoSem.PinnedTables
import GoSem.Claim
import GoSem.ClaimJoined
import GoSem.ClaimMapViews
import Derived.JoinedTies
import Derived.KernelRfl
namespace Go.Proofs.YtjhabnaeigipoaaDoor
/- THE CELL 'sum', in the pinned program and in every row, IS THE sha256 OF THE DUMP (.gsa) THAT YtjhabnaeigipoaaDoorProg.lean LOADS. Nothing in Lean hashes anything: it is a label: what it is worth is what the hold of that sum in a sandbox is worth. -/
noncomputable def Tryd.pinned : Pinned := { name := "ytjhabnaeigipoaadoor", sum := "a6de0b205c47cb427f77a2302c3b370768ee031a595bfdbe1f036d90a5643d67", checked := Tryd.checked }
namespace Rows
def none {H : Type} : Left H := { results := [], args := [] }

/- WHAT THE LISTED PACKAGE-LEVEL VARIABLES READ AS WHEN THE CALL BEGINS. Each datum BY PROGRAM (the guide's laid-datum.mjs) off the statement by which the dump's own 'gosem.cut.vars' lays the variable. In a bare row this is a premise. The card (YtjhabnaeigipoaaDoorCards.lean) ties it to the program's text. -/
def laid_unicode_utf8_acceptRanges {H : Type} : DataW H := .agg [.agg [.lit (.int .u8 128), .lit (.int .u8 191)], .agg [.lit (.int .u8 160), .lit (.int .u8 191)], .agg [.lit (.int .u8 128), .lit (.int .u8 159)], .agg [.lit (.int .u8 144), .lit (.int .u8 191)], .agg [.lit (.int .u8 128), .lit (.int .u8 143)], .agg [.lit (.int .u8 0), .lit (.int .u8 0)], .agg [.lit (.int .u8 0), .lit (.int .u8 0)], .agg [.lit (.int .u8 0), .lit (.int .u8 0)], .agg [.lit (.int .u8 0), .lit (.int .u8 0)], .agg [.lit (.int .u8 0), .lit (.int .u8 0)], .agg [.lit (.int .u8 0), .lit (.int .u8 0)], .agg [.lit (.int .u8 0), .lit (.int .u8 0)], .agg [.lit (.int .u8 0), .lit (.int .u8 0)], .agg [.lit (.int .u8 0), .lit (.int .u8 0)], .agg [.lit (.int .u8 0), .lit (.int .u8 0)], .agg [.lit (.int .u8 0), .lit (.int .u8 0)]]
/-- One of Go's own tables, pinned by name: the form's constant. -/
def laid_unicode_utf8_first : DataW Unit := Go.Pinned.utf8First

/-- 'astrolabelaw04.ZintOrder': WHATEVER THE INPUT: true; the input reads as it did. -/
def zintOrderSpec : ChangeSpec := { name := "zintOrder", fn := fun _ => fun
  | [d1, d2, d3] => { results := [.lit (.bool true)], args := [d1, d2, d3] }
  | _ => none }
def zintOrderRow : OpenClaim := { program := "ytjhabnaeigipoaadoor", sum := "a6de0b205c47cb427f77a2302c3b370768ee031a595bfdbe1f036d90a5643d67", func := "astrolabe/astrolabelaw04.ZintOrder", spec := "zintOrder", inPlace := ["internal/abi.NoEscape", "internal/bytealg.MakeNoZero", "internal/bytealg.IndexByteString", "internal/bytealg.IndexString"], named := ["math/bits.overflowError", "unicode/utf8.first", "unicode/utf8.acceptRanges", "internal/bytealg.MaxLen"], apart := false, laid := [("unicode/utf8.acceptRanges", laid_unicode_utf8_acceptRanges), ("unicode/utf8.first", laid_unicode_utf8_first)] }
def ZintOrderSaid : Prop := zintOrderRow.holds Tryd.pinned (OpenSpec.ofChange zintOrderSpec)

/-- ITS FALSE NEIGHBOUR: 'it returns false'. Refute it at one input. -/
def zintOrderWrong : ChangeSpec := { name := "zintOrder", fn := fun _ => fun
  | [d1, d2, d3] => { results := [.lit (.bool false)], args := [d1, d2, d3] }
  | _ => none }
def ZintOrderWrongFalsely : Prop := zintOrderRow.holds Tryd.pinned (OpenSpec.ofChange zintOrderWrong)

/-- 'astrolabelaw04.ZintDivides': WHATEVER THE INPUT: true; the input reads as it did. -/
def zintDividesSpec : ChangeSpec := { name := "zintDivides", fn := fun _ => fun
  | [d1, d2, d3] => { results := [.lit (.bool true)], args := [d1, d2, d3] }
  | _ => none }
def zintDividesRow : OpenClaim := { program := "ytjhabnaeigipoaadoor", sum := "a6de0b205c47cb427f77a2302c3b370768ee031a595bfdbe1f036d90a5643d67", func := "astrolabe/astrolabelaw04.ZintDivides", spec := "zintDivides", inPlace := ["internal/abi.NoEscape", "internal/bytealg.MakeNoZero", "internal/bytealg.IndexByteString", "internal/bytealg.IndexString"], named := ["math/bits.overflowError", "unicode/utf8.first", "unicode/utf8.acceptRanges", "internal/bytealg.MaxLen"], apart := false, laid := [("unicode/utf8.acceptRanges", laid_unicode_utf8_acceptRanges), ("unicode/utf8.first", laid_unicode_utf8_first)] }
def ZintDividesSaid : Prop := zintDividesRow.holds Tryd.pinned (OpenSpec.ofChange zintDividesSpec)

/-- ITS FALSE NEIGHBOUR: 'it returns false'. Refute it at one input. -/
def zintDividesWrong : ChangeSpec := { name := "zintDivides", fn := fun _ => fun
  | [d1, d2, d3] => { results := [.lit (.bool false)], args := [d1, d2, d3] }
  | _ => none }
def ZintDividesWrongFalsely : Prop := zintDividesRow.holds Tryd.pinned (OpenSpec.ofChange zintDividesWrong)

/-- 'astrolabelaw04.ZintLaws': WHATEVER THE INPUT: true; the input reads as it did. -/
def zintLawsSpec : ChangeSpec := { name := "zintLaws", fn := fun _ => fun
  | [d1, d2, d3] => { results := [.lit (.bool true)], args := [d1, d2, d3] }
  | _ => none }
def zintLawsRow : OpenClaim := { program := "ytjhabnaeigipoaadoor", sum := "a6de0b205c47cb427f77a2302c3b370768ee031a595bfdbe1f036d90a5643d67", func := "astrolabe/astrolabelaw04.ZintLaws", spec := "zintLaws", inPlace := ["internal/abi.NoEscape", "internal/bytealg.MakeNoZero", "internal/bytealg.IndexByteString", "internal/bytealg.IndexString"], named := ["math/bits.overflowError", "unicode/utf8.first", "unicode/utf8.acceptRanges", "internal/bytealg.MaxLen"], apart := false, laid := [("unicode/utf8.acceptRanges", laid_unicode_utf8_acceptRanges), ("unicode/utf8.first", laid_unicode_utf8_first)] }
def ZintLawsSaid : Prop := zintLawsRow.holds Tryd.pinned (OpenSpec.ofChange zintLawsSpec)

/-- ITS FALSE NEIGHBOUR: 'it returns false'. Refute it at one input. -/
def zintLawsWrong : ChangeSpec := { name := "zintLaws", fn := fun _ => fun
  | [d1, d2, d3] => { results := [.lit (.bool false)], args := [d1, d2, d3] }
  | _ => none }
def ZintLawsWrongFalsely : Prop := zintLawsRow.holds Tryd.pinned (OpenSpec.ofChange zintLawsWrong)

/-- 'astrolabelaw04.ZintShifts': WHATEVER THE INPUT: true; the input reads as it did. -/
def zintShiftsSpec : ChangeSpec := { name := "zintShifts", fn := fun _ => fun
  | [d1, d2, d3] => { results := [.lit (.bool true)], args := [d1, d2, d3] }
  | _ => none }
def zintShiftsRow : OpenClaim := { program := "ytjhabnaeigipoaadoor", sum := "a6de0b205c47cb427f77a2302c3b370768ee031a595bfdbe1f036d90a5643d67", func := "astrolabe/astrolabelaw04.ZintShifts", spec := "zintShifts", inPlace := ["internal/abi.NoEscape", "internal/bytealg.MakeNoZero", "internal/bytealg.IndexByteString", "internal/bytealg.IndexString"], named := ["math/bits.overflowError", "unicode/utf8.first", "unicode/utf8.acceptRanges", "internal/bytealg.MaxLen"], apart := false, laid := [("unicode/utf8.acceptRanges", laid_unicode_utf8_acceptRanges), ("unicode/utf8.first", laid_unicode_utf8_first)] }
def ZintShiftsSaid : Prop := zintShiftsRow.holds Tryd.pinned (OpenSpec.ofChange zintShiftsSpec)

/-- ITS FALSE NEIGHBOUR: 'it returns false'. Refute it at one input. -/
def zintShiftsWrong : ChangeSpec := { name := "zintShifts", fn := fun _ => fun
  | [d1, d2, d3] => { results := [.lit (.bool false)], args := [d1, d2, d3] }
  | _ => none }
def ZintShiftsWrongFalsely : Prop := zintShiftsRow.holds Tryd.pinned (OpenSpec.ofChange zintShiftsWrong)

/-- 'astrolabelaw04.ZintSmalls': WHATEVER THE INPUT: true; the input reads as it did. -/
def zintSmallsSpec : ChangeSpec := { name := "zintSmalls", fn := fun _ => fun
  | [d1, d2, d3] => { results := [.lit (.bool true)], args := [d1, d2, d3] }
  | _ => none }
def zintSmallsRow : OpenClaim := { program := "ytjhabnaeigipoaadoor", sum := "a6de0b205c47cb427f77a2302c3b370768ee031a595bfdbe1f036d90a5643d67", func := "astrolabe/astrolabelaw04.ZintSmalls", spec := "zintSmalls", inPlace := ["internal/abi.NoEscape", "internal/bytealg.MakeNoZero", "internal/bytealg.IndexByteString", "internal/bytealg.IndexString"], named := ["math/bits.overflowError", "unicode/utf8.first", "unicode/utf8.acceptRanges", "internal/bytealg.MaxLen"], apart := false, laid := [("unicode/utf8.acceptRanges", laid_unicode_utf8_acceptRanges), ("unicode/utf8.first", laid_unicode_utf8_first)] }
def ZintSmallsSaid : Prop := zintSmallsRow.holds Tryd.pinned (OpenSpec.ofChange zintSmallsSpec)

/-- ITS FALSE NEIGHBOUR: 'it returns false'. Refute it at one input. -/
def zintSmallsWrong : ChangeSpec := { name := "zintSmalls", fn := fun _ => fun
  | [d1, d2, d3] => { results := [.lit (.bool false)], args := [d1, d2, d3] }
  | _ => none }
def ZintSmallsWrongFalsely : Prop := zintSmallsRow.holds Tryd.pinned (OpenSpec.ofChange zintSmallsWrong)

/-- 'astrolabelaw04.ZintBytes': WHATEVER THE INPUT: true; the input reads as it did. -/
def zintBytesSpec : ChangeSpec := { name := "zintBytes", fn := fun _ => fun
  | [d1, d2] => { results := [.lit (.bool true)], args := [d1, d2] }
  | _ => none }
def zintBytesRow : OpenClaim := { program := "ytjhabnaeigipoaadoor", sum := "a6de0b205c47cb427f77a2302c3b370768ee031a595bfdbe1f036d90a5643d67", func := "astrolabe/astrolabelaw04.ZintBytes", spec := "zintBytes", inPlace := ["internal/abi.NoEscape", "internal/bytealg.MakeNoZero", "internal/bytealg.IndexByteString", "internal/bytealg.IndexString"], named := ["math/bits.overflowError", "unicode/utf8.first", "unicode/utf8.acceptRanges", "internal/bytealg.MaxLen"], apart := false, laid := [("unicode/utf8.acceptRanges", laid_unicode_utf8_acceptRanges), ("unicode/utf8.first", laid_unicode_utf8_first)] }
def ZintBytesSaid : Prop := zintBytesRow.holds Tryd.pinned (OpenSpec.ofChange zintBytesSpec)

/-- ITS FALSE NEIGHBOUR: 'it returns false'. Refute it at one input. -/
def zintBytesWrong : ChangeSpec := { name := "zintBytes", fn := fun _ => fun
  | [d1, d2] => { results := [.lit (.bool false)], args := [d1, d2] }
  | _ => none }
def ZintBytesWrongFalsely : Prop := zintBytesRow.holds Tryd.pinned (OpenSpec.ofChange zintBytesWrong)

/-- 'astrolabelaw04.ZintReckons': WHATEVER THE INPUT: true; the input reads as it did. -/
def zintReckonsSpec : ChangeSpec := { name := "zintReckons", fn := fun _ => fun
  | [d1, d2, d3] => { results := [.lit (.bool true)], args := [d1, d2, d3] }
  | _ => none }
def zintReckonsRow : OpenClaim := { program := "ytjhabnaeigipoaadoor", sum := "a6de0b205c47cb427f77a2302c3b370768ee031a595bfdbe1f036d90a5643d67", func := "astrolabe/astrolabelaw04.ZintReckons", spec := "zintReckons", inPlace := ["internal/abi.NoEscape", "internal/bytealg.MakeNoZero", "internal/bytealg.IndexByteString", "internal/bytealg.IndexString"], named := ["math/bits.overflowError", "unicode/utf8.first", "unicode/utf8.acceptRanges", "internal/bytealg.MaxLen"], apart := false, laid := [("unicode/utf8.acceptRanges", laid_unicode_utf8_acceptRanges), ("unicode/utf8.first", laid_unicode_utf8_first)] }
def ZintReckonsSaid : Prop := zintReckonsRow.holds Tryd.pinned (OpenSpec.ofChange zintReckonsSpec)

/-- ITS FALSE NEIGHBOUR: 'it returns false'. Refute it at one input. -/
def zintReckonsWrong : ChangeSpec := { name := "zintReckons", fn := fun _ => fun
  | [d1, d2, d3] => { results := [.lit (.bool false)], args := [d1, d2, d3] }
  | _ => none }
def ZintReckonsWrongFalsely : Prop := zintReckonsRow.holds Tryd.pinned (OpenSpec.ofChange zintReckonsWrong)

/-- 'astrolabelaw04.ZintBack': WHATEVER THE INPUT: true; the input reads as it did. -/
def zintBackSpec : ChangeSpec := { name := "zintBack", fn := fun _ => fun
  | [d1, d2] => { results := [.lit (.bool true)], args := [d1, d2] }
  | _ => none }
def zintBackRow : OpenClaim := { program := "ytjhabnaeigipoaadoor", sum := "a6de0b205c47cb427f77a2302c3b370768ee031a595bfdbe1f036d90a5643d67", func := "astrolabe/astrolabelaw04.ZintBack", spec := "zintBack", inPlace := ["internal/abi.NoEscape", "internal/bytealg.MakeNoZero", "internal/bytealg.IndexByteString", "internal/bytealg.IndexString"], named := ["math/bits.overflowError", "unicode/utf8.first", "unicode/utf8.acceptRanges", "internal/bytealg.MaxLen"], apart := false, laid := [("unicode/utf8.acceptRanges", laid_unicode_utf8_acceptRanges), ("unicode/utf8.first", laid_unicode_utf8_first)] }
def ZintBackSaid : Prop := zintBackRow.holds Tryd.pinned (OpenSpec.ofChange zintBackSpec)

/-- ITS FALSE NEIGHBOUR: 'it returns false'. Refute it at one input. -/
def zintBackWrong : ChangeSpec := { name := "zintBack", fn := fun _ => fun
  | [d1, d2] => { results := [.lit (.bool false)], args := [d1, d2] }
  | _ => none }
def ZintBackWrongFalsely : Prop := zintBackRow.holds Tryd.pinned (OpenSpec.ofChange zintBackWrong)

/-- 'astrolabelaw04.ZintTexts': WHATEVER THE INPUT: true; the input reads as it did. -/
def zintTextsSpec : ChangeSpec := { name := "zintTexts", fn := fun _ => fun
  | [d1, d2, d3] => { results := [.lit (.bool true)], args := [d1, d2, d3] }
  | _ => none }
def zintTextsRow : OpenClaim := { program := "ytjhabnaeigipoaadoor", sum := "a6de0b205c47cb427f77a2302c3b370768ee031a595bfdbe1f036d90a5643d67", func := "astrolabe/astrolabelaw04.ZintTexts", spec := "zintTexts", inPlace := ["internal/abi.NoEscape", "internal/bytealg.MakeNoZero", "internal/bytealg.IndexByteString", "internal/bytealg.IndexString"], named := ["math/bits.overflowError", "unicode/utf8.first", "unicode/utf8.acceptRanges", "internal/bytealg.MaxLen"], apart := false, laid := [("unicode/utf8.acceptRanges", laid_unicode_utf8_acceptRanges), ("unicode/utf8.first", laid_unicode_utf8_first)] }
def ZintTextsSaid : Prop := zintTextsRow.holds Tryd.pinned (OpenSpec.ofChange zintTextsSpec)

/-- ITS FALSE NEIGHBOUR: 'it returns false'. Refute it at one input. -/
def zintTextsWrong : ChangeSpec := { name := "zintTexts", fn := fun _ => fun
  | [d1, d2, d3] => { results := [.lit (.bool false)], args := [d1, d2, d3] }
  | _ => none }
def ZintTextsWrongFalsely : Prop := zintTextsRow.holds Tryd.pinned (OpenSpec.ofChange zintTextsWrong)

/- THE SECOND FORM. 'bulk': how many values and letters a reading holds, each counted each time it is reached (what is shared counts as often as it is met; a slice's spare places count too). A statement '..UptoSaid' is the law's where the arguments, and the package variables that the reading takes, are together of bulk at most 1048576: NARROWER than '..Said'. Prove '..Said' where nothing that the law and all that it calls make is longer than what came in: it says more and counts as full. Else prove '..UptoSaid'. A law counts once. -/
mutual
def uptoBulk {H : Type} : DataW H → Nat
  | .lit (.string bytes) => bytes.length + 1
  | .lit _ => 1
  | .nil => 1
  | .ptr d => uptoBulk d + 1
  | .slice elems spare => uptoBulkAll elems + uptoBulkAll spare + 1
  | .agg parts => uptoBulkAll parts + 1
  | .iface _ d => uptoBulk d + 1
  | .map entries => uptoBulkEntries entries + 1
  | .held _ => 1
def uptoBulkAll {H : Type} : List (DataW H) → Nat
  | [] => 0
  | d :: r => uptoBulk d + uptoBulkAll r
def uptoBulkEntries {H : Type} : List (Lit × DataW H) → Nat
  | [] => 0
  | x :: r => uptoBulkEntry x + uptoBulkEntries r
def uptoBulkEntry {H : Type} : Lit × DataW H → Nat
  | (.string bytes, d) => bytes.length + uptoBulk d + 1
  | (_, d) => uptoBulk d + 1
 end
def uptoSmall : (H : Type) → List (DataW H) → Bool := fun _ ds => decide (uptoBulkAll ds ≤ 1048576)
def OpenSpec.upto (s : _root_.Go.ChangeSpec) : _root_.Go.OpenSpec := { _root_.Go.OpenSpec.ofChange s with cond := some uptoSmall }

/-- 'astrolabelaw04.ZintOrder', WHERE WHAT IT READS IS OF BULK AT MOST 1048576: true; the input reads as it did. -/
def zintOrderUptoRow : OpenClaim := { program := "ytjhabnaeigipoaadoor", sum := "a6de0b205c47cb427f77a2302c3b370768ee031a595bfdbe1f036d90a5643d67", func := "astrolabe/astrolabelaw04.ZintOrder", spec := "zintOrder", inPlace := ["internal/abi.NoEscape", "internal/bytealg.MakeNoZero", "internal/bytealg.IndexByteString", "internal/bytealg.IndexString"], named := ["math/bits.overflowError", "unicode/utf8.first", "unicode/utf8.acceptRanges", "internal/bytealg.MaxLen"], apart := false, laid := [("unicode/utf8.acceptRanges", laid_unicode_utf8_acceptRanges), ("unicode/utf8.first", laid_unicode_utf8_first)], narrowed := true }
def ZintOrderUptoSaid : Prop := zintOrderUptoRow.holds Tryd.pinned (OpenSpec.upto zintOrderSpec)

/-- 'astrolabelaw04.ZintDivides', WHERE WHAT IT READS IS OF BULK AT MOST 1048576: true; the input reads as it did. -/
def zintDividesUptoRow : OpenClaim := { program := "ytjhabnaeigipoaadoor", sum := "a6de0b205c47cb427f77a2302c3b370768ee031a595bfdbe1f036d90a5643d67", func := "astrolabe/astrolabelaw04.ZintDivides", spec := "zintDivides", inPlace := ["internal/abi.NoEscape", "internal/bytealg.MakeNoZero", "internal/bytealg.IndexByteString", "internal/bytealg.IndexString"], named := ["math/bits.overflowError", "unicode/utf8.first", "unicode/utf8.acceptRanges", "internal/bytealg.MaxLen"], apart := false, laid := [("unicode/utf8.acceptRanges", laid_unicode_utf8_acceptRanges), ("unicode/utf8.first", laid_unicode_utf8_first)], narrowed := true }
def ZintDividesUptoSaid : Prop := zintDividesUptoRow.holds Tryd.pinned (OpenSpec.upto zintDividesSpec)

/-- 'astrolabelaw04.ZintLaws', WHERE WHAT IT READS IS OF BULK AT MOST 1048576: true; the input reads as it did. -/
def zintLawsUptoRow : OpenClaim := { program := "ytjhabnaeigipoaadoor", sum := "a6de0b205c47cb427f77a2302c3b370768ee031a595bfdbe1f036d90a5643d67", func := "astrolabe/astrolabelaw04.ZintLaws", spec := "zintLaws", inPlace := ["internal/abi.NoEscape", "internal/bytealg.MakeNoZero", "internal/bytealg.IndexByteString", "internal/bytealg.IndexString"], named := ["math/bits.overflowError", "unicode/utf8.first", "unicode/utf8.acceptRanges", "internal/bytealg.MaxLen"], apart := false, laid := [("unicode/utf8.acceptRanges", laid_unicode_utf8_acceptRanges), ("unicode/utf8.first", laid_unicode_utf8_first)], narrowed := true }
def ZintLawsUptoSaid : Prop := zintLawsUptoRow.holds Tryd.pinned (OpenSpec.upto zintLawsSpec)

/-- 'astrolabelaw04.ZintShifts', WHERE WHAT IT READS IS OF BULK AT MOST 1048576: true; the input reads as it did. -/
def zintShiftsUptoRow : OpenClaim := { program := "ytjhabnaeigipoaadoor", sum := "a6de0b205c47cb427f77a2302c3b370768ee031a595bfdbe1f036d90a5643d67", func := "astrolabe/astrolabelaw04.ZintShifts", spec := "zintShifts", inPlace := ["internal/abi.NoEscape", "internal/bytealg.MakeNoZero", "internal/bytealg.IndexByteString", "internal/bytealg.IndexString"], named := ["math/bits.overflowError", "unicode/utf8.first", "unicode/utf8.acceptRanges", "internal/bytealg.MaxLen"], apart := false, laid := [("unicode/utf8.acceptRanges", laid_unicode_utf8_acceptRanges), ("unicode/utf8.first", laid_unicode_utf8_first)], narrowed := true }
def ZintShiftsUptoSaid : Prop := zintShiftsUptoRow.holds Tryd.pinned (OpenSpec.upto zintShiftsSpec)

/-- 'astrolabelaw04.ZintSmalls', WHERE WHAT IT READS IS OF BULK AT MOST 1048576: true; the input reads as it did. -/
def zintSmallsUptoRow : OpenClaim := { program := "ytjhabnaeigipoaadoor", sum := "a6de0b205c47cb427f77a2302c3b370768ee031a595bfdbe1f036d90a5643d67", func := "astrolabe/astrolabelaw04.ZintSmalls", spec := "zintSmalls", inPlace := ["internal/abi.NoEscape", "internal/bytealg.MakeNoZero", "internal/bytealg.IndexByteString", "internal/bytealg.IndexString"], named := ["math/bits.overflowError", "unicode/utf8.first", "unicode/utf8.acceptRanges", "internal/bytealg.MaxLen"], apart := false, laid := [("unicode/utf8.acceptRanges", laid_unicode_utf8_acceptRanges), ("unicode/utf8.first", laid_unicode_utf8_first)], narrowed := true }
def ZintSmallsUptoSaid : Prop := zintSmallsUptoRow.holds Tryd.pinned (OpenSpec.upto zintSmallsSpec)

/-- 'astrolabelaw04.ZintBytes', WHERE WHAT IT READS IS OF BULK AT MOST 1048576: true; the input reads as it did. -/
def zintBytesUptoRow : OpenClaim := { program := "ytjhabnaeigipoaadoor", sum := "a6de0b205c47cb427f77a2302c3b370768ee031a595bfdbe1f036d90a5643d67", func := "astrolabe/astrolabelaw04.ZintBytes", spec := "zintBytes", inPlace := ["internal/abi.NoEscape", "internal/bytealg.MakeNoZero", "internal/bytealg.IndexByteString", "internal/bytealg.IndexString"], named := ["math/bits.overflowError", "unicode/utf8.first", "unicode/utf8.acceptRanges", "internal/bytealg.MaxLen"], apart := false, laid := [("unicode/utf8.acceptRanges", laid_unicode_utf8_acceptRanges), ("unicode/utf8.first", laid_unicode_utf8_first)], narrowed := true }
def ZintBytesUptoSaid : Prop := zintBytesUptoRow.holds Tryd.pinned (OpenSpec.upto zintBytesSpec)

/-- 'astrolabelaw04.ZintReckons', WHERE WHAT IT READS IS OF BULK AT MOST 1048576: true; the input reads as it did. -/
def zintReckonsUptoRow : OpenClaim := { program := "ytjhabnaeigipoaadoor", sum := "a6de0b205c47cb427f77a2302c3b370768ee031a595bfdbe1f036d90a5643d67", func := "astrolabe/astrolabelaw04.ZintReckons", spec := "zintReckons", inPlace := ["internal/abi.NoEscape", "internal/bytealg.MakeNoZero", "internal/bytealg.IndexByteString", "internal/bytealg.IndexString"], named := ["math/bits.overflowError", "unicode/utf8.first", "unicode/utf8.acceptRanges", "internal/bytealg.MaxLen"], apart := false, laid := [("unicode/utf8.acceptRanges", laid_unicode_utf8_acceptRanges), ("unicode/utf8.first", laid_unicode_utf8_first)], narrowed := true }
def ZintReckonsUptoSaid : Prop := zintReckonsUptoRow.holds Tryd.pinned (OpenSpec.upto zintReckonsSpec)

/-- 'astrolabelaw04.ZintBack', WHERE WHAT IT READS IS OF BULK AT MOST 1048576: true; the input reads as it did. -/
def zintBackUptoRow : OpenClaim := { program := "ytjhabnaeigipoaadoor", sum := "a6de0b205c47cb427f77a2302c3b370768ee031a595bfdbe1f036d90a5643d67", func := "astrolabe/astrolabelaw04.ZintBack", spec := "zintBack", inPlace := ["internal/abi.NoEscape", "internal/bytealg.MakeNoZero", "internal/bytealg.IndexByteString", "internal/bytealg.IndexString"], named := ["math/bits.overflowError", "unicode/utf8.first", "unicode/utf8.acceptRanges", "internal/bytealg.MaxLen"], apart := false, laid := [("unicode/utf8.acceptRanges", laid_unicode_utf8_acceptRanges), ("unicode/utf8.first", laid_unicode_utf8_first)], narrowed := true }
def ZintBackUptoSaid : Prop := zintBackUptoRow.holds Tryd.pinned (OpenSpec.upto zintBackSpec)

/-- 'astrolabelaw04.ZintTexts', WHERE WHAT IT READS IS OF BULK AT MOST 1048576: true; the input reads as it did. -/
def zintTextsUptoRow : OpenClaim := { program := "ytjhabnaeigipoaadoor", sum := "a6de0b205c47cb427f77a2302c3b370768ee031a595bfdbe1f036d90a5643d67", func := "astrolabe/astrolabelaw04.ZintTexts", spec := "zintTexts", inPlace := ["internal/abi.NoEscape", "internal/bytealg.MakeNoZero", "internal/bytealg.IndexByteString", "internal/bytealg.IndexString"], named := ["math/bits.overflowError", "unicode/utf8.first", "unicode/utf8.acceptRanges", "internal/bytealg.MaxLen"], apart := false, laid := [("unicode/utf8.acceptRanges", laid_unicode_utf8_acceptRanges), ("unicode/utf8.first", laid_unicode_utf8_first)], narrowed := true }
def ZintTextsUptoSaid : Prop := zintTextsUptoRow.holds Tryd.pinned (OpenSpec.upto zintTextsSpec)

end Rows
end Go.Proofs.YtjhabnaeigipoaaDoor
