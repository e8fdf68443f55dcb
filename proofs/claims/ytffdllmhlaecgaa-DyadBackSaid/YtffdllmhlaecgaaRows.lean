/-
  No cell of these rows narrows 'for every input' (looked for: loops, veiled, ifaces, maps, wideKeys, modest, calm, conditions, laid).
  DERIVED. THE GIVEN ROWS OF THIS SEAT. 12 by the template 'for every input the law returns true; each argument reads behind the call as it read before'; 0 by the template 'total and deterministic' (their statements: YtffdllmhlaecgaaTotals.lean).
  GIVEN WITH THE SEED: the statements are not yours to turn. If you find one false, say at which input.
  Laid BY PROGRAM, IN A SANDBOX (cutbox-rows.mjs): the forced cells as the released guide's own fill.sh prints them over the translation fe476b7c641552db… (all of the seat's roots in one cut). By AI agents, Wed Nov 11 2026. No macro, syntax, notation, axiom, sorry.
-/
import Derived.Test.YtffdllmhlaecgaaChecked
import GoSem.Claim
import GoSem.ClaimJoined
import GoSem.ClaimMapViews
import Derived.JoinedTies
import Derived.KernelRfl
namespace Go.Proofs.Ytffdllmhlaecgaa
/- THE CELL 'sum', in the pinned program and in every row, IS THE sha256 OF THE DUMP (.gsa) THAT YtffdllmhlaecgaaProg.lean LOADS. Nothing in Lean hashes anything: it is a label: what it is worth is what the hold of that sum in a sandbox is worth. -/
noncomputable def Try.pinned : Pinned := { name := "ytffdllmhlaecgaa", sum := "fe476b7c641552db2ef453b78e1ab6da781da27d88888902e9fb6f0397a93efe", checked := Try.checked }
namespace Rows
def none {H : Type} : Left H := { results := [], args := [] }

/-- 'astrolabelaw05.DyadSteps': WHATEVER THE INPUT: true; the input reads as it did. -/
def dyadStepsSpec : ChangeSpec := { name := "dyadSteps", fn := fun _ => fun
  | [d1, d2, d3, d4] => { results := [.lit (.bool true)], args := [d1, d2, d3, d4] }
  | _ => none }
def dyadStepsRow : OpenClaim := { program := "ytffdllmhlaecgaa", sum := "fe476b7c641552db2ef453b78e1ab6da781da27d88888902e9fb6f0397a93efe", func := "astrolabe/astrolabelaw05.DyadSteps", spec := "dyadSteps", named := ["math/bits.overflowError"], apart := false }
def DyadStepsSaid : Prop := dyadStepsRow.holds Try.pinned (OpenSpec.ofChange dyadStepsSpec)

/-- ITS FALSE NEIGHBOUR: 'it returns false'. Refute it at one input. -/
def dyadStepsWrong : ChangeSpec := { name := "dyadSteps", fn := fun _ => fun
  | [d1, d2, d3, d4] => { results := [.lit (.bool false)], args := [d1, d2, d3, d4] }
  | _ => none }
def DyadStepsWrongFalsely : Prop := dyadStepsRow.holds Try.pinned (OpenSpec.ofChange dyadStepsWrong)

/-- 'astrolabelaw05.DyadRounds': WHATEVER THE INPUT: true; the input reads as it did. -/
def dyadRoundsSpec : ChangeSpec := { name := "dyadRounds", fn := fun _ => fun
  | [d1, d2, d3, d4] => { results := [.lit (.bool true)], args := [d1, d2, d3, d4] }
  | _ => none }
def dyadRoundsRow : OpenClaim := { program := "ytffdllmhlaecgaa", sum := "fe476b7c641552db2ef453b78e1ab6da781da27d88888902e9fb6f0397a93efe", func := "astrolabe/astrolabelaw05.DyadRounds", spec := "dyadRounds", named := ["math/bits.overflowError"], apart := false }
def DyadRoundsSaid : Prop := dyadRoundsRow.holds Try.pinned (OpenSpec.ofChange dyadRoundsSpec)

/-- ITS FALSE NEIGHBOUR: 'it returns false'. Refute it at one input. -/
def dyadRoundsWrong : ChangeSpec := { name := "dyadRounds", fn := fun _ => fun
  | [d1, d2, d3, d4] => { results := [.lit (.bool false)], args := [d1, d2, d3, d4] }
  | _ => none }
def DyadRoundsWrongFalsely : Prop := dyadRoundsRow.holds Try.pinned (OpenSpec.ofChange dyadRoundsWrong)

/-- 'astrolabelaw05.DyadBetween': WHATEVER THE INPUT: true; the input reads as it did. -/
def dyadBetweenSpec : ChangeSpec := { name := "dyadBetween", fn := fun _ => fun
  | [d1, d2] => { results := [.lit (.bool true)], args := [d1, d2] }
  | _ => none }
def dyadBetweenRow : OpenClaim := { program := "ytffdllmhlaecgaa", sum := "fe476b7c641552db2ef453b78e1ab6da781da27d88888902e9fb6f0397a93efe", func := "astrolabe/astrolabelaw05.DyadBetween", spec := "dyadBetween", named := ["math/bits.overflowError"], apart := false }
def DyadBetweenSaid : Prop := dyadBetweenRow.holds Try.pinned (OpenSpec.ofChange dyadBetweenSpec)

/-- ITS FALSE NEIGHBOUR: 'it returns false'. Refute it at one input. -/
def dyadBetweenWrong : ChangeSpec := { name := "dyadBetween", fn := fun _ => fun
  | [d1, d2] => { results := [.lit (.bool false)], args := [d1, d2] }
  | _ => none }
def DyadBetweenWrongFalsely : Prop := dyadBetweenRow.holds Try.pinned (OpenSpec.ofChange dyadBetweenWrong)

/-- 'astrolabelaw05.DyadReckons': WHATEVER THE INPUT: true; the input reads as it did. -/
def dyadReckonsSpec : ChangeSpec := { name := "dyadReckons", fn := fun _ => fun
  | [d1, d2, d3] => { results := [.lit (.bool true)], args := [d1, d2, d3] }
  | _ => none }
def dyadReckonsRow : OpenClaim := { program := "ytffdllmhlaecgaa", sum := "fe476b7c641552db2ef453b78e1ab6da781da27d88888902e9fb6f0397a93efe", func := "astrolabe/astrolabelaw05.DyadReckons", spec := "dyadReckons", named := ["math/bits.overflowError"], apart := false }
def DyadReckonsSaid : Prop := dyadReckonsRow.holds Try.pinned (OpenSpec.ofChange dyadReckonsSpec)

/-- ITS FALSE NEIGHBOUR: 'it returns false'. Refute it at one input. -/
def dyadReckonsWrong : ChangeSpec := { name := "dyadReckons", fn := fun _ => fun
  | [d1, d2, d3] => { results := [.lit (.bool false)], args := [d1, d2, d3] }
  | _ => none }
def DyadReckonsWrongFalsely : Prop := dyadReckonsRow.holds Try.pinned (OpenSpec.ofChange dyadReckonsWrong)

/-- 'astrolabelaw05.DyadBack': WHATEVER THE INPUT: true; the input reads as it did. -/
def dyadBackSpec : ChangeSpec := { name := "dyadBack", fn := fun _ => fun
  | [d1, d2, d3] => { results := [.lit (.bool true)], args := [d1, d2, d3] }
  | _ => none }
def dyadBackRow : OpenClaim := { program := "ytffdllmhlaecgaa", sum := "fe476b7c641552db2ef453b78e1ab6da781da27d88888902e9fb6f0397a93efe", func := "astrolabe/astrolabelaw05.DyadBack", spec := "dyadBack", named := ["math/bits.overflowError"], apart := false }
def DyadBackSaid : Prop := dyadBackRow.holds Try.pinned (OpenSpec.ofChange dyadBackSpec)

/-- ITS FALSE NEIGHBOUR: 'it returns false'. Refute it at one input. -/
def dyadBackWrong : ChangeSpec := { name := "dyadBack", fn := fun _ => fun
  | [d1, d2, d3] => { results := [.lit (.bool false)], args := [d1, d2, d3] }
  | _ => none }
def DyadBackWrongFalsely : Prop := dyadBackRow.holds Try.pinned (OpenSpec.ofChange dyadBackWrong)

/-- 'astrolabelaw05.DyadOrder': WHATEVER THE INPUT: true; the input reads as it did. -/
def dyadOrderSpec : ChangeSpec := { name := "dyadOrder", fn := fun _ => fun
  | [d1, d2, d3] => { results := [.lit (.bool true)], args := [d1, d2, d3] }
  | _ => none }
def dyadOrderRow : OpenClaim := { program := "ytffdllmhlaecgaa", sum := "fe476b7c641552db2ef453b78e1ab6da781da27d88888902e9fb6f0397a93efe", func := "astrolabe/astrolabelaw05.DyadOrder", spec := "dyadOrder", named := ["math/bits.overflowError"], apart := false }
def DyadOrderSaid : Prop := dyadOrderRow.holds Try.pinned (OpenSpec.ofChange dyadOrderSpec)

/-- ITS FALSE NEIGHBOUR: 'it returns false'. Refute it at one input. -/
def dyadOrderWrong : ChangeSpec := { name := "dyadOrder", fn := fun _ => fun
  | [d1, d2, d3] => { results := [.lit (.bool false)], args := [d1, d2, d3] }
  | _ => none }
def DyadOrderWrongFalsely : Prop := dyadOrderRow.holds Try.pinned (OpenSpec.ofChange dyadOrderWrong)

/-- 'astrolabelaw05.DyadMakes': WHATEVER THE INPUT: true; the input reads as it did. -/
def dyadMakesSpec : ChangeSpec := { name := "dyadMakes", fn := fun _ => fun
  | [d1, d2, d3, d4] => { results := [.lit (.bool true)], args := [d1, d2, d3, d4] }
  | _ => none }
def dyadMakesRow : OpenClaim := { program := "ytffdllmhlaecgaa", sum := "fe476b7c641552db2ef453b78e1ab6da781da27d88888902e9fb6f0397a93efe", func := "astrolabe/astrolabelaw05.DyadMakes", spec := "dyadMakes", named := ["math/bits.overflowError"], apart := false }
def DyadMakesSaid : Prop := dyadMakesRow.holds Try.pinned (OpenSpec.ofChange dyadMakesSpec)

/-- ITS FALSE NEIGHBOUR: 'it returns false'. Refute it at one input. -/
def dyadMakesWrong : ChangeSpec := { name := "dyadMakes", fn := fun _ => fun
  | [d1, d2, d3, d4] => { results := [.lit (.bool false)], args := [d1, d2, d3, d4] }
  | _ => none }
def DyadMakesWrongFalsely : Prop := dyadMakesRow.holds Try.pinned (OpenSpec.ofChange dyadMakesWrong)

/-- 'astrolabelaw05.DyadLaws': WHATEVER THE INPUT: true; the input reads as it did. -/
def dyadLawsSpec : ChangeSpec := { name := "dyadLaws", fn := fun _ => fun
  | [d1, d2, d3, d4] => { results := [.lit (.bool true)], args := [d1, d2, d3, d4] }
  | _ => none }
def dyadLawsRow : OpenClaim := { program := "ytffdllmhlaecgaa", sum := "fe476b7c641552db2ef453b78e1ab6da781da27d88888902e9fb6f0397a93efe", func := "astrolabe/astrolabelaw05.DyadLaws", spec := "dyadLaws", named := ["math/bits.overflowError"], apart := false }
def DyadLawsSaid : Prop := dyadLawsRow.holds Try.pinned (OpenSpec.ofChange dyadLawsSpec)

/-- ITS FALSE NEIGHBOUR: 'it returns false'. Refute it at one input. -/
def dyadLawsWrong : ChangeSpec := { name := "dyadLaws", fn := fun _ => fun
  | [d1, d2, d3, d4] => { results := [.lit (.bool false)], args := [d1, d2, d3, d4] }
  | _ => none }
def DyadLawsWrongFalsely : Prop := dyadLawsRow.holds Try.pinned (OpenSpec.ofChange dyadLawsWrong)

/-- 'astrolabelaw05.DyadSizes': WHATEVER THE INPUT: true; the input reads as it did. -/
def dyadSizesSpec : ChangeSpec := { name := "dyadSizes", fn := fun _ => fun
  | [d1, d2] => { results := [.lit (.bool true)], args := [d1, d2] }
  | _ => none }
def dyadSizesRow : OpenClaim := { program := "ytffdllmhlaecgaa", sum := "fe476b7c641552db2ef453b78e1ab6da781da27d88888902e9fb6f0397a93efe", func := "astrolabe/astrolabelaw05.DyadSizes", spec := "dyadSizes", named := ["math/bits.overflowError"], apart := false }
def DyadSizesSaid : Prop := dyadSizesRow.holds Try.pinned (OpenSpec.ofChange dyadSizesSpec)

/-- ITS FALSE NEIGHBOUR: 'it returns false'. Refute it at one input. -/
def dyadSizesWrong : ChangeSpec := { name := "dyadSizes", fn := fun _ => fun
  | [d1, d2] => { results := [.lit (.bool false)], args := [d1, d2] }
  | _ => none }
def DyadSizesWrongFalsely : Prop := dyadSizesRow.holds Try.pinned (OpenSpec.ofChange dyadSizesWrong)

/-- 'astrolabelaw05.DyadQuotient': WHATEVER THE INPUT: true; the input reads as it did. -/
def dyadQuotientSpec : ChangeSpec := { name := "dyadQuotient", fn := fun _ => fun
  | [d1, d2, d3] => { results := [.lit (.bool true)], args := [d1, d2, d3] }
  | _ => none }
def dyadQuotientRow : OpenClaim := { program := "ytffdllmhlaecgaa", sum := "fe476b7c641552db2ef453b78e1ab6da781da27d88888902e9fb6f0397a93efe", func := "astrolabe/astrolabelaw05.DyadQuotient", spec := "dyadQuotient", named := ["math/bits.overflowError"], apart := false }
def DyadQuotientSaid : Prop := dyadQuotientRow.holds Try.pinned (OpenSpec.ofChange dyadQuotientSpec)

/-- ITS FALSE NEIGHBOUR: 'it returns false'. Refute it at one input. -/
def dyadQuotientWrong : ChangeSpec := { name := "dyadQuotient", fn := fun _ => fun
  | [d1, d2, d3] => { results := [.lit (.bool false)], args := [d1, d2, d3] }
  | _ => none }
def DyadQuotientWrongFalsely : Prop := dyadQuotientRow.holds Try.pinned (OpenSpec.ofChange dyadQuotientWrong)

/-- 'astrolabelaw05.DyadFloors': WHATEVER THE INPUT: true; the input reads as it did. -/
def dyadFloorsSpec : ChangeSpec := { name := "dyadFloors", fn := fun _ => fun
  | [d1, d2] => { results := [.lit (.bool true)], args := [d1, d2] }
  | _ => none }
def dyadFloorsRow : OpenClaim := { program := "ytffdllmhlaecgaa", sum := "fe476b7c641552db2ef453b78e1ab6da781da27d88888902e9fb6f0397a93efe", func := "astrolabe/astrolabelaw05.DyadFloors", spec := "dyadFloors", named := ["math/bits.overflowError"], apart := false }
def DyadFloorsSaid : Prop := dyadFloorsRow.holds Try.pinned (OpenSpec.ofChange dyadFloorsSpec)

/-- ITS FALSE NEIGHBOUR: 'it returns false'. Refute it at one input. -/
def dyadFloorsWrong : ChangeSpec := { name := "dyadFloors", fn := fun _ => fun
  | [d1, d2] => { results := [.lit (.bool false)], args := [d1, d2] }
  | _ => none }
def DyadFloorsWrongFalsely : Prop := dyadFloorsRow.holds Try.pinned (OpenSpec.ofChange dyadFloorsWrong)

/-- 'astrolabelaw05.DyadRoot': WHATEVER THE INPUT: true; the input reads as it did. -/
def dyadRootSpec : ChangeSpec := { name := "dyadRoot", fn := fun _ => fun
  | [d1, d2] => { results := [.lit (.bool true)], args := [d1, d2] }
  | _ => none }
def dyadRootRow : OpenClaim := { program := "ytffdllmhlaecgaa", sum := "fe476b7c641552db2ef453b78e1ab6da781da27d88888902e9fb6f0397a93efe", func := "astrolabe/astrolabelaw05.DyadRoot", spec := "dyadRoot", named := ["math/bits.overflowError"], apart := false }
def DyadRootSaid : Prop := dyadRootRow.holds Try.pinned (OpenSpec.ofChange dyadRootSpec)

/-- ITS FALSE NEIGHBOUR: 'it returns false'. Refute it at one input. -/
def dyadRootWrong : ChangeSpec := { name := "dyadRoot", fn := fun _ => fun
  | [d1, d2] => { results := [.lit (.bool false)], args := [d1, d2] }
  | _ => none }
def DyadRootWrongFalsely : Prop := dyadRootRow.holds Try.pinned (OpenSpec.ofChange dyadRootWrong)

/- THE SECOND FORM. 'bulk': how many values and letters a reading holds, each counted each time it is reached (what is shared counts as often as it is met; a slice's spare places count too). A statement '..UptoSaid' is the law's where the arguments, and the package variables that the reading takes, are together of bulk at most 1048576: NARROWER than '..Said'. Prove '..Said' where nothing that the law and all that it calls make is longer than what came in: it says more and counts as full. Else prove '..UptoSaid'. A law counts once. -/
mutual
def uptoBulk {H : Type} : DataW H → Nat
  | .lit (.string bytes) => bytes.length + 1
  | .lit _ => 1
  | .nil => 1
  | .ptr d => uptoBulk d + 1
  | .slice elems spare => uptoBulkAll elems + uptoBulkAll spare + 1
  | .agg parts => uptoBulkAll parts + 1
  | .iface _ d => uptoBulk d + 1
  | .map entries => uptoBulkEntries entries + 1
  | .held _ => 1
def uptoBulkAll {H : Type} : List (DataW H) → Nat
  | [] => 0
  | d :: r => uptoBulk d + uptoBulkAll r
def uptoBulkEntries {H : Type} : List (Lit × DataW H) → Nat
  | [] => 0
  | x :: r => uptoBulkEntry x + uptoBulkEntries r
def uptoBulkEntry {H : Type} : Lit × DataW H → Nat
  | (.string bytes, d) => bytes.length + uptoBulk d + 1
  | (_, d) => uptoBulk d + 1
 end
def uptoSmall : (H : Type) → List (DataW H) → Bool := fun _ ds => decide (uptoBulkAll ds ≤ 1048576)
def OpenSpec.upto (s : _root_.Go.ChangeSpec) : _root_.Go.OpenSpec := { _root_.Go.OpenSpec.ofChange s with cond := some uptoSmall }

/-- 'astrolabelaw05.DyadSteps', WHERE WHAT IT READS IS OF BULK AT MOST 1048576: true; the input reads as it did. -/
def dyadStepsUptoRow : OpenClaim := { program := "ytffdllmhlaecgaa", sum := "fe476b7c641552db2ef453b78e1ab6da781da27d88888902e9fb6f0397a93efe", func := "astrolabe/astrolabelaw05.DyadSteps", spec := "dyadSteps", named := ["math/bits.overflowError"], apart := false, narrowed := true }
def DyadStepsUptoSaid : Prop := dyadStepsUptoRow.holds Try.pinned (OpenSpec.upto dyadStepsSpec)

/-- 'astrolabelaw05.DyadRounds', WHERE WHAT IT READS IS OF BULK AT MOST 1048576: true; the input reads as it did. -/
def dyadRoundsUptoRow : OpenClaim := { program := "ytffdllmhlaecgaa", sum := "fe476b7c641552db2ef453b78e1ab6da781da27d88888902e9fb6f0397a93efe", func := "astrolabe/astrolabelaw05.DyadRounds", spec := "dyadRounds", named := ["math/bits.overflowError"], apart := false, narrowed := true }
def DyadRoundsUptoSaid : Prop := dyadRoundsUptoRow.holds Try.pinned (OpenSpec.upto dyadRoundsSpec)

/-- 'astrolabelaw05.DyadBetween', WHERE WHAT IT READS IS OF BULK AT MOST 1048576: true; the input reads as it did. -/
def dyadBetweenUptoRow : OpenClaim := { program := "ytffdllmhlaecgaa", sum := "fe476b7c641552db2ef453b78e1ab6da781da27d88888902e9fb6f0397a93efe", func := "astrolabe/astrolabelaw05.DyadBetween", spec := "dyadBetween", named := ["math/bits.overflowError"], apart := false, narrowed := true }
def DyadBetweenUptoSaid : Prop := dyadBetweenUptoRow.holds Try.pinned (OpenSpec.upto dyadBetweenSpec)

/-- 'astrolabelaw05.DyadReckons', WHERE WHAT IT READS IS OF BULK AT MOST 1048576: true; the input reads as it did. -/
def dyadReckonsUptoRow : OpenClaim := { program := "ytffdllmhlaecgaa", sum := "fe476b7c641552db2ef453b78e1ab6da781da27d88888902e9fb6f0397a93efe", func := "astrolabe/astrolabelaw05.DyadReckons", spec := "dyadReckons", named := ["math/bits.overflowError"], apart := false, narrowed := true }
def DyadReckonsUptoSaid : Prop := dyadReckonsUptoRow.holds Try.pinned (OpenSpec.upto dyadReckonsSpec)

/-- 'astrolabelaw05.DyadBack', WHERE WHAT IT READS IS OF BULK AT MOST 1048576: true; the input reads as it did. -/
def dyadBackUptoRow : OpenClaim := { program := "ytffdllmhlaecgaa", sum := "fe476b7c641552db2ef453b78e1ab6da781da27d88888902e9fb6f0397a93efe", func := "astrolabe/astrolabelaw05.DyadBack", spec := "dyadBack", named := ["math/bits.overflowError"], apart := false, narrowed := true }
def DyadBackUptoSaid : Prop := dyadBackUptoRow.holds Try.pinned (OpenSpec.upto dyadBackSpec)

/-- 'astrolabelaw05.DyadOrder', WHERE WHAT IT READS IS OF BULK AT MOST 1048576: true; the input reads as it did. -/
def dyadOrderUptoRow : OpenClaim := { program := "ytffdllmhlaecgaa", sum := "fe476b7c641552db2ef453b78e1ab6da781da27d88888902e9fb6f0397a93efe", func := "astrolabe/astrolabelaw05.DyadOrder", spec := "dyadOrder", named := ["math/bits.overflowError"], apart := false, narrowed := true }
def DyadOrderUptoSaid : Prop := dyadOrderUptoRow.holds Try.pinned (OpenSpec.upto dyadOrderSpec)

/-- 'astrolabelaw05.DyadMakes', WHERE WHAT IT READS IS OF BULK AT MOST 1048576: true; the input reads as it did. -/
def dyadMakesUptoRow : OpenClaim := { program := "ytffdllmhlaecgaa", sum := "fe476b7c641552db2ef453b78e1ab6da781da27d88888902e9fb6f0397a93efe", func := "astrolabe/astrolabelaw05.DyadMakes", spec := "dyadMakes", named := ["math/bits.overflowError"], apart := false, narrowed := true }
def DyadMakesUptoSaid : Prop := dyadMakesUptoRow.holds Try.pinned (OpenSpec.upto dyadMakesSpec)

/-- 'astrolabelaw05.DyadLaws', WHERE WHAT IT READS IS OF BULK AT MOST 1048576: true; the input reads as it did. -/
def dyadLawsUptoRow : OpenClaim := { program := "ytffdllmhlaecgaa", sum := "fe476b7c641552db2ef453b78e1ab6da781da27d88888902e9fb6f0397a93efe", func := "astrolabe/astrolabelaw05.DyadLaws", spec := "dyadLaws", named := ["math/bits.overflowError"], apart := false, narrowed := true }
def DyadLawsUptoSaid : Prop := dyadLawsUptoRow.holds Try.pinned (OpenSpec.upto dyadLawsSpec)

/-- 'astrolabelaw05.DyadSizes', WHERE WHAT IT READS IS OF BULK AT MOST 1048576: true; the input reads as it did. -/
def dyadSizesUptoRow : OpenClaim := { program := "ytffdllmhlaecgaa", sum := "fe476b7c641552db2ef453b78e1ab6da781da27d88888902e9fb6f0397a93efe", func := "astrolabe/astrolabelaw05.DyadSizes", spec := "dyadSizes", named := ["math/bits.overflowError"], apart := false, narrowed := true }
def DyadSizesUptoSaid : Prop := dyadSizesUptoRow.holds Try.pinned (OpenSpec.upto dyadSizesSpec)

/-- 'astrolabelaw05.DyadQuotient', WHERE WHAT IT READS IS OF BULK AT MOST 1048576: true; the input reads as it did. -/
def dyadQuotientUptoRow : OpenClaim := { program := "ytffdllmhlaecgaa", sum := "fe476b7c641552db2ef453b78e1ab6da781da27d88888902e9fb6f0397a93efe", func := "astrolabe/astrolabelaw05.DyadQuotient", spec := "dyadQuotient", named := ["math/bits.overflowError"], apart := false, narrowed := true }
def DyadQuotientUptoSaid : Prop := dyadQuotientUptoRow.holds Try.pinned (OpenSpec.upto dyadQuotientSpec)

/-- 'astrolabelaw05.DyadFloors', WHERE WHAT IT READS IS OF BULK AT MOST 1048576: true; the input reads as it did. -/
def dyadFloorsUptoRow : OpenClaim := { program := "ytffdllmhlaecgaa", sum := "fe476b7c641552db2ef453b78e1ab6da781da27d88888902e9fb6f0397a93efe", func := "astrolabe/astrolabelaw05.DyadFloors", spec := "dyadFloors", named := ["math/bits.overflowError"], apart := false, narrowed := true }
def DyadFloorsUptoSaid : Prop := dyadFloorsUptoRow.holds Try.pinned (OpenSpec.upto dyadFloorsSpec)

/-- 'astrolabelaw05.DyadRoot', WHERE WHAT IT READS IS OF BULK AT MOST 1048576: true; the input reads as it did. -/
def dyadRootUptoRow : OpenClaim := { program := "ytffdllmhlaecgaa", sum := "fe476b7c641552db2ef453b78e1ab6da781da27d88888902e9fb6f0397a93efe", func := "astrolabe/astrolabelaw05.DyadRoot", spec := "dyadRoot", named := ["math/bits.overflowError"], apart := false, narrowed := true }
def DyadRootUptoSaid : Prop := dyadRootUptoRow.holds Try.pinned (OpenSpec.upto dyadRootSpec)

end Rows
end Go.Proofs.Ytffdllmhlaecgaa
