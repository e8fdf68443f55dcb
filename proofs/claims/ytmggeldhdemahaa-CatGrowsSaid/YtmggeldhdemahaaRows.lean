/-
  No cell of these rows narrows 'for every input' (looked for: loops, veiled, ifaces, maps, wideKeys, modest, calm, conditions, laid).
  DERIVED. THE GIVEN ROWS OF THIS SEAT. 4 by the template 'for every input the law returns true; each argument reads behind the call as it read before'; 0 by the template 'total and deterministic' (their statements: YtmggeldhdemahaaTotals.lean).
  GIVEN WITH THE SEED: the statements are not yours to turn. If you find one false, say at which input.
  Laid BY PROGRAM, IN A SANDBOX (cutbox-rows.mjs): the forced cells as the released guide's own fill.sh prints them over the translation d303adad9b16fbb5… (all of the seat's roots in one cut). By AI agents, Wed Nov 11 2026. No macro, syntax, notation, axiom, sorry.
-/
import Derived.Test.YtmggeldhdemahaaChecked
import GoSem.Claim
import GoSem.ClaimJoined
import GoSem.ClaimMapViews
import Derived.JoinedTies
import Derived.KernelRfl
namespace Go.Proofs.Ytmggeldhdemahaa
/- THE CELL 'sum', in the pinned program and in every row, IS THE sha256 OF THE DUMP (.gsa) THAT YtmggeldhdemahaaProg.lean LOADS. Nothing in Lean hashes anything: it is a label: what it is worth is what the hold of that sum in a sandbox is worth. -/
noncomputable def Try.pinned : Pinned := { name := "ytmggeldhdemahaa", sum := "d303adad9b16fbb5e192b05796b000fd0a23c06d07eead6bc7146a3a481c6530", checked := Try.checked }
namespace Rows
def none {H : Type} : Left H := { results := [], args := [] }

/-- 'astrolabelaw23.CatBytes': WHATEVER THE INPUT: true; the input reads as it did. -/
def catBytesSpec : ChangeSpec := { name := "catBytes", fn := fun _ => fun
  | [d1, d2] => { results := [.lit (.bool true)], args := [d1, d2] }
  | _ => none }
def catBytesRow : OpenClaim := { program := "ytmggeldhdemahaa", sum := "d303adad9b16fbb5e192b05796b000fd0a23c06d07eead6bc7146a3a481c6530", func := "astrolabe/astrolabelaw23.CatBytes", spec := "catBytes", unfollowed := true, recurses := true, apart := false }
def CatBytesSaid : Prop := catBytesRow.holds Try.pinned (OpenSpec.ofChange catBytesSpec)

/-- ITS FALSE NEIGHBOUR: 'it returns false'. Refute it at one input. -/
def catBytesWrong : ChangeSpec := { name := "catBytes", fn := fun _ => fun
  | [d1, d2] => { results := [.lit (.bool false)], args := [d1, d2] }
  | _ => none }
def CatBytesWrongFalsely : Prop := catBytesRow.holds Try.pinned (OpenSpec.ofChange catBytesWrong)

/-- 'astrolabelaw23.CatSizes': WHATEVER THE INPUT: true; the input reads as it did. -/
def catSizesSpec : ChangeSpec := { name := "catSizes", fn := fun _ => fun
  | [d] => { results := [.lit (.bool true)], args := [d] }
  | _ => none }
def catSizesRow : OpenClaim := { program := "ytmggeldhdemahaa", sum := "d303adad9b16fbb5e192b05796b000fd0a23c06d07eead6bc7146a3a481c6530", func := "astrolabe/astrolabelaw23.CatSizes", spec := "catSizes", unfollowed := true, recurses := true, apart := false }
def CatSizesSaid : Prop := catSizesRow.holds Try.pinned (OpenSpec.ofChange catSizesSpec)

/-- ITS FALSE NEIGHBOUR: 'it returns false'. Refute it at one input. -/
def catSizesWrong : ChangeSpec := { name := "catSizes", fn := fun _ => fun
  | [d] => { results := [.lit (.bool false)], args := [d] }
  | _ => none }
def CatSizesWrongFalsely : Prop := catSizesRow.holds Try.pinned (OpenSpec.ofChange catSizesWrong)

/-- 'astrolabelaw23.CatTurns': WHATEVER THE INPUT: true; the input reads as it did. -/
def catTurnsSpec : ChangeSpec := { name := "catTurns", fn := fun _ => fun
  | [d1, d2, d3] => { results := [.lit (.bool true)], args := [d1, d2, d3] }
  | _ => none }
def catTurnsRow : OpenClaim := { program := "ytmggeldhdemahaa", sum := "d303adad9b16fbb5e192b05796b000fd0a23c06d07eead6bc7146a3a481c6530", func := "astrolabe/astrolabelaw23.CatTurns", spec := "catTurns", unfollowed := true, recurses := true, apart := false }
def CatTurnsSaid : Prop := catTurnsRow.holds Try.pinned (OpenSpec.ofChange catTurnsSpec)

/-- ITS FALSE NEIGHBOUR: 'it returns false'. Refute it at one input. -/
def catTurnsWrong : ChangeSpec := { name := "catTurns", fn := fun _ => fun
  | [d1, d2, d3] => { results := [.lit (.bool false)], args := [d1, d2, d3] }
  | _ => none }
def CatTurnsWrongFalsely : Prop := catTurnsRow.holds Try.pinned (OpenSpec.ofChange catTurnsWrong)

/-- 'astrolabelaw23.CatGrows': WHATEVER THE INPUT: true; the input reads as it did. -/
def catGrowsSpec : ChangeSpec := { name := "catGrows", fn := fun _ => fun
  | [d1, d2] => { results := [.lit (.bool true)], args := [d1, d2] }
  | _ => none }
def catGrowsRow : OpenClaim := { program := "ytmggeldhdemahaa", sum := "d303adad9b16fbb5e192b05796b000fd0a23c06d07eead6bc7146a3a481c6530", func := "astrolabe/astrolabelaw23.CatGrows", spec := "catGrows", unfollowed := true, recurses := true, apart := false }
def CatGrowsSaid : Prop := catGrowsRow.holds Try.pinned (OpenSpec.ofChange catGrowsSpec)

/-- ITS FALSE NEIGHBOUR: 'it returns false'. Refute it at one input. -/
def catGrowsWrong : ChangeSpec := { name := "catGrows", fn := fun _ => fun
  | [d1, d2] => { results := [.lit (.bool false)], args := [d1, d2] }
  | _ => none }
def CatGrowsWrongFalsely : Prop := catGrowsRow.holds Try.pinned (OpenSpec.ofChange catGrowsWrong)

/- THE SECOND FORM. 'bulk': how many values and letters a reading holds, each counted each time it is reached (what is shared counts as often as it is met; a slice's spare places count too). A statement '..UptoSaid' is the law's where the arguments, and the package variables that the reading takes, are together of bulk at most 1048576: NARROWER than '..Said'. Prove '..Said' where nothing that the law and all that it calls make is longer than what came in: it says more and counts as full. Else prove '..UptoSaid'. A law counts once. -/
mutual
def uptoBulk {H : Type} : DataW H → Nat
  | .lit (.string bytes) => bytes.length + 1
  | .lit _ => 1
  | .nil => 1
  | .ptr d => uptoBulk d + 1
  | .slice elems spare => uptoBulkAll elems + uptoBulkAll spare + 1
  | .agg parts => uptoBulkAll parts + 1
  | .iface _ d => uptoBulk d + 1
  | .map entries => uptoBulkEntries entries + 1
  | .held _ => 1
def uptoBulkAll {H : Type} : List (DataW H) → Nat
  | [] => 0
  | d :: r => uptoBulk d + uptoBulkAll r
def uptoBulkEntries {H : Type} : List (Lit × DataW H) → Nat
  | [] => 0
  | x :: r => uptoBulkEntry x + uptoBulkEntries r
def uptoBulkEntry {H : Type} : Lit × DataW H → Nat
  | (.string bytes, d) => bytes.length + uptoBulk d + 1
  | (_, d) => uptoBulk d + 1
 end
def uptoSmall : (H : Type) → List (DataW H) → Bool := fun _ ds => decide (uptoBulkAll ds ≤ 1048576)
def OpenSpec.upto (s : _root_.Go.ChangeSpec) : _root_.Go.OpenSpec := { _root_.Go.OpenSpec.ofChange s with cond := some uptoSmall }

/-- 'astrolabelaw23.CatBytes', WHERE WHAT IT READS IS OF BULK AT MOST 1048576: true; the input reads as it did. -/
def catBytesUptoRow : OpenClaim := { program := "ytmggeldhdemahaa", sum := "d303adad9b16fbb5e192b05796b000fd0a23c06d07eead6bc7146a3a481c6530", func := "astrolabe/astrolabelaw23.CatBytes", spec := "catBytes", unfollowed := true, recurses := true, apart := false, narrowed := true }
def CatBytesUptoSaid : Prop := catBytesUptoRow.holds Try.pinned (OpenSpec.upto catBytesSpec)

/-- 'astrolabelaw23.CatSizes', WHERE WHAT IT READS IS OF BULK AT MOST 1048576: true; the input reads as it did. -/
def catSizesUptoRow : OpenClaim := { program := "ytmggeldhdemahaa", sum := "d303adad9b16fbb5e192b05796b000fd0a23c06d07eead6bc7146a3a481c6530", func := "astrolabe/astrolabelaw23.CatSizes", spec := "catSizes", unfollowed := true, recurses := true, apart := false, narrowed := true }
def CatSizesUptoSaid : Prop := catSizesUptoRow.holds Try.pinned (OpenSpec.upto catSizesSpec)

/-- 'astrolabelaw23.CatTurns', WHERE WHAT IT READS IS OF BULK AT MOST 1048576: true; the input reads as it did. -/
def catTurnsUptoRow : OpenClaim := { program := "ytmggeldhdemahaa", sum := "d303adad9b16fbb5e192b05796b000fd0a23c06d07eead6bc7146a3a481c6530", func := "astrolabe/astrolabelaw23.CatTurns", spec := "catTurns", unfollowed := true, recurses := true, apart := false, narrowed := true }
def CatTurnsUptoSaid : Prop := catTurnsUptoRow.holds Try.pinned (OpenSpec.upto catTurnsSpec)

/-- 'astrolabelaw23.CatGrows', WHERE WHAT IT READS IS OF BULK AT MOST 1048576: true; the input reads as it did. -/
def catGrowsUptoRow : OpenClaim := { program := "ytmggeldhdemahaa", sum := "d303adad9b16fbb5e192b05796b000fd0a23c06d07eead6bc7146a3a481c6530", func := "astrolabe/astrolabelaw23.CatGrows", spec := "catGrows", unfollowed := true, recurses := true, apart := false, narrowed := true }
def CatGrowsUptoSaid : Prop := catGrowsUptoRow.holds Try.pinned (OpenSpec.upto catGrowsSpec)

end Rows
end Go.Proofs.Ytmggeldhdemahaa
