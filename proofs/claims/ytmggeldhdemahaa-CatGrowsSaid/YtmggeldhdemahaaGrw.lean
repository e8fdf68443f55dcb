/-
  A world that has only grown since another one: by new blocks and by draws. What was true of old blocks stays true.
-/
import Derived.Test.YtmggeldhdemahaaWMore
namespace Go.Proofs.YtmggeldhdemahaaW.PrintWords
open Go.RowKit

class Grw (W W' : World) : Prop where
  below : Below W.heap.size W W'
instance Grw.same (W : World) : Grw W W := ⟨Below.refl _ _⟩
instance Grw.alloc (W W' : World) (o : Obj) [i : Grw W W'] : Grw W (W'.alloc o) := ⟨below_alloc i.below o⟩
instance Grw.drewN (W W' : World) (n : Nat) [i : Grw W W'] : Grw W (W'.drewN n) := ⟨pw_below_drewN i.below n⟩
instance Grw.drew (W W' : World) [i : Grw W W'] : Grw W W'.drew := ⟨below_drew i.below⟩
theorem bel {w W W' : World} [i : Grw W W'] (h : Below w.heap.size w W) : Below w.heap.size w W' := below_step h i.below
theorem bk {W W' : World} [i : Grw W W'] {g : Nat} {o : Obj} (h : W.heap[g]? = some o) : W'.heap[g]? = some o := blk_below h i.below
theorem rk {W W' : World} [i : Grw W W'] {α : Type} {d : Kd α} {e base : Nat} {ok : Nat → Prop} {v : Value} {xs : List α} (h : d.R e W base ok v xs) : d.R e W' base ok v xs := Kd.R_below h i.below
end Go.Proofs.YtmggeldhdemahaaW.PrintWords
