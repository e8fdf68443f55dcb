/-
  Facts of the abstract evaluator and of the functions that the law reaches, part 3. Conditions: none.
-/
import Derived.Shelf.Strings.BuilderX
import Derived.Shelf.RegionOpenPlain
import Derived.Lib.Strings
import Derived.Lib.Walk
import Derived.Lib.Builder
import Derived.Lib.MakeNoZero
import Derived.WalkKit
import Derived.Laws.Externs
import Derived.Laws.IdiomCopy
import Derived.Laws.PanicsMore
import Derived.Test.YtmbffiebfmnhhaaDoorG2PagerLasts
set_option linter.unusedVariables false
set_option linter.unusedSimpArgs false
set_option linter.unnecessarySimpa false
set_option exponentiation.threshold 200000
set_option maxRecDepth 100000
set_option maxRecDepth 100000
namespace Go.AM.G
open Go Go.AM Go.Proofs
instance : Und Tryd.prog 3 (.int .i64) := ⟨Tryd.underlying3⟩
instance : InfoOf Tryd.prog 3 := ⟨by kernel_rfl⟩
instance : AggOf Tryd.prog 3 false := ⟨by kernel_rfl⟩
instance : SzOf Tryd.prog 3 1 := ⟨by kernel_rfl⟩
instance : ZeroOf Tryd.prog 3 (.int .i64 0) := ⟨by kernel_rfl⟩
instance : Und Tryd.prog 4 (.bool) := ⟨Tryd.underlying4⟩
instance : InfoOf Tryd.prog 4 := ⟨by kernel_rfl⟩
instance : AggOf Tryd.prog 4 false := ⟨by kernel_rfl⟩
instance : SzOf Tryd.prog 4 1 := ⟨by kernel_rfl⟩
instance : ZeroOf Tryd.prog 4 (.bool false) := ⟨by kernel_rfl⟩
instance {a b : Bool} : PrimEq (bin Tryd.prog .eql 4 (.bool a) (.bool b)) (.bool (a == b)) := ⟨by cases a <;> cases b <;> kernel_rfl⟩
instance {a b : Bool} : PrimEq (bin Tryd.prog .neq 4 (.bool a) (.bool b)) (.bool (a != b)) := ⟨by cases a <;> cases b <;> kernel_rfl⟩
instance : Und Tryd.prog 5 (.int .u8) := ⟨Tryd.underlying5⟩
instance : InfoOf Tryd.prog 5 := ⟨by kernel_rfl⟩
instance : AggOf Tryd.prog 5 false := ⟨by kernel_rfl⟩
instance : SzOf Tryd.prog 5 1 := ⟨by kernel_rfl⟩
instance : ZeroOf Tryd.prog 5 (.int .u8 0) := ⟨by kernel_rfl⟩
instance : Und Tryd.prog 9 (.string) := ⟨Tryd.underlying9⟩
instance : InfoOf Tryd.prog 9 := ⟨by kernel_rfl⟩
instance : AggOf Tryd.prog 9 false := ⟨by kernel_rfl⟩
instance : SzOf Tryd.prog 9 1 := ⟨by kernel_rfl⟩
instance : ZeroOf Tryd.prog 9 (.string ByteArray.empty) := ⟨by kernel_rfl⟩
instance : Und Tryd.prog 21 (.int .i32) := ⟨Tryd.underlying21⟩
instance : InfoOf Tryd.prog 21 := ⟨by kernel_rfl⟩
instance : AggOf Tryd.prog 21 false := ⟨by kernel_rfl⟩
instance : SzOf Tryd.prog 21 1 := ⟨by kernel_rfl⟩
instance : ZeroOf Tryd.prog 21 (.int .i32 0) := ⟨by kernel_rfl⟩
instance : Und Tryd.prog 23 (.pointer 55) := ⟨Tryd.underlying23⟩
instance : InfoOf Tryd.prog 23 := ⟨by kernel_rfl⟩
instance : AggOf Tryd.prog 23 false := ⟨by kernel_rfl⟩
instance : SzOf Tryd.prog 23 1 := ⟨by kernel_rfl⟩
instance : ZeroOf Tryd.prog 23 (.pointer none) := ⟨by kernel_rfl⟩
instance : Und Tryd.prog 24 (.int .i64) := ⟨Tryd.underlying24⟩
instance : InfoOf Tryd.prog 24 := ⟨by kernel_rfl⟩
instance : AggOf Tryd.prog 24 false := ⟨by kernel_rfl⟩
instance : SzOf Tryd.prog 24 1 := ⟨by kernel_rfl⟩
instance : ZeroOf Tryd.prog 24 (.int .i64 0) := ⟨by kernel_rfl⟩
instance : Und Tryd.prog 27 (.pointer 61) := ⟨Tryd.underlying27⟩
instance : InfoOf Tryd.prog 27 := ⟨by kernel_rfl⟩
instance : AggOf Tryd.prog 27 false := ⟨by kernel_rfl⟩
instance : SzOf Tryd.prog 27 1 := ⟨by kernel_rfl⟩
instance : ZeroOf Tryd.prog 27 (.pointer none) := ⟨by kernel_rfl⟩
instance : Und Tryd.prog 33 (.slice 3) := ⟨Tryd.underlying33⟩
instance : InfoOf Tryd.prog 33 := ⟨by kernel_rfl⟩
instance : AggOf Tryd.prog 33 false := ⟨by kernel_rfl⟩
instance : SzOf Tryd.prog 33 1 := ⟨by kernel_rfl⟩
instance : ZeroOf Tryd.prog 33 (.slice none 0 0) := ⟨by kernel_rfl⟩
instance : Elt Tryd.prog 33 3 (.int .i64 0) 8 := ⟨Tryd.underlying33, by kernel_rfl, by kernel_rfl, by kernel_rfl, by kernel_rfl, by kernel_rfl, rfl, rfl, by kernel_rfl⟩
instance : Und Tryd.prog 41 (.slice 9) := ⟨Tryd.underlying41⟩
instance : InfoOf Tryd.prog 41 := ⟨by kernel_rfl⟩
instance : AggOf Tryd.prog 41 false := ⟨by kernel_rfl⟩
instance : SzOf Tryd.prog 41 1 := ⟨by kernel_rfl⟩
instance : ZeroOf Tryd.prog 41 (.slice none 0 0) := ⟨by kernel_rfl⟩
instance : Elt Tryd.prog 41 9 (.string ByteArray.empty) 16 := ⟨Tryd.underlying41, by kernel_rfl, by kernel_rfl, by kernel_rfl, by kernel_rfl, by kernel_rfl, rfl, rfl, by kernel_rfl⟩
instance : Und Tryd.prog 45 (.map 9 4) := ⟨Tryd.underlying45⟩
instance : InfoOf Tryd.prog 45 := ⟨by kernel_rfl⟩
instance : AggOf Tryd.prog 45 false := ⟨by kernel_rfl⟩
instance : SzOf Tryd.prog 45 1 := ⟨by kernel_rfl⟩
instance : ZeroOf Tryd.prog 45 (.map none) := ⟨by kernel_rfl⟩
instance : InfoOf Tryd.prog 47 := ⟨by kernel_rfl⟩
instance : AggOf Tryd.prog 47 true := ⟨by kernel_rfl⟩
instance : SzOf Tryd.prog 47 5 := ⟨by kernel_rfl⟩
instance : StructOf Tryd.prog 47 [.pointer none, .pointer none, .pointer none, .pointer none, .map none] := ⟨by kernel_rfl, _, Tryd.underlying47, by kernel_rfl⟩
instance : FieldOf Tryd.prog 47 0 0 23 := ⟨⟨_, _, Tryd.underlying47, rfl, rfl, rfl⟩, by decide +kernel⟩
instance : FieldOf Tryd.prog 47 1 1 23 := ⟨⟨_, _, Tryd.underlying47, rfl, rfl, rfl⟩, by decide +kernel⟩
instance : FieldOf Tryd.prog 47 2 2 27 := ⟨⟨_, _, Tryd.underlying47, rfl, rfl, rfl⟩, by decide +kernel⟩
instance : FieldOf Tryd.prog 47 3 3 27 := ⟨⟨_, _, Tryd.underlying47, rfl, rfl, rfl⟩, by decide +kernel⟩
instance : FieldOf Tryd.prog 47 4 4 45 := ⟨⟨_, _, Tryd.underlying47, rfl, rfl, rfl⟩, by decide +kernel⟩
instance : Und Tryd.prog 52 (.slice 5) := ⟨Tryd.underlying52⟩
instance : InfoOf Tryd.prog 52 := ⟨by kernel_rfl⟩
instance : AggOf Tryd.prog 52 false := ⟨by kernel_rfl⟩
instance : SzOf Tryd.prog 52 1 := ⟨by kernel_rfl⟩
instance : ZeroOf Tryd.prog 52 (.slice none 0 0) := ⟨by kernel_rfl⟩
instance : Elt Tryd.prog 52 5 (.int .u8 0) 1 := ⟨Tryd.underlying52, by kernel_rfl, by kernel_rfl, by kernel_rfl, by kernel_rfl, by kernel_rfl, rfl, rfl, by kernel_rfl⟩
instance : Und Tryd.prog 53 (.slice 72) := ⟨Tryd.underlying53⟩
instance : InfoOf Tryd.prog 53 := ⟨by kernel_rfl⟩
instance : AggOf Tryd.prog 53 false := ⟨by kernel_rfl⟩
instance : SzOf Tryd.prog 53 1 := ⟨by kernel_rfl⟩
instance : ZeroOf Tryd.prog 53 (.slice none 0 0) := ⟨by kernel_rfl⟩
instance : EltS Tryd.prog 53 72 [.int .i64 0, .string ByteArray.empty] 2 24 := ⟨Tryd.underlying53, by kernel_rfl, by kernel_rfl, by kernel_rfl, ⟨.agg #[.int .i64 0, .string ByteArray.empty], by kernel_rfl, rfl⟩, rfl, by decide, by kernel_rfl⟩
instance : InfoOf Tryd.prog 55 := ⟨by kernel_rfl⟩
instance : AggOf Tryd.prog 55 true := ⟨by kernel_rfl⟩
instance : SzOf Tryd.prog 55 4 := ⟨by kernel_rfl⟩
instance : StructOf Tryd.prog 55 [.slice none 0 0, .slice none 0 0, .int .i64 0, .bool false] := ⟨by kernel_rfl, _, Tryd.underlying55, by kernel_rfl⟩
instance : FieldOf Tryd.prog 55 0 0 52 := ⟨⟨_, _, Tryd.underlying55, rfl, rfl, rfl⟩, by decide +kernel⟩
instance : FieldOf Tryd.prog 55 1 1 53 := ⟨⟨_, _, Tryd.underlying55, rfl, rfl, rfl⟩, by decide +kernel⟩
instance : FieldOf Tryd.prog 55 2 2 3 := ⟨⟨_, _, Tryd.underlying55, rfl, rfl, rfl⟩, by decide +kernel⟩
instance : FieldOf Tryd.prog 55 3 3 4 := ⟨⟨_, _, Tryd.underlying55, rfl, rfl, rfl⟩, by decide +kernel⟩
instance : Und Tryd.prog 57 (.map 3 4) := ⟨Tryd.underlying57⟩
instance : InfoOf Tryd.prog 57 := ⟨by kernel_rfl⟩
instance : AggOf Tryd.prog 57 false := ⟨by kernel_rfl⟩
instance : SzOf Tryd.prog 57 1 := ⟨by kernel_rfl⟩
instance : ZeroOf Tryd.prog 57 (.map none) := ⟨by kernel_rfl⟩
instance : InfoOf Tryd.prog 59 := ⟨by kernel_rfl⟩
instance : AggOf Tryd.prog 59 true := ⟨by kernel_rfl⟩
instance : SzOf Tryd.prog 59 3 := ⟨by kernel_rfl⟩
instance : StructOf Tryd.prog 59 [.int .i64 0, .int .i64 0, .map none] := ⟨by kernel_rfl, _, Tryd.underlying59, by kernel_rfl⟩
instance : FieldOf Tryd.prog 59 0 0 3 := ⟨⟨_, _, Tryd.underlying59, rfl, rfl, rfl⟩, by decide +kernel⟩
instance : FieldOf Tryd.prog 59 1 1 3 := ⟨⟨_, _, Tryd.underlying59, rfl, rfl, rfl⟩, by decide +kernel⟩
instance : FieldOf Tryd.prog 59 2 2 57 := ⟨⟨_, _, Tryd.underlying59, rfl, rfl, rfl⟩, by decide +kernel⟩
instance : InfoOf Tryd.prog 61 := ⟨by kernel_rfl⟩
instance : AggOf Tryd.prog 61 true := ⟨by kernel_rfl⟩
instance : SzOf Tryd.prog 61 6 := ⟨by kernel_rfl⟩
instance : StructOf Tryd.prog 61 [.int .i64 0, .int .i64 0, .map none, .pointer none, .slice none 0 0, .bool false] := ⟨by kernel_rfl, _, Tryd.underlying61, by kernel_rfl⟩
instance : FieldOf Tryd.prog 61 0 0 59 := ⟨⟨_, _, Tryd.underlying61, rfl, rfl, rfl⟩, by decide +kernel⟩
instance : FieldOf Tryd.prog 61 1 3 23 := ⟨⟨_, _, Tryd.underlying61, rfl, rfl, rfl⟩, by decide +kernel⟩
instance : FieldOf Tryd.prog 61 2 4 33 := ⟨⟨_, _, Tryd.underlying61, rfl, rfl, rfl⟩, by decide +kernel⟩
instance : FieldOf Tryd.prog 61 3 5 4 := ⟨⟨_, _, Tryd.underlying61, rfl, rfl, rfl⟩, by decide +kernel⟩
instance : AggOf Tryd.prog 63 false := ⟨by kernel_rfl⟩
instance : SzOf Tryd.prog 63 1 := ⟨by kernel_rfl⟩
instance : ZeroOf Tryd.prog 63 .nilFunc := ⟨by kernel_rfl⟩
instance : InfoOf Tryd.prog 72 := ⟨by kernel_rfl⟩
instance : AggOf Tryd.prog 72 true := ⟨by kernel_rfl⟩
instance : SzOf Tryd.prog 72 2 := ⟨by kernel_rfl⟩
instance : StructOf Tryd.prog 72 [.int .i64 0, .string ByteArray.empty] := ⟨by kernel_rfl, _, Tryd.underlying72, by kernel_rfl⟩
instance : FieldOf Tryd.prog 72 0 0 3 := ⟨⟨_, _, Tryd.underlying72, rfl, rfl, rfl⟩, by decide +kernel⟩
instance : FieldOf Tryd.prog 72 1 1 9 := ⟨⟨_, _, Tryd.underlying72, rfl, rfl, rfl⟩, by decide +kernel⟩
instance : Und Tryd.prog 81 (.slice 63) := ⟨Tryd.underlying81⟩
instance : InfoOf Tryd.prog 81 := ⟨by kernel_rfl⟩
instance : AggOf Tryd.prog 81 false := ⟨by kernel_rfl⟩
instance : SzOf Tryd.prog 81 1 := ⟨by kernel_rfl⟩
instance : ZeroOf Tryd.prog 81 (.slice none 0 0) := ⟨by kernel_rfl⟩
instance : Und Tryd.prog 89 (.int .u64) := ⟨Tryd.underlying89⟩
instance : InfoOf Tryd.prog 89 := ⟨by kernel_rfl⟩
instance : AggOf Tryd.prog 89 false := ⟨by kernel_rfl⟩
instance : SzOf Tryd.prog 89 1 := ⟨by kernel_rfl⟩
instance : ZeroOf Tryd.prog 89 (.int .u64 0) := ⟨by kernel_rfl⟩
instance : Und Tryd.prog 91 (.int .u32) := ⟨Tryd.underlying91⟩
instance : InfoOf Tryd.prog 91 := ⟨by kernel_rfl⟩
instance : AggOf Tryd.prog 91 false := ⟨by kernel_rfl⟩
instance : SzOf Tryd.prog 91 1 := ⟨by kernel_rfl⟩
instance : ZeroOf Tryd.prog 91 (.int .u32 0) := ⟨by kernel_rfl⟩
instance : InfoOf Tryd.prog 99 := ⟨by kernel_rfl⟩
instance : AggOf Tryd.prog 99 true := ⟨by kernel_rfl⟩
instance : SzOf Tryd.prog 99 256 := ⟨by kernel_rfl⟩
instance : Und Tryd.prog 104 (.slice 91) := ⟨Tryd.underlying104⟩
instance : InfoOf Tryd.prog 104 := ⟨by kernel_rfl⟩
instance : AggOf Tryd.prog 104 false := ⟨by kernel_rfl⟩
instance : SzOf Tryd.prog 104 1 := ⟨by kernel_rfl⟩
instance : ZeroOf Tryd.prog 104 (.slice none 0 0) := ⟨by kernel_rfl⟩
instance : Elt Tryd.prog 104 91 (.int .u32 0) 4 := ⟨Tryd.underlying104, by kernel_rfl, by kernel_rfl, by kernel_rfl, by kernel_rfl, by kernel_rfl, rfl, rfl, by kernel_rfl⟩
instance : Und Tryd.prog 105 (.pointer 107) := ⟨Tryd.underlying105⟩
instance : InfoOf Tryd.prog 105 := ⟨by kernel_rfl⟩
instance : AggOf Tryd.prog 105 false := ⟨by kernel_rfl⟩
instance : SzOf Tryd.prog 105 1 := ⟨by kernel_rfl⟩
instance : ZeroOf Tryd.prog 105 (.pointer none) := ⟨by kernel_rfl⟩
instance : InfoOf Tryd.prog 107 := ⟨by kernel_rfl⟩
instance : AggOf Tryd.prog 107 true := ⟨by kernel_rfl⟩
instance : SzOf Tryd.prog 107 2 := ⟨by kernel_rfl⟩
instance : StructOf Tryd.prog 107 [.pointer none, .slice none 0 0] := ⟨by kernel_rfl, _, Tryd.underlying107, by kernel_rfl⟩
instance : FieldOf Tryd.prog 107 0 0 105 := ⟨⟨_, _, Tryd.underlying107, rfl, rfl, rfl⟩, by decide +kernel⟩
instance : FieldOf Tryd.prog 107 1 1 52 := ⟨⟨_, _, Tryd.underlying107, rfl, rfl, rfl⟩, by decide +kernel⟩
instance : Und Tryd.prog 120 (.pointer 5) := ⟨Tryd.underlying120⟩
instance : InfoOf Tryd.prog 120 := ⟨by kernel_rfl⟩
instance : AggOf Tryd.prog 120 false := ⟨by kernel_rfl⟩
instance : SzOf Tryd.prog 120 1 := ⟨by kernel_rfl⟩
instance : ZeroOf Tryd.prog 120 (.pointer none) := ⟨by kernel_rfl⟩
instance : Und Tryd.prog 123 (.int .u64) := ⟨Tryd.underlying123⟩
instance : InfoOf Tryd.prog 123 := ⟨by kernel_rfl⟩
instance : AggOf Tryd.prog 123 false := ⟨by kernel_rfl⟩
instance : SzOf Tryd.prog 123 1 := ⟨by kernel_rfl⟩
instance : ZeroOf Tryd.prog 123 (.int .u64 0) := ⟨by kernel_rfl⟩
instance : InfoOf Tryd.prog 130 := ⟨by kernel_rfl⟩
instance : AggOf Tryd.prog 130 true := ⟨by kernel_rfl⟩
instance : SzOf Tryd.prog 130 256 := ⟨by kernel_rfl⟩
instance : InfoOf Tryd.prog 132 := ⟨by kernel_rfl⟩
instance : AggOf Tryd.prog 132 true := ⟨by kernel_rfl⟩
instance : SzOf Tryd.prog 132 2 := ⟨by kernel_rfl⟩
instance : StructOf Tryd.prog 132 [.int .u8 0, .int .u8 0] := ⟨by kernel_rfl, _, Tryd.underlying132, by kernel_rfl⟩
instance : FieldOf Tryd.prog 132 0 0 5 := ⟨⟨_, _, Tryd.underlying132, rfl, rfl, rfl⟩, by decide +kernel⟩
instance : FieldOf Tryd.prog 132 1 1 5 := ⟨⟨_, _, Tryd.underlying132, rfl, rfl, rfl⟩, by decide +kernel⟩
instance : InfoOf Tryd.prog 133 := ⟨by kernel_rfl⟩
instance : AggOf Tryd.prog 133 true := ⟨by kernel_rfl⟩
instance : SzOf Tryd.prog 133 32 := ⟨by kernel_rfl⟩
end Go.AM.G
set_option linter.unusedVariables false
set_option linter.unusedSimpArgs false
namespace Go.AM
variable {α β R : Type} {P : Program}
section
variable {t e : TypeId} {z : Value} {sz : Nat}
def BAcc (e : TypeId) (H0 B0 B : AH) (L : List (Nat × Blk)) (H : AH) (v : Value) (ds : List Nat) : Prop :=
  (ds = [] ∧ (v = .slice none 0 0) ∧ St H0 B0 B L H) ∨
  (∃ b, v = sl b 0 ds.length (ds.length + 1) ∧ St H0 B0 B ((b, ⟨ds.map u8, e, .buf⟩) :: L) H)
theorem BAcc.nil {H0 B0 B L H} (hS : St H0 B0 B L H) : BAcc e H0 B0 B L H (.slice none 0 0) [] := .inl ⟨rfl, rfl, hS⟩
theorem BAcc.st {H0 B0 B L H v ds} (h : BAcc e H0 B0 B L H v ds) : St H0 B0 B L H := by
  rcases h with ⟨_, _, hS⟩ | ⟨b, _, hS⟩
  · exact hS
  · exact hS.drop1
theorem BAcc.cell {H0 B0 B L H v ds} (h : BAcc e H0 B0 B L H v ds) : IsCell v := by
  rcases h with ⟨_, rfl, _⟩ | ⟨b, rfl, _⟩ <;> exact inferInstance
theorem BAcc.apS {H0 B0 B : AH} {L : List (Nat × Blk)} {H : AH} {v : Value} {ds ns : List Nat} {bytes : Nat} (h : BAcc e H0 B0 B L H v ds) (hl : (ds.length + ns.length) * bytes ≤ 140737488355328 ∧ ds.length + ns.length ≤ 9223372036854775807) :
    ∃ v' H' B', AM.apS .buf 1 bytes e H v ns.length (ns.map u8) = some (v', H') ∧ MoC B B' ∧ BAcc e H0 B0 B' L H' v' (ds ++ ns) := by
  by_cases hn : ns = []
  · subst hn
    refine ⟨v, H, B, ?_, ⟨Mo.refl B⟩, by rw [List.append_nil]; exact h⟩
    rcases h with ⟨_, rfl, _⟩ | ⟨b, rfl, _⟩ <;> rfl
  have hn' : ns.length ≠ 0 := fun e => hn (List.length_eq_zero_iff.mp e)
  rcases h with ⟨rfl, rfl, hS⟩ | ⟨b, rfl, hS⟩
  · obtain ⟨B', hm1, hS'⟩ := hS.mkB (ns.map u8) e .buf
    have hl2 : ns.length * bytes ≤ 140737488355328 ∧ ns.length ≤ 9223372036854775807 := by simpa using hl
    refine ⟨sl H.length 0 ns.length (ns.length + 1), _, B', ?_, ⟨hm1⟩, .inr ⟨H.length, ?_, hS'⟩⟩
    · simp only [AM.apS, if_neg hn', if_pos hl2]
    · rw [List.nil_append]
  · have hb := hS.get (.head _)
    obtain ⟨B', hm1, hS'⟩ := hS.kill.mkB (ds.map u8 ++ ns.map u8) e .buf
    rw [length_kill] at hS'
    have e1 : (ds.map u8).length = ds.length := List.length_map ..
    refine ⟨sl H.length 0 (ds.length + ns.length) (ds.length + ns.length + 1), _, B', ?_, ⟨hm1⟩, .inr ⟨H.length, ?_, by rw [List.map_append]; exact hS'⟩⟩
    · simp only [AM.apS, sl, if_neg hn', hb, Option.bind_some, rdN, Nat.mul_one, Nat.zero_add, e1, Nat.le_refl, if_true, List.drop_zero, hl, and_self]
      rw [if_neg (by omega)]
      have e2 : (ds.map u8).take ds.length = ds.map u8 := List.take_of_length_le (by omega)
      rw [e2]
    · rw [List.length_append]
/-- One more byte. -/
theorem BAcc.push {H0 B0 B : AH} {L : List (Nat × Blk)} {H : AH} {v : Value} {ds : List Nat} {d : Nat} {f : Nat → Nat → Value → AH → Option R} {Q : R → Prop} [hE : Elt P t e (.int .u8 0) sz] (h : BAcc e H0 B0 B L H v ds)
    (hl : (ds.length + 1) * sz ≤ 140737488355328 ∧ ds.length + 1 ≤ 9223372036854775807) (hk : ∀ v' B' H', MoC B B' → BAcc e H0 B0 B' L H' v' (ds ++ [d]) → Ev (fun k n => f k n v' H') Q) :
    Ev (fun k n => Go.AM.b2 (Go.AM.buildS P t H 1 [(0, u8 d)]) fun w h => Go.AM.b2 (Go.AM.ap P t t h v w) (f k n)) Q := by
  rcases h with ⟨rfl, rfl, hS⟩ | ⟨b, rfl, hS⟩
  · refine Ev.bsC (P := P) (t := t) (by decide) fun bw H1 hS1 => ?_
    have hx : Sc H1 (sl bw 0 1 1) ([d].map u8) := hS1.sc (.head _) (Nat.le_refl 1)
    obtain ⟨v', H', B', q1, q2, q3⟩ := BAcc.apS (e := e) (ns := [d]) (bytes := sz) (.inl ⟨rfl, rfl, hS1.drop1⟩) (by simpa using hl)
    refine Ev.prim2 ?_ (hk v' B' H' q2 q3)
    rw [ap_eq hE hE.U hx rfl]
    exact q1
  · refine Ev.bsC (P := P) (t := t) (by decide) fun bw H1 hS1 => ?_
    have hx : Sc H1 (sl bw 0 1 1) ([d].map u8) := hS1.sc (.head _) (Nat.le_refl 1)
    obtain ⟨v', H', B', q1, q2, q3⟩ := BAcc.apS (e := e) (ns := [d]) (bytes := sz) (.inr ⟨b, rfl, hS1.drop1⟩) hl
    refine Ev.prim2 ?_ (hk v' B' H' q2 q3)
    rw [ap_eq hE hE.U hx rfl]
    exact q1
/-- A string's bytes. -/
theorem BAcc.str {u : TypeId} {H0 B0 B : AH} {L : List (Nat × Blk)} {H : AH} {v : Value} {ds : List Nat} {l : List UInt8} {f : Nat → Nat → Value → AH → Option R} {Q : R → Prop} [hE : Elt P t e (.int .u8 0) 1] [hu : Und P u .string] (hs : szT P e = 1) (h : BAcc e H0 B0 B L H v ds)
    (hl : ds.length + l.length ≤ 140737488355328) (hb : byT P e = 1) (hk : ∀ v' B' H', MoC B B' → BAcc e H0 B0 B' L H' v' (ds ++ l.map UInt8.toNat) → Ev (fun k n => f k n v' H') Q) :
    Ev (fun k n => Go.AM.b2 (Go.AM.ap P t u H v (AM.str l)) (f k n)) Q := by
  obtain ⟨v', H', B', q1, q2, q3⟩ := h.apS (ns := l.map UInt8.toNat) (bytes := 1) (by rw [List.length_map]; omega)
  refine Ev.prim2 ?_ (hk v' B' H' q2 q3)
  rw [List.length_map] at q1
  unfold Go.AM.ap
  rw [hE.U, hu.eq]
  simp only [hE.Z, hE.K, Option.bind_some]
  rw [if_pos ⟨hs, by rw [hs]; exact size_cells hE.zn⟩]
  have e1 : lenOf (AM.str l) = some l.length := rfl
  have e2 : sliceCells (szT P e) H (AM.str l) l.length = some ((l.map UInt8.toNat).map u8) := by
    show (if l.length ≤ l.length then some ((cellsOfBytes ⟨l.toArray⟩).take l.length) else none) = _
    rw [if_pos (Nat.le_refl _)]
    congr 1
    unfold cellsOfBytes
    rw [List.take_of_length_le (by simp)]
    simp
  rw [e1, Option.bind_some, e2, Option.bind_some, if_pos (by simp [isCell]), hs, hb]
  exact q1
/-- What it says at last. -/
theorem BAcc.said {pt : TypeId} {H0 B0 B : AH} {L : List (Nat × Blk)} {H : AH} {v : Value} {ds : List Nat} (h : BAcc e H0 B0 B L H v ds) (hne : ds ≠ []) (hp : P.underlying pt = some (.pointer e)) (hs : szT P e = 1) (hl : ds.length ≤ 9223372036854775807) :
    ∃ p H', sdV v = some p ∧ usV P pt H p (i64 ds.length) = some (AM.str (ds.map fun n => UInt8.ofNat n), H') ∧ St H0 B0 B L H' ∧ H' = H := by
  rcases h with ⟨rfl, rfl, hS⟩ | ⟨b, rfl, hS⟩
  · exact absurd rfl hne
  · have hn : ds.length ≠ 0 := fun e => hne (List.length_eq_zero_iff.mp e)
    have hb := hS.get (.head _)
    refine ⟨ptr b 0, H, by simp only [sdV, sl, if_neg hn]; rfl, ?_, hS.drop1, rfl⟩
    have e0 : usV P pt H (ptr b 0) (i64 ds.length) = (match P.underlying pt with
        | some (.pointer e) =>
          (blk H b).bind fun k => if 0 < (ds.length : Int) ∧ (ds.length : Int) ≤ 9223372036854775807 ∧ (k.kind.wr || k.kind == .buf) = true ∧ k.elem = e ∧ szT P e = 1 then (rdN k 0 ((ds.length : Int)).toNat).bind fun cs => (bytesOf cs).map fun l => (.string ⟨l.toArray⟩, if k.kind = .buf then H else kill H b) else none
        | _ => none) := rfl
    rw [e0, hp]
    simp only [hb, Option.bind_some]
    rw [if_pos ⟨by omega, by omega, rfl, trivial, hs⟩]
    have e1 : rdN ⟨ds.map u8, e, .buf⟩ 0 ((ds.length : Int)).toNat = some (ds.map u8) := by
      unfold rdN
      rw [Int.toNat_natCast, if_pos (by simp), List.drop_zero, List.take_of_length_le (by simp)]
    rw [e1, Option.bind_some, bytesOf_map]
    rfl
theorem BAcc.upd {H0 B0 B : AH} {L L' : List (Nat × Blk)} {H : AH} {v : Value} {ds : List Nat} {b : Nat} {K : Blk} {cs : List Value} (h : BAcc e H0 B0 B L H v ds) (hu : Upd b K ⟨cs, K.elem, K.kind⟩ L L') : BAcc e H0 B0 B L' (put H b K cs) v ds := by
  rcases h with ⟨h1, hv, hS⟩ | ⟨b2, hv, hS⟩
  · exact .inl ⟨h1, hv, hS.put hu⟩
  · exact .inr ⟨b2, hv, hS.put (.tail _ hu)⟩
theorem BAcc.stC {t e' : TypeId} {H0 B0 B : AH} {L L' : List (Nat × Blk)} {H : AH} {v : Value} {ds : List Nat} {b off : Nat} {cs0 cs : List Value} {w : Value} {f : Nat → Nat → AH → Option R} {Q : R → Prop} (h : BAcc e H0 B0 B L H v ds) [hm : InL b ⟨cs0, e', .fix⟩ L] [hs : PrimEq (stK P t cs0 off w) cs]
    [hu : UpL b ⟨cs0, e', .fix⟩ ⟨cs, e', .fix⟩ L L'] (hk : ∀ H', BAcc e H0 B0 B L' H' v ds → Ev (fun k n => f k n H') Q) : Ev (fun k n => (Go.AM.st P t H (ptr b off) w).bind (f k n)) Q := by
  rcases h with ⟨h1, hv, hS⟩ | ⟨b2, hv, hS⟩
  · exact Ev.st hS hm.mem hs.eq rfl hu.upd fun H' hS' => hk H' (.inl ⟨h1, hv, hS'⟩)
  · exact Ev.st hS (.tail _ hm.mem) hs.eq rfl (.tail _ hu.upd) fun H' hS' => hk H' (.inr ⟨b2, hv, hS'⟩)
end
end Go.AM
set_option linter.unusedVariables false
set_option linter.unusedSimpArgs false
set_option maxRecDepth 100000
namespace Go.AM.G
open Go Go.AM Go.Proofs
attribute [local irreducible] run bin un ld st box newV mkS fldA fld ixA ix slc slc3 build buildS cv cvS ap cpy lenV gOp pickV b2 aIf aChk evalK resume iterD Option.bind

section
variable {H : AH}
theorem sum_bits {s : Value} {a b : Value} : ∀ (m i v : Nat), i + m = 8 → v < 4294967296 →
    Ev (fun k n => f57_L1 k s (u32 v) a b (i64 i) n H) (fun o => o = (.exit 2, f57_X_L1 s (u32 (crcBits m v)) a b, H)) := by
  intro m
  induction m with
  | zero =>
    intro i v hi hv
    refine Ev.succ (fun k n => f57_L1_succ k _ _ _ _ _ n H) ?_
    repeat (first | refine Ev.s ?_ | refine Ev.newC fun _ _ _ => ?_ | refine Ev.boxC fun _ _ _ => ?_ | refine Ev.stC fun _ _ => ?_ | refine Ev.sc (by omega) ?_ | refine Ev.scg (by omega) ?_)
    rw [decide_eq_false (by omega)]
    repeat (first | refine Ev.s ?_ | refine Ev.newC fun _ _ _ => ?_ | refine Ev.boxC fun _ _ _ => ?_ | refine Ev.stC fun _ _ => ?_ | refine Ev.sc (by omega) ?_ | refine Ev.scg (by omega) ?_)
    exact Ev.ret rfl
  | succ m ih =>
    intro i v hi hv
    have hb := crcBit_lt hv
    refine Ev.succ (fun k n => f57_L1_succ k _ _ _ _ _ n H) ?_
    repeat (first | refine Ev.s ?_ | refine Ev.newC fun _ _ _ => ?_ | refine Ev.boxC fun _ _ _ => ?_ | refine Ev.stC fun _ _ => ?_ | refine Ev.sc (by omega) ?_ | refine Ev.scg (by omega) ?_)
    rw [decide_eq_true (by omega)]
    repeat (first | refine Ev.s ?_ | refine Ev.newC fun _ _ _ => ?_ | refine Ev.boxC fun _ _ _ => ?_ | refine Ev.stC fun _ _ => ?_ | refine Ev.sc (by omega) ?_ | refine Ev.scg (by omega) ?_)
    refine crc_step hv ?_
    repeat (first | refine Ev.s ?_ | refine Ev.newC fun _ _ _ => ?_ | refine Ev.boxC fun _ _ _ => ?_ | refine Ev.stC fun _ _ => ?_ | refine Ev.sc (by omega) ?_ | refine Ev.scg (by omega) ?_)
    exact ih (i + 1) (crcBit v) (by omega) hb
theorem sum_loop {s : List UInt8} (hl : s.length < 9223372036854775808) : ∀ (m i v : Nat), i + m = s.length → v < 4294967296 →
    Ev (fun k n => f57_L0 k (str s) (u32 v) (i64 s.length) (i64 i) n H) (fun o => o = (.exit 0, f57_X_L0 (u32 (crcGo v (s.drop i))), H)) := by
  intro m
  induction m with
  | zero =>
    intro i v hi hv
    refine Ev.succ (fun k n => f57_L0_succ k _ _ _ _ n H) ?_
    repeat (first | refine Ev.s ?_ | refine Ev.newC fun _ _ _ => ?_ | refine Ev.boxC fun _ _ _ => ?_ | refine Ev.stC fun _ _ => ?_ | refine Ev.sc (by omega) ?_ | refine Ev.scg (by omega) ?_)
    rw [decide_eq_false (by omega)]
    repeat (first | refine Ev.s ?_ | refine Ev.newC fun _ _ _ => ?_ | refine Ev.boxC fun _ _ _ => ?_ | refine Ev.stC fun _ _ => ?_ | refine Ev.sc (by omega) ?_ | refine Ev.scg (by omega) ?_)
    rw [List.drop_of_length_le (by omega)]
    exact Ev.ret rfl
  | succ m ih =>
    intro i v hi hv
    have hx := xorb_lt hv (s.getD i 0)
    have hd := drop_getD (s := s) (i := i) (by omega)
    refine Ev.succ (fun k n => f57_L0_succ k _ _ _ _ n H) ?_
    repeat (first | refine Ev.s ?_ | refine Ev.newC fun _ _ _ => ?_ | refine Ev.boxC fun _ _ _ => ?_ | refine Ev.stC fun _ _ => ?_ | refine Ev.sc (by omega) ?_ | refine Ev.scg (by omega) ?_)
    rw [decide_eq_true (by omega)]
    repeat (first | refine Ev.s ?_ | refine Ev.newC fun _ _ _ => ?_ | refine Ev.boxC fun _ _ _ => ?_ | refine Ev.stC fun _ _ => ?_ | refine Ev.sc (by omega) ?_ | refine Ev.scg (by omega) ?_)
    refine Ev.prim (ix_str i rfl (by omega)) ?_
    repeat (first | refine Ev.s ?_ | refine Ev.newC fun _ _ _ => ?_ | refine Ev.boxC fun _ _ _ => ?_ | refine Ev.stC fun _ _ => ?_ | refine Ev.sc (by omega) ?_ | refine Ev.scg (by omega) ?_)
    rw [mod_two32]
    refine Ev.prim (xorW ⟨hv, Nat.lt_trans (u8_lt _) (by decide)⟩) ?_
    refine Ev.bind (Ev.loop (sum_bits 8 0 _ rfl hx)) ?_
    rintro _ rfl
    refine Ev.eq (fun k n => f57_A1_x2 k n _ _ _ _ H) ?_
    repeat (first | refine Ev.s ?_ | refine Ev.newC fun _ _ _ => ?_ | refine Ev.boxC fun _ _ _ => ?_ | refine Ev.stC fun _ _ => ?_ | refine Ev.sc (by omega) ?_ | refine Ev.scg (by omega) ?_)
    rw [hd]
    exact ih (i + 1) _ (by omega) (crcBits_lt 8 hx)
theorem Sum_spec {s : List UInt8} (hl : s.length < 9223372036854775808) : Ev (fun k _ => rn k 57 [str s] H) (fun r => r = (u32 (crc s), H)) := by
  refine Ev.fn (fun k => f57_eq k _ H) ?_
  repeat (first | refine Ev.s ?_ | refine Ev.newC fun _ _ _ => ?_ | refine Ev.boxC fun _ _ _ => ?_ | refine Ev.stC fun _ _ => ?_ | refine Ev.sc (by omega) ?_ | refine Ev.scg (by omega) ?_)
  refine Ev.bind (Ev.loop (sum_loop hl s.length 0 4294967295 (Nat.zero_add _) (by decide))) ?_
  rintro _ rfl
  refine Ev.eq (fun k _ => f57_A0_x0 k _ H) ?_
  rw [List.drop_zero]
  refine Ev.prim (notW (crcGo_lt s (by decide))) ?_
  exact Ev.ret rfl
end
end Go.AM.G


set_option linter.unusedVariables false
set_option linter.unusedSimpArgs false
set_option maxRecDepth 100000
namespace Go.AM.G
open Go Go.AM Go.Proofs
attribute [local irreducible] run bin un ld st box newV mkS fldA fld ixA ix slc slc3 build buildS cv cvS ap cpy lenV gOp pickV b2 aIf aChk evalK resume iterD Option.bind

abbrev BldT : List TypeId := [107]
theorem copy_eq (k : Nat) (a0 : Value) (H : AH) : rn (k + 1) 77 [a0] H = gCopy Tryd.prog BldT [a0] H := by kernel_rfl
theorem copy_spec {H0 B0 B H : AH} {L : List (Nat × Blk)} {p : Nat} {c0 v : Value} {rest : List Value} {T : TypeId} {ds : List Nat} (hT : T ∈ BldT) (hl : rest.length + 2 = szT Tryd.prog T) (hc : c0 = .pointer none ∨ c0 = ptr p 0)
    (hA : BAcc 5 H0 B0 B ((p, ⟨c0 :: v :: rest, T, .fix⟩) :: L) H v ds) :
    Ev (fun k _ => rn k 77 [ptr p 0] H) (fun r => r.1 = .tuple #[] ∧ BAcc 5 H0 B0 B ((p, ⟨ptr p 0 :: v :: rest, T, .fix⟩) :: L) r.2 v ds) := by
  refine Ev.fn (fun k => copy_eq k _ H) ?_
  have hb := hA.st.get (.head _)
  rcases hc with rfl | rfl
  · have e : gCopy Tryd.prog BldT [ptr p 0] H = some (.tuple #[], put H p ⟨.pointer none :: v :: rest, T, .fix⟩ (ptr p 0 :: v :: rest)) := by
      show (blk H p).bind _ = _
      rw [hb]
      simp only [Option.bind_some]
      rw [if_pos ⟨trivial, hT, by simpa using hl⟩]
      rfl
    rw [e]
    exact Ev.ret ⟨rfl, hA.upd (.head _)⟩
  · have e : gCopy Tryd.prog BldT [ptr p 0] H = some (.tuple #[], H) := by
      show (blk H p).bind _ = _
      rw [hb]
      simp only [Option.bind_some]
      rw [if_pos ⟨trivial, hT, by simpa using hl⟩]
      exact if_pos rfl
    rw [e]
    exact Ev.ret ⟨rfl, hA⟩
theorem WriteString_spec {H0 B0 B H : AH} {L : List (Nat × Blk)} {p : Nat} {l : List UInt8} {c0 v : Value} {rest : List Value} {T : TypeId} {ds : List Nat} (hT : T ∈ BldT) (hl : rest.length + 2 = szT Tryd.prog T) (hc : c0 = .pointer none ∨ c0 = ptr p 0) (hd : ds.length + l.length ≤ 140737488355328)
    (hA : BAcc 5 H0 B0 B ((p, ⟨c0 :: v :: rest, T, .fix⟩) :: L) H v ds) :
    Ev (fun k _ => rn k 70 [ptr p 0, str l] H) (fun r => r.1 = .tuple #[i64 l.length, .nilIface] ∧ ∃ v' B', MoC B B' ∧ BAcc 5 H0 B0 B' ((p, ⟨ptr p 0 :: v' :: rest, T, .fix⟩) :: L) r.2 v' (ds ++ l.map UInt8.toNat)) := by
  refine Ev.fn (fun k => f70_eq k _ _ H) ?_
  refine Ev.b2 (copy_spec hT hl hc hA) fun v1 H1 h1 => ?_
  obtain ⟨h1, hA1⟩ := h1
  simp only at h1 hA1
  have hSt := hA1.st
  have hcell := hA1.cell
  repeat (first | refine Ev.s ?_ | refine Ev.newC fun _ _ _ => ?_ | refine Ev.boxC fun _ _ _ => ?_ | refine Ev.stC fun _ _ => ?_ | refine Ev.sc (by omega) ?_ | refine Ev.scg (by omega) ?_)
  refine hA1.str (by kernel_rfl) hd (by kernel_rfl) fun v' B' H' hm hA' => ?_
  have hcell' := hA'.cell
  refine Ev.s ?_
  refine Ev.s ?_
  refine BAcc.stC (P := Tryd.prog) (t := 52) (b := p) (off := 1) (w := v') hA' fun H2 hA2 => ?_
  refine Ev.s ?_
  exact Ev.ret ⟨rfl, v', B', hm, hA2⟩
theorem bacc_len {e t : TypeId} [hu : Und Tryd.prog t (.slice e)] {H0 B0 B H : AH} {L : List (Nat × Blk)} {v : Value} {ds : List Nat} (h : BAcc e H0 B0 B L H v ds) : lenV Tryd.prog t v = some (i64 ds.length) := by
  rcases h with ⟨rfl, rfl, _⟩ | ⟨b, rfl, _⟩
  · unfold lenV; rw [hu.eq]; rfl
  · unfold lenV; rw [hu.eq]; rfl
end Go.AM.G
set_option linter.unusedVariables false
set_option linter.unusedSimpArgs false
set_option maxRecDepth 100000
namespace Go.AM.G
open Go Go.AM Go.Proofs
attribute [local irreducible] run bin un ld st box newV mkS fldA fld ixA ix slc slc3 build buildS cv cvS ap cpy lenV gOp pickV b2 aIf aChk evalK resume iterD Option.bind

theorem WriteByte_spec {H0 B0 B H : AH} {L : List (Nat × Blk)} {p d : Nat} {c0 v : Value} {rest : List Value} {T : TypeId} {ds : List Nat} (hT : T ∈ BldT) (hl : rest.length + 2 = szT Tryd.prog T) (hc : c0 = .pointer none ∨ c0 = ptr p 0) (hd : ds.length < 140737488355328)
    (hA : BAcc 5 H0 B0 B ((p, ⟨c0 :: v :: rest, T, .fix⟩) :: L) H v ds) :
    Ev (fun k _ => rn k 66 [ptr p 0, u8 d] H) (fun r => r.1 = .nilIface ∧ ∃ v' B', MoC B B' ∧ BAcc 5 H0 B0 B' ((p, ⟨ptr p 0 :: v' :: rest, T, .fix⟩) :: L) r.2 v' (ds ++ [d])) := by
  refine Ev.fn (fun k => f66_eq k _ _ H) ?_
  refine Ev.b2 (copy_spec hT hl hc hA) fun v1 H1 h1 => ?_
  obtain ⟨h1, hA1⟩ := h1
  simp only at h1 hA1
  have hSt := hA1.st
  have hcell := hA1.cell
  repeat (first | refine Ev.s ?_ | refine Ev.newC fun _ _ _ => ?_ | refine Ev.boxC fun _ _ _ => ?_ | refine Ev.stC fun _ _ => ?_ | refine Ev.sc (by omega) ?_ | refine Ev.scg (by omega) ?_)
  refine hA1.push (by omega) fun v' B' H' hm hA' => ?_
  have hcell' := hA'.cell
  refine Ev.s ?_
  refine Ev.s ?_
  refine BAcc.stC (P := Tryd.prog) (t := 52) (b := p) (off := 1) (w := v') hA' fun H2 hA2 => ?_
  exact Ev.ret ⟨rfl, v', B', hm, hA2⟩
end Go.AM.G
set_option linter.unusedVariables false
namespace Go.AM.G
open Go Go.Proofs Go.RowKit
set_option maxHeartbeats 1000000 in
set_option maxRecDepth 100000 in
theorem copyCheck_used (b : Nat) (w : World) (h0 : w.cell? ⟨b, 0, none⟩ = some (.pointer (some ⟨b, 0, none⟩))) :
    Calls Tryd.prog 77 #[.pointer (some ⟨b, 0, none⟩)] w fun e w' => e = .returned (.tuple #[]) ∧ w' = w := by
  obtain ⟨j, hj⟩ := Option.isSome_iff_exists.1 (show (Tryd.prog.info? 107).isSome = true by kernel_rfl)
  have mixed : Tryd.prog.follows .mixedOrders = true := by kernel_rfl
  have t72 := Tryd.underlying107; have a72 := Tryd.isAgg107; have z72 := Tryd.sizeOf107; have v72 := Tryd.zeroValue107; have u72 := run_underlying t72
  have t70 := Tryd.underlying105; have a70 := Tryd.isAgg105; have z70 := Tryd.sizeOf105; have v70 := Tryd.zeroValue105; have u70 := run_underlying t70
  go_enter Tryd.func77, Tryd.ntmps77
  go_wp2
  rw [Lib.run_neq_ptr_same w _ t70 hj]
  go_wp2
  go_end0
  exact ⟨rfl, rfl⟩
set_option maxHeartbeats 1000000 in
set_option maxRecDepth 100000 in
theorem copyCheck_fresh (T n b : Nat) (hn : 0 < n) (hT : liesAt Tryd.prog Tryd.prog.depth T (n / Tryd.prog.cellsOf T) 0 107 1 = true) (w : World) (h0 : w.cell? ⟨b, 0, none⟩ = some (.pointer none)) (hsh : w.shape? b = some (T, n)) (hfz : w.frozen? ⟨b, 0, none⟩ = false) :
    Calls Tryd.prog 77 #[.pointer (some ⟨b, 0, none⟩)] w fun e w' => e = .returned (.tuple #[]) ∧ w' = w.setCell ⟨b, 0, none⟩ (.pointer (some ⟨b, 0, none⟩)) := by
  obtain ⟨j, hj⟩ := Option.isSome_iff_exists.1 (show (Tryd.prog.info? 107).isSome = true by kernel_rfl)
  have hc2 : Tryd.prog.cellsOf 107 = 2 := by kernel_rfl
  have hjs : j.size ≠ 0 := by
    unfold Program.cellsOf at hc2
    rw [hj] at hc2
    have : j.size = 2 := hc2
    omega
  have mixed : Tryd.prog.follows .mixedOrders = true := by kernel_rfl
  have t72 := Tryd.underlying107; have a72 := Tryd.isAgg107; have z72 := Tryd.sizeOf107; have v72 := Tryd.zeroValue107; have u72 := run_underlying t72
  have t70 := Tryd.underlying105; have a70 := Tryd.isAgg105; have z70 := Tryd.sizeOf105; have v70 := Tryd.zeroValue105; have u70 := run_underlying t70
  have tU := Tryd.underlying127; have aU := Tryd.isAgg127; have zU := Tryd.sizeOf127; have vU := Tryd.zeroValue127; have uU := run_underlying tU
  go_enter Tryd.func77, Tryd.ntmps77
  go_wp2
  rw [Lib.run_to_unsafe w ⟨b, 0, none⟩ t70 tU hj hjs hsh hn]
  simp only [Result.andThen]
  rw [Oper.upon_value]
  go_wp2
  rw [run_callFunc_extern Tryd.func84 (by kernel_rfl) (by kernel_rfl) (by kernel_rfl) (e := Extern.AbiNoEscape.same) (by kernel_rfl)]
  rw [Lib.run_noEscape]
  simp only [Result.andThen]
  rw [Oper.upon_value]
  go_wp2
  rw [Lib.run_from_unsafe w ⟨b, 0, none⟩ tU t70 hj hsh hT]
  simp only [Result.andThen]
  rw [Oper.upon_value]
  go_wp2
  go_end0
  exact ⟨rfl, rfl⟩
end Go.AM.G
set_option linter.unusedVariables false
namespace Go.AM.G
open Go Go.Proofs Go.RowKit
set_option maxHeartbeats 1000000 in
set_option maxRecDepth 100000 in
theorem grow_fresh (b n : Nat) (w : World) (c : Array Value) (T : TypeId) (hbk : w.heap[b]? = some (.cells c T (0, 0))) (h1 : c[1]? = some (.slice none 0 0)) (hn : n ≤ 140737488355328) :
    Calls Tryd.prog 80 #[.pointer (some ⟨b, 0, none⟩), .int .i64 n] w fun e w' => e = .returned (.tuple #[]) ∧ ∃ cs : Array Value,
      w'.heap = ((w.setCell ⟨b, 1, none⟩ (.slice (some ⟨w.heap.size, 0, none⟩) 0 cs.size)).alloc (.cells cs 5)).heap ∧ Below b w w' := by
  have t76 := Tryd.underlying52; have a76 := Tryd.isAgg52; have z76 := Tryd.sizeOf52; have v76 := Tryd.zeroValue52; have u76 := run_underlying t76
  have t98 := Tryd.underlying105; have a98 := Tryd.isAgg105; have z98 := Tryd.sizeOf105; have v98 := Tryd.zeroValue105; have u98 := run_underlying t98
  have t100 := Tryd.underlying107; have a100 := Tryd.isAgg107; have z100 := Tryd.sizeOf107; have v100 := Tryd.zeroValue107; have u100 := run_underlying t100
  have t3 := Tryd.underlying3; have a3 := Tryd.isAgg3; have z3 := Tryd.sizeOf3; have v3 := Tryd.zeroValue3; have u3 := run_underlying t3
  have t5 := Tryd.underlying5; have a5 := Tryd.isAgg5; have z5 := Tryd.sizeOf5; have v5 := Tryd.zeroValue5; have u5 := run_underlying t5
  obtain ⟨cs, hrun, hle, hmax⟩ := Lib.run_makeNoZero (P := Tryd.prog) w.drew #[3] 52 5 t76 n (by omega)
  have hw : IntKind.i64.wrap (IntKind.i64.wrap 0 + (n : Int)) = n := by
    rw [IntKind.wrap_i64, IntKind.wrap_i64]
    omega
  have hcall : (callFunc 85 #[.int .i64 (IntKind.i64.wrap (IntKind.i64.wrap 0 + (n : Int)))]).run Tryd.prog w.drew = .ok (.value (.slice (some ⟨w.drew.heap.size, 0, none⟩) n cs.size)) (w.drew.drew.drew.alloc (.cells cs 5)) := by
    rw [hw, run_callFunc_extern Tryd.func85 (by kernel_rfl) (by kernel_rfl) (by kernel_rfl) (e := Extern.BytealgMakeNoZero.makeNoZero #[3] #[52]) (by kernel_rfl), hrun]
    rfl
  have hlt : b < w.heap.size := (Array.getElem?_eq_some_iff.1 hbk).1
  have c1 : w.drew.cell? ⟨b, 1, none⟩ = some (.slice none 0 0) := by
    have : w.drew.heap[b]? = _ := hbk
    rw [Lib.cell_of_heap this]; exact h1
  have c2 : (w.alloc (.cells cs 5)).cell? ⟨b, 1, none⟩ = some (.slice none 0 0) := by
    have : (w.alloc (.cells cs 5)).heap[b]? = _ := (Lib.alloc_old w _ b hlt).trans hbk
    rw [Lib.cell_of_heap this]; exact h1
  have f2 : (w.alloc (.cells cs 5)).frozen? ⟨b, 1, none⟩ = false := Lib.frozen_of_heap ((Lib.alloc_old w _ b hlt).trans hbk) 1
  have hcopy : ∀ W : World, (Builtin.copy_ #[52, 52] 3 #[.slice (some ⟨w.heap.size, 0, none⟩) 0 cs.size, .slice none 0 0]).run Tryd.prog W = .ok (goInt 0) W :=
    fun W => run_copy_none W 52 52 3 5 _ _ 0 cs.size 0 0 t76 (by kernel_rfl) rfl
  have hbel : Below b w ((w.setCell ⟨b, 1, none⟩ (.slice (some ⟨w.heap.size, 0, none⟩) 0 cs.size)).alloc (.cells cs 5)) :=
    ((Below.refl b w).setCell (p := ⟨b, 1, none⟩) (Nat.le_refl _) _).alloc (by simp [World.setCell]; omega) _
  clear hw
  have mixed : Tryd.prog.follows .mixedOrders = true := by kernel_rfl
  go_enter Tryd.func80, Tryd.ntmps80
  go_wp2
  go_region_o
  all_goals (go_wp2; go_end0; first | exact ⟨rfl, cs, rfl, hbel.drew.drew.drew⟩ | exact ⟨rfl, cs, rfl, hbel.drew.drew⟩ | exact ⟨rfl, cs, rfl, hbel.drew.drew.drew.drew⟩)
end Go.AM.G
set_option linter.unusedVariables false
namespace Go.AM.G
open Go Go.Proofs Go.RowKit
theorem heap_two (w : World) (b : Nat) (c : Array Value) (T : TypeId) (u v : Value) (o : Obj) (hbk : w.heap[b]? = some (.cells c T (0, 0))) :
    (((w.setCell ⟨b, 0, none⟩ u).setCell ⟨b, 1, none⟩ v).alloc o).heap = ((w.alloc o).setRow b ((c.setIfInBounds 0 u).setIfInBounds 1 v)).heap := by
  have hlt := (Array.getElem?_eq_some_iff.1 hbk).1
  have hg := (Array.getElem?_eq_some_iff.1 hbk).2
  apply Array.ext_getElem?
  intro i
  unfold World.setCell World.setRow World.alloc
  simp only [Array.getElem?_modify, Array.getElem?_push, Array.size_modify]
  by_cases hi : i = w.heap.size
  · subst hi
    rw [if_pos rfl, if_pos rfl, if_neg (by omega)]
  · rw [if_neg hi, if_neg hi]
    by_cases hb : b = i
    · subst hb
      rw [if_pos rfl, if_pos rfl, if_pos rfl, hbk]; rfl
    · rw [if_neg hb, if_neg hb, if_neg hb]
set_option maxHeartbeats 1000000 in
set_option maxRecDepth 100000 in
theorem Grow_fresh (T b n : Nat) (hT2 : 2 ≤ szT Tryd.prog T) (hT : liesAt Tryd.prog Tryd.prog.depth T (szT Tryd.prog T / Tryd.prog.cellsOf T) 0 107 1 = true) (w : World) (c : Array Value) (hbk : w.heap[b]? = some (.cells c T (0, 0))) (hsz : c.size = szT Tryd.prog T) (h0 : c[0]? = some (.pointer none))
    (h1 : c[1]? = some (.slice none 0 0)) (hn0 : 0 < n) (hn : n ≤ 140737488355328) :
    Calls Tryd.prog 69 #[.pointer (some ⟨b, 0, none⟩), .int .i64 n] w fun e w' => e = .returned (.tuple #[]) ∧ ∃ cs : Array Value,
      w'.heap = ((w.alloc (.cells cs 5)).setRow b ((c.setIfInBounds 0 (.pointer (some ⟨b, 0, none⟩))).setIfInBounds 1 (.slice (some ⟨w.heap.size, 0, none⟩) 0 cs.size))).heap ∧ Below b w w' := by
  have t76 := Tryd.underlying52; have a76 := Tryd.isAgg52; have z76 := Tryd.sizeOf52; have v76 := Tryd.zeroValue52; have u76 := run_underlying t76
  have t98 := Tryd.underlying105; have a98 := Tryd.isAgg105; have z98 := Tryd.sizeOf105; have v98 := Tryd.zeroValue105; have u98 := run_underlying t98
  have t100 := Tryd.underlying107; have a100 := Tryd.isAgg107; have z100 := Tryd.sizeOf107; have v100 := Tryd.zeroValue107; have u100 := run_underlying t100
  have t3 := Tryd.underlying3; have a3 := Tryd.isAgg3; have z3 := Tryd.sizeOf3; have v3 := Tryd.zeroValue3; have u3 := run_underlying t3
  have hlt : b < w.heap.size := (Array.getElem?_eq_some_iff.1 hbk).1
  have hbk1 : (w.setCell ⟨b, 0, none⟩ (.pointer (some ⟨b, 0, none⟩))).heap[b]? = some (.cells (c.setIfInBounds 0 (.pointer (some ⟨b, 0, none⟩))) T (0, 0)) := by
    simp [World.setCell, Array.getElem?_modify, hbk]
  have h11 : (c.setIfInBounds 0 (.pointer (some ⟨b, 0, none⟩)))[1]? = some (.slice none 0 0) := by rw [Array.getElem?_setIfInBounds_ne (by decide)]; exact h1
  have c1 : (w.setCell ⟨b, 0, none⟩ (.pointer (some ⟨b, 0, none⟩))).cell? ⟨b, 1, none⟩ = some (.slice none 0 0) := by rw [Lib.cell_of_heap hbk1]; exact h11
  have c1' : (w.setCell ⟨b, 0, none⟩ (.pointer (some ⟨b, 0, none⟩))).drew.cell? ⟨b, 1, none⟩ = some (.slice none 0 0) := c1
  have hb1 : Below b w (w.setCell ⟨b, 0, none⟩ (.pointer (some ⟨b, 0, none⟩))) := (Below.refl b w).setCell (p := ⟨b, 0, none⟩) (Nat.le_refl _) _
  have hsize : (w.setCell ⟨b, 0, none⟩ (.pointer (some ⟨b, 0, none⟩))).heap.size = w.heap.size := by simp [World.setCell]
  have hs2 : (w.setCell ⟨b, 0, none⟩ (.pointer (some ⟨b, 0, none⟩))).drew.heap.size = w.heap.size := hsize
  have e95 : ∀ args w, (callFunc 77 args).run Tryd.prog w = .ok (.enter 77 args) w := enters_of Tryd.func77 (by kernel_rfl) rfl
  have e96 : ∀ args w, (callFunc 80 args).run Tryd.prog w = .ok (.enter 80 args) w := enters_of Tryd.func80 (by kernel_rfl) rfl
  have mixed : Tryd.prog.follows .mixedOrders = true := by kernel_rfl
  have hn' : ¬ ((n : Int) < 0) := by omega
  have hn2 : (0 : Int) < (n : Int) := by omega
  have hcc := copyCheck_fresh T (szT Tryd.prog T) b (by omega) hT w (by rw [Lib.cell_of_heap hbk]; exact h0) (by simp [World.shape?, hbk, hsz]) (Lib.frozen_of_heap hbk 0)
  have hgr := grow_fresh b n (w.setCell ⟨b, 0, none⟩ (.pointer (some ⟨b, 0, none⟩))).drew (c.setIfInBounds 0 (.pointer (some ⟨b, 0, none⟩))) T hbk1 h11 hn
  go_enter Tryd.func69, Tryd.ntmps69
  go_wp2_with (go_at_fn 77; refine hcc.mono ?_; rintro e w' ⟨rfl, rfl⟩)
  go_region_o
  all_goals go_wp2_with (go_at_fn 80; refine hgr.mono ?_; rintro e w' ⟨rfl, cs, h1, h2⟩)
  all_goals (go_end0; refine ⟨rfl, cs, ?_, hb1.drew.trans h2⟩; rw [hs2] at h1; exact h1.trans (by rw [← heap_two w b c T _ _ _ hbk]; rfl))
end Go.AM.G
set_option linter.unusedVariables false
set_option linter.unusedSimpArgs false
set_option maxRecDepth 100000
namespace Go.AM.G
open Go Go.AM Go.Proofs
attribute [local irreducible] run bin un ld st box newV mkS fldA fld ixA ix slc slc3 build buildS cv cvS ap cpy lenV gOp pickV b2 aIf aChk evalK resume iterD Option.bind

theorem mixed0 : (Tryd.prog).follows .mixedOrders = true := by kernel_rfl
theorem gv_ok : GivenOK Tryd.prog gv := by
  intro f g h
  have hgv : gv f = (if f = 77 then some (plain (gCopy Tryd.prog [107])) else if f = 69 then some (plain (gGrow Tryd.prog [107] 5))
    else if f = 42 then some (fun call n => runMid Tryd.prog call n (tbs 42) mText Tryd.f42) else if f = 12 then some (fun call n => runMid Tryd.prog call n (tbs 12) mCommit Tryd.f12) else none) := rfl
  rw [hgv] at h
  by_cases hf : f = 77
  · rw [if_pos hf] at h
    cases h
    subst hf
    refine plain_ok (gCopy_ok ⟨_, Tryd.func77, by decide +kernel, by kernel_rfl⟩ (fun T hT b w h0 hsh hfz => ?_) (fun b w h0 => copyCheck_used b w h0))
    simp only [List.mem_cons, List.not_mem_nil, or_false] at hT
    subst hT
    exact copyCheck_fresh _ _ b (by have : szT Tryd.prog 107 = 2 := by kernel_rfl
                                    omega) (by kernel_rfl) w h0 hsh hfz
  · rw [if_neg hf] at h
    by_cases hf : f = 69
    · rw [if_pos hf] at h
      cases h
      subst hf
      have s2 : szT Tryd.prog 107 = 2 := by kernel_rfl
      refine plain_ok (gGrow_ok ⟨_, Tryd.func69, by decide +kernel, by kernel_rfl⟩ (by kernel_rfl) (fun T hT => ?_) (fun T hT b n w c hbk hsz h0 h1 hn0 hn => ?_))
      · simp only [List.mem_cons, List.not_mem_nil, or_false] at hT
        subst hT; omega
      · simp only [List.mem_cons, List.not_mem_nil, or_false] at hT
        subst hT
        exact Grow_fresh _ b n (by omega) (by kernel_rfl) w c hbk hsz h0 h1 hn0 hn
    · rw [if_neg hf] at h
      by_cases hf : f = 42
      · rw [if_pos hf] at h
        cases h
        subst hf
        intro call n hc hd args H v H' hr
        refine runMid_sound hc hd mixed0 Tryd.func42 (fun c hb => RangesAt.nil ?_) (mText_ok hc hd mixed0) hr
        have hz : rgs (bodyOf Tryd.f42) = [] := by kernel_rfl
        have e : bodyOf Tryd.f42 = c := by unfold bodyOf; rw [hb]; rfl
        rw [← e]
        exact hz
      · rw [if_neg hf] at h
        by_cases hf : f = 12
        · rw [if_pos hf] at h
          cases h
          subst hf
          intro call n hc hd args H v H' hr
          refine runMid_sound hc hd mixed0 Tryd.func12 (fun c hb => RangesAt.nil ?_) (mCommit_ok hc hd mixed0) hr
          have hz : rgs (bodyOf Tryd.f12) = [] := by kernel_rfl
          have e : bodyOf Tryd.f12 = c := by unfold bodyOf; rw [hb]; rfl
          rw [← e]
          exact hz
        · rw [if_neg hf] at h
          cases h
end Go.AM.G
set_option linter.unusedVariables false
set_option linter.unusedSimpArgs false
set_option maxRecDepth 100000
namespace Go.AM.G
open Go Go.AM Go.Proofs
attribute [local irreducible] run bin un ld st box newV mkS fldA fld ixA ix slc slc3 build buildS cv cvS ap cpy lenV gOp pickV b2 aIf aChk evalK resume iterD Option.bind

theorem bld_sz : ([] : List Value).length + 2 = szT Tryd.prog 107 := by
  have : szT Tryd.prog 107 = 2 := by kernel_rfl
  rw [this]; rfl
theorem bldT_mem : 107 ∈ BldT := .head _
theorem String_same {H0 B0 B H : AH} {L : List (Nat × Blk)} {p : Nat} {c0 v : Value} {rest : List Value} {T : TypeId} {ds : List Nat} (hd : ds.length ≤ 140737488355328) (hne : ds ≠ [])
    (hA : BAcc 5 H0 B0 B ((p, ⟨c0 :: v :: rest, T, .fix⟩) :: L) H v ds) :
    Ev (fun k _ => rn k 67 [ptr p 0] H) (fun r => r = (str (ds.map fun n => UInt8.ofNat n), H)) := by
  refine Ev.fn (fun k => f67_eq k _ H) ?_
  have hSt := hA.st
  have hcell := hA.cell
  obtain ⟨q, H', q1, q2, q3, rfl⟩ := hA.said (P := Tryd.prog) (pt := 120) hne (by exact Tryd.underlying120) (by kernel_rfl) (by omega)
  have hlen := bacc_len (t := 52) hA
  repeat (first | refine Ev.s ?_ | refine Ev.newC fun _ _ _ => ?_ | refine Ev.boxC fun _ _ _ => ?_ | refine Ev.stC fun _ _ => ?_ | refine Ev.sc (by omega) ?_ | refine Ev.scg (by omega) ?_)
  refine Ev.prim q1 ?_
  repeat (first | refine Ev.s ?_ | refine Ev.newC fun _ _ _ => ?_ | refine Ev.boxC fun _ _ _ => ?_ | refine Ev.stC fun _ _ => ?_ | refine Ev.sc (by omega) ?_ | refine Ev.scg (by omega) ?_)
  refine Ev.prim hlen ?_
  refine Ev.prim2 q2 ?_
  exact Ev.ret rfl
section
variable {B B0 H0 H : AH} {L : List (Nat × Blk)}
theorem bytes_loop {p : Nat} {v : Value} {l : List Nat} (hll : l.length ≤ 1000000) :
    ∀ (m i : Nat) (B H : AH) (b : Value), i + m = l.length → FL B v u32 l → BAcc 5 H0 B0 B ((p, ⟨[if i = 0 then .pointer none else ptr p 0, b], 107, .fix⟩) :: L) H b ((l.take i).map (· % 256)) →
    Ev (fun k n => f53_L0 k (ptr p 0) v (i64 l.length) (i64 i) n H) (fun o => ∃ B' H' b' c, o = (.exit 0, f53_X_L0 (ptr p 0), H') ∧ MoC B B' ∧ BAcc 5 H0 B0 B' ((p, ⟨[c, b'], 107, .fix⟩) :: L) H' b' (l.map (· % 256))) := by
  intro m
  induction m with
  | zero =>
    intro i B H b hi hv hA
    refine Ev.succ (fun k n => f53_L0_succ k _ _ _ _ n H) ?_
    repeat (first | refine Ev.s ?_ | refine Ev.newC fun _ _ _ => ?_ | refine Ev.boxC fun _ _ _ => ?_ | refine Ev.stC fun _ _ => ?_ | refine Ev.sc (by omega) ?_ | refine Ev.scg (by omega) ?_)
    rw [decide_eq_false (by omega)]
    repeat (first | refine Ev.s ?_ | refine Ev.newC fun _ _ _ => ?_ | refine Ev.boxC fun _ _ _ => ?_ | refine Ev.stC fun _ _ => ?_ | refine Ev.sc (by omega) ?_ | refine Ev.scg (by omega) ?_)
    rw [List.take_of_length_le (by omega)] at hA
    exact Ev.ret ⟨B, H, b, _, rfl, ⟨Mo.refl B⟩, hA⟩
  | succ m ih =>
    intro i B H b hi hv hA
    obtain ⟨x, hx⟩ : ∃ x, l[i]? = some x := ⟨_, List.getElem?_eq_getElem (by omega)⟩
    have hSt := hA.st
    refine Ev.succ (fun k n => f53_L0_succ k _ _ _ _ n H) ?_
    repeat (first | refine Ev.s ?_ | refine Ev.newC fun _ _ _ => ?_ | refine Ev.boxC fun _ _ _ => ?_ | refine Ev.stC fun _ _ => ?_ | refine Ev.sc (by omega) ?_ | refine Ev.scg (by omega) ?_)
    rw [decide_eq_true (by omega)]
    repeat (first | refine Ev.s ?_ | refine Ev.newC fun _ _ _ => ?_ | refine Ev.boxC fun _ _ _ => ?_ | refine Ev.stC fun _ _ => ?_ | refine Ev.sc (by omega) ?_ | refine Ev.scg (by omega) ?_)
    refine Ev.ixF i rfl hx fun q hq => ?_
    repeat (first | refine Ev.s ?_ | refine Ev.newC fun _ _ _ => ?_ | refine Ev.boxC fun _ _ _ => ?_ | refine Ev.stC fun _ _ => ?_ | refine Ev.sc (by omega) ?_ | refine Ev.scg (by omega) ?_)
    refine Ev.b2 (WriteByte_spec (d := x % 256) (rest := []) bldT_mem bld_sz (by split <;> simp) (by rw [List.length_map, List.length_take]; omega) hA) ?_
    rintro _ H1 ⟨rfl, b1, B1, hm1, hA1⟩
    dsimp only at hA1
    clear hA hSt
    have e1 : (l.take i).map (· % 256) ++ [x % 256] = (l.take (i + 1)).map (· % 256) := by
      rw [List.take_add_one, hx, List.map_append]; rfl
    rw [e1] at hA1
    have hSt := hA1.st
    repeat (first | refine Ev.s ?_ | refine Ev.newC fun _ _ _ => ?_ | refine Ev.boxC fun _ _ _ => ?_ | refine Ev.stC fun _ _ => ?_ | refine Ev.sc (by omega) ?_ | refine Ev.scg (by omega) ?_)
    refine (ih (i + 1) B1 H1 b1 (by omega) (hv.mono hm1.mo) (by rw [if_neg (by omega)]; exact hA1)).mono ?_
    rintro o ⟨B', H', b', c, h1, h2, h3⟩
    exact ⟨B', H', b', c, h1, ⟨hm1.mo.trans h2.mo⟩, h3⟩
theorem bytes_spec {v : Value} {l : List Nat} (hv : FL B v u32 l) (hne : l ≠ []) (hll : l.length ≤ 1000000) (hS : St H0 B0 B L H) :
    Ev (fun k _ => rn k 53 [v] H) (fun r => r.1 = str (l.map UInt8.ofNat) ∧ ∃ B', MoC B B' ∧ St H0 B0 B' L r.2) := by
  refine Ev.fn (fun k => f53_eq k _ H) ?_
  refine Ev.newC fun p H1 hS1 => ?_
  clear hS
  repeat (first | refine Ev.s ?_ | refine Ev.newC fun _ _ _ => ?_ | refine Ev.boxC fun _ _ _ => ?_ | refine Ev.stC fun _ _ => ?_ | refine Ev.sc (by omega) ?_ | refine Ev.scg (by omega) ?_)
  refine Ev.bind (Ev.loop (bytes_loop hll l.length 0 B H1 (.slice none 0 0) (Nat.zero_add _) hv (BAcc.nil hS1))) ?_
  rintro _ ⟨B2, H2, b2, c, rfl, hm2, hA2⟩
  refine Ev.eq (fun k _ => f53_A0_x0 k _ H2) ?_
  refine Ev.b2 (String_same (by rw [List.length_map]; omega) (by simpa using hne) hA2) ?_
  rintro _ _ ⟨rfl, rfl⟩
  refine Ev.ret ⟨?_, B2, hm2, hA2.st.drop1⟩
  dsimp only
  congr 1
  rw [List.map_map]
  apply List.map_congr_left
  intro a _
  show UInt8.ofNat (a % 256) = UInt8.ofNat a
  apply UInt8.toNat_inj.1
  rw [UInt8.toNat_ofNat', UInt8.toNat_ofNat']
  omega
theorem psum_spec {s : List UInt8} (hl : s.length < 9223372036854775808) (hS : St H0 B0 B L H) :
    Ev (fun k _ => rn k 50 [str s] H) (fun r => r.1 = str (le4 (crc s)) ∧ ∃ B', MoC B B' ∧ St H0 B0 B' L r.2) := by
  refine Ev.fn (fun k => f50_eq k _ H) ?_
  refine Ev.b2 (Sum_spec hl) ?_
  rintro _ _ ⟨rfl, rfl⟩
  have hc := crc_lt s
  generalize crc s = n at hc
  refine Ev.prim (shrN (a := n) (b := 8) (by decide)) ?_
  refine Ev.prim (shrN (a := n) (b := 16) (by decide)) ?_
  refine Ev.prim (shrN (a := n) (b := 24) (by decide)) ?_
  refine Ev.bsC (P := Tryd.prog) (t := 104) (hS := hS) (by decide) fun b H1 hS1 => ?_
  obtain ⟨B1, hm1, hF, hS2⟩ := St.flz (l := [n, n / 2 ^ 8, n / 2 ^ 16, n / 2 ^ 24]) (f := u32) (cap := 4) hS1 (Nat.le_refl _)
  refine Ev.b2 (bytes_spec hF (by simp) (by simp) hS2) ?_
  rintro _ H2 ⟨rfl, B2, hm2, hS3⟩
  dsimp only at hS3
  exact Ev.ret ⟨rfl, B2, ⟨hm1.mo.trans hm2.mo⟩, hS3⟩
end
end Go.AM.G
set_option linter.unusedVariables false
set_option linter.unusedSimpArgs false
set_option maxRecDepth 100000
namespace Go.AM.G
open Go Go.AM Go.Proofs
attribute [local irreducible] run bin un ld st box newV mkS fldA fld ixA ix slc slc3 build buildS cv cvS ap cpy lenV gOp pickV b2 aIf aChk evalK resume iterD Option.bind

theorem grow_eq (k : Nat) (a0 a1 : Value) (H : AH) : rn (k + 1) 69 [a0, a1] H = gGrow Tryd.prog BldT 5 [a0, a1] H := by kernel_rfl
theorem Grow_spec {H0 B0 B H : AH} {L : List (Nat × Blk)} {p n : Nat} {rest : List Value} {T : TypeId} (hT : T ∈ BldT) (hl : rest.length + 2 = szT Tryd.prog T) (hn0 : 0 < n) (hn : n ≤ 140737488355328) (hS : St H0 B0 B ((p, ⟨.pointer none :: .slice none 0 0 :: rest, T, .fix⟩) :: L) H) :
    Ev (fun k _ => rn k 69 [ptr p 0, i64 n] H) (fun r => r.1 = .tuple #[] ∧ ∃ b' B', MoC B B' ∧ BAcc 5 H0 B0 B' ((p, ⟨ptr p 0 :: sl b' 0 0 1 :: rest, T, .fix⟩) :: L) r.2 (sl b' 0 0 1) []) := by
  refine Ev.fn (fun k => grow_eq k _ _ H) ?_
  have hb := hS.get (.head _)
  obtain ⟨B', hm, hS'⟩ := hS.mkB [] 5 .buf
  have e : gGrow Tryd.prog BldT 5 [ptr p 0, i64 n] H = some (.tuple #[], put (mkB H [] 5 .buf) p ⟨.pointer none :: .slice none 0 0 :: rest, T, .fix⟩ (ptr p 0 :: sl H.length 0 0 1 :: rest)) := by
    show (blk H p).bind _ = _
    rw [hb]
    simp only [Option.bind_some]
    rw [if_pos ⟨⟨trivial, hT, by simpa using hl⟩, by omega, by omega⟩]
    rfl
  rw [e]
  exact Ev.ret ⟨rfl, H.length, B', ⟨hm⟩, .inr ⟨H.length, rfl, hS'.put (.tail _ (.head _))⟩⟩
theorem Len_spec {H0 B0 B H : AH} {L : List (Nat × Blk)} {p : Nat} {c0 v : Value} {rest : List Value} {T : TypeId} {ds : List Nat}
    (hA : BAcc 5 H0 B0 B ((p, ⟨c0 :: v :: rest, T, .fix⟩) :: L) H v ds) :
    Ev (fun k _ => rn k 71 [ptr p 0] H) (fun r => r = (i64 ds.length, H)) := by
  refine Ev.fn (fun k => f71_eq k _ H) ?_
  have hSt := hA.st
  have hcell := hA.cell
  have hlen := bacc_len (t := 52) hA
  repeat (first | refine Ev.s ?_ | refine Ev.newC fun _ _ _ => ?_ | refine Ev.boxC fun _ _ _ => ?_ | refine Ev.stC fun _ _ => ?_ | refine Ev.sc (by omega) ?_ | refine Ev.scg (by omega) ?_)
  refine Ev.prim hlen ?_
  exact Ev.ret rfl
section
variable {B B0 H0 H : AH} {L : List (Nat × Blk)}
theorem rep_u8 (n : Nat) : (List.replicate n (0 : UInt8)).map UInt8.toNat = List.replicate n 0 := by simp
theorem rep_loop {p n : Nat} (hn : n ≤ 1000000) : ∀ (m j : Nat) (B H : AH) (v : Value), n - j ≤ m → 1 ≤ j → j ≤ n → BAcc 5 H0 B0 B ((p, ⟨[ptr p 0, v], 107, .fix⟩) :: L) H v (List.replicate j 0) →
    Ev (fun k K => f54_L0 k (i64 n) (i64 n) (ptr p 0) K H) (fun o => ∃ B' H' v', o = (.exit 3, f54_X_L0 (ptr p 0), H') ∧ MoC B B' ∧ BAcc 5 H0 B0 B' ((p, ⟨[ptr p 0, v'], 107, .fix⟩) :: L) H' v' (List.replicate n 0)) := by
  have done : ∀ (B H : AH) (v : Value), BAcc 5 H0 B0 B ((p, ⟨[ptr p 0, v], 107, .fix⟩) :: L) H v (List.replicate n 0) →
      Ev (fun k K => f54_L0 k (i64 n) (i64 n) (ptr p 0) K H) (fun o => ∃ B' H' v', o = (.exit 3, f54_X_L0 (ptr p 0), H') ∧ MoC B B' ∧ BAcc 5 H0 B0 B' ((p, ⟨[ptr p 0, v'], 107, .fix⟩) :: L) H' v' (List.replicate n 0)) := by
    intro B H v hA
    refine Ev.succ (fun k K => f54_L0_succ k _ _ _ K H) ?_
    refine Ev.b2 (Len_spec hA) ?_
    rintro _ _ ⟨rfl, rfl⟩
    rw [List.length_replicate]
    repeat (first | refine Ev.s ?_ | refine Ev.newC fun _ _ _ => ?_ | refine Ev.boxC fun _ _ _ => ?_ | refine Ev.stC fun _ _ => ?_ | refine Ev.sc (by omega) ?_ | refine Ev.scg (by omega) ?_)
    rw [decide_eq_false (by omega)]
    repeat (first | refine Ev.s ?_ | refine Ev.newC fun _ _ _ => ?_ | refine Ev.boxC fun _ _ _ => ?_ | refine Ev.stC fun _ _ => ?_ | refine Ev.sc (by omega) ?_ | refine Ev.scg (by omega) ?_)
    exact Ev.ret ⟨B, H, v, rfl, ⟨Mo.refl B⟩, hA⟩
  intro m
  induction m with
  | zero =>
    intro j B H v hm hj hjn hA
    obtain rfl : j = n := by omega
    exact done B H v hA
  | succ m ih =>
    intro j B H v hm hj hjn hA
    by_cases hlt : j < n
    · refine Ev.succ (fun k K => f54_L0_succ k _ _ _ K H) ?_
      refine Ev.b2 (Len_spec hA) ?_
      rintro _ _ ⟨rfl, rfl⟩
      rw [List.length_replicate]
      repeat (first | refine Ev.s ?_ | refine Ev.newC fun _ _ _ => ?_ | refine Ev.boxC fun _ _ _ => ?_ | refine Ev.stC fun _ _ => ?_ | refine Ev.sc (by omega) ?_ | refine Ev.scg (by omega) ?_)
      rw [decide_eq_true hlt]
      repeat (first | refine Ev.s ?_ | refine Ev.newC fun _ _ _ => ?_ | refine Ev.boxC fun _ _ _ => ?_ | refine Ev.stC fun _ _ => ?_ | refine Ev.sc (by omega) ?_ | refine Ev.scg (by omega) ?_)
      refine Ev.b2 (Len_spec hA) ?_
      rintro _ _ ⟨rfl, rfl⟩
      rw [List.length_replicate]
      repeat (first | refine Ev.s ?_ | refine Ev.newC fun _ _ _ => ?_ | refine Ev.boxC fun _ _ _ => ?_ | refine Ev.stC fun _ _ => ?_ | refine Ev.sc (by omega) ?_ | refine Ev.scg (by omega) ?_)
      refine Ev.b2 (Len_spec hA) ?_
      rintro _ _ ⟨rfl, rfl⟩
      rw [List.length_replicate]
      refine Ev.prim (show fold1 minV [i64 (n - j), i64 j, i64 n] = some (i64 (min (min (n - j) j) n)) by
        show (minV (i64 (n - j)) (i64 j)).bind (fun a => fold1 minV [a, i64 n]) = _
        have h1 := min_i64 (a := n - j) (b := j)
        have h2 : fold1 minV [i64 (n - j), i64 j] = minV (i64 (n - j)) (i64 j) := by
          show (minV _ _).bind (fun a => some a) = _
          cases minV (i64 (n - j)) (i64 j) <;> simp
        rw [← h2, h1, Option.bind_some, min_i64]) ?_
      obtain ⟨c, hc⟩ : ∃ c, c = min (min (n - j) j) n := ⟨_, rfl⟩
      rw [← hc]
      refine Ev.b2 (String_same (by rw [List.length_replicate]; omega) (by intro h; have := congrArg List.length h; simp at this; omega) hA) ?_
      rintro _ _ ⟨rfl, rfl⟩
      rw [show (List.replicate j 0).map (fun n => UInt8.ofNat n) = List.replicate j 0 by simp]
      refine Ev.prim (slc_strT (l := List.replicate j 0) (i := c) (by rw [List.length_replicate]; omega)) ?_
      rw [List.take_replicate, Nat.min_eq_left (by omega)]
      refine Ev.b2 (WriteString_spec (l := List.replicate c 0) (rest := []) bldT_mem bld_sz (.inr rfl) (by rw [List.length_replicate, List.length_replicate]; omega) hA) ?_
      rintro _ H1 ⟨rfl, v1, B1, hm1, hA1⟩
      dsimp only at hA1
      rw [rep_u8, List.replicate_append_replicate] at hA1
      refine (ih (j + c) B1 H1 v1 (by omega) (by omega) (by omega) hA1).mono ?_
      rintro o ⟨B', H', v', h1, h2, h3⟩
      exact ⟨B', H', v', h1, ⟨hm1.mo.trans h2.mo⟩, h3⟩
    · obtain rfl : j = n := by omega
      exact done B H v hA
theorem andQ32 {t : TypeId} {a : Nat} : bin Tryd.prog .and t (u64 a) (.int .u64 4294967295) = some (u64 (a % 4294967296)) := by
  rw [show (4294967295 : Int) = ((4294967295 : Nat) : Int) from rfl, bin_and, BitVec.ofInt_natCast, BitVec.ofInt_natCast, BitVec.toNat_and, BitVec.toNat_ofNat, BitVec.toNat_ofNat]
  rw [show IntKind.u64.bits = 64 from rfl, show 4294967295 % 2 ^ 64 = 2 ^ 32 - 1 from rfl, Nat.and_two_pow_sub_one_eq_mod, wrapu64]
  congr 2
  omega
theorem Mul_spec {n : Nat} (hn : n ≤ 1000000) : Ev (fun k _ => rn k 68 [u64 1, u64 n] H) (fun r => r = (.tuple #[u64 0, u64 n], H)) := by
  refine Ev.fn (fun k => f68_eq k _ _ H) ?_
  have key : Ev (fun k _ => rn k 79 [u64 1, u64 n] H) (fun r => r = (.tuple #[u64 0, u64 n], H)) := by
    refine Ev.fn (fun k => f79_eq k _ _ H) ?_
    refine Ev.prim andQ32 ?_
    refine Ev.prim (shrN (a := 1) (b := 32) (by decide)) ?_
    refine Ev.prim andQ32 ?_
    refine Ev.prim (shrN (a := n) (b := 32) (by decide)) ?_
    rw [show 1 % 4294967296 = 1 from rfl, show 1 / 2 ^ 32 = 0 from rfl, Nat.mod_eq_of_lt (show n < 4294967296 by omega), show n / 2 ^ 32 = 0 by omega]
    refine Ev.prim (mulQ (by omega)) ?_
    refine Ev.prim (mulQ (by omega)) ?_
    rw [Nat.one_mul, Nat.zero_mul]
    refine Ev.prim (shrN (a := n) (b := 32) (by decide)) ?_
    rw [show n / 2 ^ 32 = 0 by omega]
    refine Ev.prim (addQ (by omega)) ?_
    refine Ev.prim andQ32 ?_
    refine Ev.prim (shrN (a := 0) (b := 32) (by decide)) ?_
    refine Ev.prim (mulQ (by omega)) ?_
    refine Ev.prim (addQ (by omega)) ?_
    refine Ev.prim (mulQ (by omega)) ?_
    refine Ev.prim (addQ (by omega)) ?_
    refine Ev.prim (shrN (b := 32) (by decide)) ?_
    refine Ev.prim (addQ (by omega)) ?_
    refine Ev.prim (mulQ (by omega)) ?_
    rw [Nat.one_mul]
    exact Ev.ret (by first | rfl | (rw [Nat.one_mul]))
  refine Ev.b2 key ?_
  rintro _ _ ⟨rfl, rfl⟩
  repeat (first | refine Ev.s ?_ | refine Ev.newC fun _ _ _ => ?_ | refine Ev.boxC fun _ _ _ => ?_ | refine Ev.stC fun _ _ => ?_ | refine Ev.sc (by omega) ?_ | refine Ev.scg (by omega) ?_)
  exact Ev.ret rfl
theorem Repeat_spec {n : Nat} (hn : n ≤ 8192) (hS : St H0 B0 B L H) :
    Ev (fun k _ => rn k 54 [str [0], i64 n] H) (fun r => r.1 = str (List.replicate n 0) ∧ ∃ B', MoC B B' ∧ St H0 B0 B' L r.2) := by
  refine Ev.fn (fun k => f54_eq k _ _ H) ?_
  repeat (first | refine Ev.s ?_ | refine Ev.newC fun _ _ _ => ?_ | refine Ev.boxC fun _ _ _ => ?_ | refine Ev.stC fun _ _ => ?_ | refine Ev.sc (by omega) ?_ | refine Ev.scg (by omega) ?_)
  by_cases h0 : n = 0
  · subst h0
    rw [decide_eq_true rfl]
    repeat (first | refine Ev.s ?_ | refine Ev.newC fun _ _ _ => ?_ | refine Ev.boxC fun _ _ _ => ?_ | refine Ev.stC fun _ _ => ?_ | refine Ev.sc (by omega) ?_ | refine Ev.scg (by omega) ?_)
    exact Ev.ret ⟨rfl, B, ⟨Mo.refl B⟩, hS⟩
  rw [decide_eq_false h0]
  repeat (first | refine Ev.s ?_ | refine Ev.newC fun _ _ _ => ?_ | refine Ev.boxC fun _ _ _ => ?_ | refine Ev.stC fun _ _ => ?_ | refine Ev.sc (by omega) ?_ | refine Ev.scg (by omega) ?_)
  by_cases h1 : n = 1
  · subst h1
    rw [decide_eq_true rfl]
    repeat (first | refine Ev.s ?_ | refine Ev.newC fun _ _ _ => ?_ | refine Ev.boxC fun _ _ _ => ?_ | refine Ev.stC fun _ _ => ?_ | refine Ev.sc (by omega) ?_ | refine Ev.scg (by omega) ?_)
    exact Ev.ret ⟨rfl, B, ⟨Mo.refl B⟩, hS⟩
  rw [decide_eq_false h1]
  repeat (first | refine Ev.s ?_ | refine Ev.newC fun _ _ _ => ?_ | refine Ev.boxC fun _ _ _ => ?_ | refine Ev.stC fun _ _ => ?_ | refine Ev.sc (by omega) ?_ | refine Ev.scg (by omega) ?_)
  rw [decide_eq_false (by omega)]
  repeat (first | refine Ev.s ?_ | refine Ev.newC fun _ _ _ => ?_ | refine Ev.boxC fun _ _ _ => ?_ | refine Ev.stC fun _ _ => ?_ | refine Ev.sc (by omega) ?_ | refine Ev.scg (by omega) ?_)
  refine Ev.eq (fun k _ => f54_J0_eq k _ _ H) ?_
  repeat (first | refine Ev.s ?_ | refine Ev.newC fun _ _ _ => ?_ | refine Ev.boxC fun _ _ _ => ?_ | refine Ev.stC fun _ _ => ?_ | refine Ev.sc (by omega) ?_ | refine Ev.scg (by omega) ?_)
  rw [show ([0] : List UInt8).length = 1 from rfl]
  repeat (first | refine Ev.s ?_ | refine Ev.newC fun _ _ _ => ?_ | refine Ev.boxC fun _ _ _ => ?_ | refine Ev.stC fun _ _ => ?_ | refine Ev.sc (by omega) ?_ | refine Ev.scg (by omega) ?_)
  refine Ev.b2 (Mul_spec (by omega)) ?_
  rintro _ _ ⟨rfl, rfl⟩
  repeat (first | (first | refine Ev.s ?_ | refine Ev.newC fun _ _ _ => ?_ | refine Ev.boxC fun _ _ _ => ?_ | refine Ev.stC fun _ _ => ?_ | refine Ev.sc (by omega) ?_ | refine Ev.scg (by omega) ?_) | rw [decide_eq_true (by omega)] | rw [decide_eq_false (by omega)])
  refine Ev.eq (fun k _ => f54_J1_eq k _ _ H) ?_
  repeat (first | refine Ev.s ?_ | refine Ev.newC fun _ _ _ => ?_ | refine Ev.boxC fun _ _ _ => ?_ | refine Ev.stC fun _ _ => ?_ | refine Ev.sc (by omega) ?_ | refine Ev.scg (by omega) ?_)
  rw [show ([0] : List UInt8).length = 1 from rfl]
  repeat (first | (first | refine Ev.s ?_ | refine Ev.newC fun _ _ _ => ?_ | refine Ev.boxC fun _ _ _ => ?_ | refine Ev.stC fun _ _ => ?_ | refine Ev.sc (by omega) ?_ | refine Ev.scg (by omega) ?_) | rw [decide_eq_true (by omega)] | rw [decide_eq_false (by omega)])
  refine Ev.prim (show ix Tryd.prog 9 (str [0]) (.int .i64 0) = some (u8 0) from ix_str (l := [0]) 0 rfl (by decide)) ?_
  repeat (first | (first | refine Ev.s ?_ | refine Ev.newC fun _ _ _ => ?_ | refine Ev.boxC fun _ _ _ => ?_ | refine Ev.stC fun _ _ => ?_ | refine Ev.sc (by omega) ?_ | refine Ev.scg (by omega) ?_) | rw [decide_eq_true (by omega)] | rw [decide_eq_false (by omega)])
  refine Ev.eq (fun k _ => f54_J2_eq k _ _ H) ?_
  repeat (first | (first | refine Ev.s ?_ | refine Ev.newC fun _ _ _ => ?_ | refine Ev.boxC fun _ _ _ => ?_ | refine Ev.stC fun _ _ => ?_ | refine Ev.sc (by omega) ?_ | refine Ev.scg (by omega) ?_) | rw [decide_eq_true (by omega)] | rw [decide_eq_false (by omega)])
  refine Ev.eq (fun k _ => f54_J3_eq k _ _ _ H) ?_
  refine Ev.newC fun p H1 hS1 => ?_
  clear hS
  refine Ev.b2 (Grow_spec (n := n) (rest := []) bldT_mem bld_sz (by omega) (by omega) hS1) ?_
  rintro _ H2 ⟨rfl, b2, B2, hm2, hA2⟩
  dsimp only at hA2
  refine Ev.b2 (WriteString_spec (l := [0]) (rest := []) bldT_mem bld_sz (.inr rfl) (by decide) hA2) ?_
  rintro _ H3 ⟨rfl, v3, B3, hm3, hA3⟩
  dsimp only at hA3
  refine Ev.bind (Ev.loop (rep_loop (by omega) n 1 B3 H3 v3 (by omega) (by omega) (by omega) hA3)) ?_
  rintro _ ⟨B4, H4, v4, rfl, hm4, hA4⟩
  refine Ev.eq (fun k _ => f54_A0_x3 k _ H4) ?_
  refine Ev.b2 (String_same (by rw [List.length_replicate]; omega) (by intro h; have := congrArg List.length h; simp at this; omega) hA4) ?_
  rintro _ _ ⟨rfl, rfl⟩
  refine Ev.ret ⟨?_, B4, ⟨hm2.mo.trans (hm3.mo.trans hm4.mo)⟩, hA4.st.drop1⟩
  dsimp only
  rw [show (List.replicate n 0).map (fun n => UInt8.ofNat n) = List.replicate n 0 by simp]
end
end Go.AM.G
set_option linter.unusedVariables false
set_option linter.unusedSimpArgs false
set_option maxRecDepth 100000
namespace Go.AM.G
open Go Go.AM Go.Proofs
attribute [local irreducible] run bin un ld st box newV mkS fldA fld ixA ix slc slc3 build buildS cv cvS ap cpy lenV gOp pickV b2 aIf aChk evalK resume iterD Option.bind

section
variable {H : AH}
theorem right_loop : ∀ (m : Nat) (s : List UInt8), s.length = m → s.length < 9223372036854775808 →
    Ev (fun k n => f60_L0 k (str s) (u8 0) n H) (fun o => ∃ w : List UInt8, o = (.exit 0, f60_X_L0 (str w), H) ∧ w.length ≤ s.length ∧ ((∀ c ∈ s, c = 0) ↔ ∀ c ∈ w, c = 0)) := by
  intro m
  induction m with
  | zero =>
    intro s hs hl
    refine Ev.succ (fun k n => f60_L0_succ k _ _ n H) ?_
    repeat (first | refine Ev.s ?_ | refine Ev.newC fun _ _ _ => ?_ | refine Ev.boxC fun _ _ _ => ?_ | refine Ev.stC fun _ _ => ?_ | refine Ev.sc (by omega) ?_ | refine Ev.scg (by omega) ?_)
    rw [decide_eq_false (by omega)]
    repeat (first | refine Ev.s ?_ | refine Ev.newC fun _ _ _ => ?_ | refine Ev.boxC fun _ _ _ => ?_ | refine Ev.stC fun _ _ => ?_ | refine Ev.sc (by omega) ?_ | refine Ev.scg (by omega) ?_)
    exact Ev.ret ⟨s, rfl, Nat.le_refl _, Iff.rfl⟩
  | succ m ih =>
    intro s hs hl
    refine Ev.succ (fun k n => f60_L0_succ k _ _ n H) ?_
    repeat (first | refine Ev.s ?_ | refine Ev.newC fun _ _ _ => ?_ | refine Ev.boxC fun _ _ _ => ?_ | refine Ev.stC fun _ _ => ?_ | refine Ev.sc (by omega) ?_ | refine Ev.scg (by omega) ?_)
    rw [decide_eq_true (by omega)]
    repeat (first | refine Ev.s ?_ | refine Ev.newC fun _ _ _ => ?_ | refine Ev.boxC fun _ _ _ => ?_ | refine Ev.stC fun _ _ => ?_ | refine Ev.sc (by omega) ?_ | refine Ev.scg (by omega) ?_)
    refine Ev.gPrim (ix_str (s.length - 1) rfl (by omega)) rfl ?_
    repeat (first | refine Ev.s ?_ | refine Ev.newC fun _ _ _ => ?_ | refine Ev.boxC fun _ _ _ => ?_ | refine Ev.stC fun _ _ => ?_ | refine Ev.sc (by omega) ?_ | refine Ev.scg (by omega) ?_)
    by_cases h0 : (s.getD (s.length - 1) 0).toNat = 0
    · rw [decide_eq_true h0]
      repeat (first | refine Ev.s ?_ | refine Ev.newC fun _ _ _ => ?_ | refine Ev.boxC fun _ _ _ => ?_ | refine Ev.stC fun _ _ => ?_ | refine Ev.sc (by omega) ?_ | refine Ev.scg (by omega) ?_)
      refine Ev.prim (slc_strT (l := s) (i := s.length - 1) (by omega)) ?_
      refine (ih (s.take (s.length - 1)) (by rw [List.length_take]; omega) (by rw [List.length_take]; omega)).mono ?_
      rintro o ⟨w, h1, h2, h3⟩
      refine ⟨w, h1, by rw [List.length_take] at h2; omega, Iff.trans ?_ h3⟩
      have e : s = s.take (s.length - 1) ++ [s.getD (s.length - 1) 0] := by
        conv => lhs; rw [← List.take_append_drop (s.length - 1) s]
        rw [drop_getD (by omega), List.drop_of_length_le (by omega)]
      have h00 : s.getD (s.length - 1) 0 = 0 := UInt8.toNat_inj.1 h0
      rw [h00] at e
      constructor
      · intro h c hc
        exact h c (List.mem_of_mem_take hc)
      · intro h c hc
        rw [e] at hc
        rcases List.mem_append.1 hc with hc | hc
        · exact h c hc
        · simpa using hc
    · rw [decide_eq_false h0]
      repeat (first | refine Ev.s ?_ | refine Ev.newC fun _ _ _ => ?_ | refine Ev.boxC fun _ _ _ => ?_ | refine Ev.stC fun _ _ => ?_ | refine Ev.sc (by omega) ?_ | refine Ev.scg (by omega) ?_)
      exact Ev.ret ⟨s, rfl, Nat.le_refl _, Iff.rfl⟩
theorem left_loop : ∀ (m : Nat) (s : List UInt8), s.length = m → s.length < 9223372036854775808 →
    Ev (fun k n => f59_L0 k (str s) (u8 0) n H) (fun o => ∃ w : List UInt8, o = (.exit 0, f59_X_L0 (str w), H) ∧ ((∀ c ∈ s, c = 0) ↔ w = [])) := by
  intro m
  induction m with
  | zero =>
    intro s hs hl
    refine Ev.succ (fun k n => f59_L0_succ k _ _ n H) ?_
    repeat (first | refine Ev.s ?_ | refine Ev.newC fun _ _ _ => ?_ | refine Ev.boxC fun _ _ _ => ?_ | refine Ev.stC fun _ _ => ?_ | refine Ev.sc (by omega) ?_ | refine Ev.scg (by omega) ?_)
    rw [decide_eq_false (by omega)]
    repeat (first | refine Ev.s ?_ | refine Ev.newC fun _ _ _ => ?_ | refine Ev.boxC fun _ _ _ => ?_ | refine Ev.stC fun _ _ => ?_ | refine Ev.sc (by omega) ?_ | refine Ev.scg (by omega) ?_)
    obtain rfl := List.length_eq_zero_iff.1 hs
    exact Ev.ret ⟨[], rfl, by simp⟩
  | succ m ih =>
    intro s hs hl
    refine Ev.succ (fun k n => f59_L0_succ k _ _ n H) ?_
    repeat (first | refine Ev.s ?_ | refine Ev.newC fun _ _ _ => ?_ | refine Ev.boxC fun _ _ _ => ?_ | refine Ev.stC fun _ _ => ?_ | refine Ev.sc (by omega) ?_ | refine Ev.scg (by omega) ?_)
    rw [decide_eq_true (by omega)]
    repeat (first | refine Ev.s ?_ | refine Ev.newC fun _ _ _ => ?_ | refine Ev.boxC fun _ _ _ => ?_ | refine Ev.stC fun _ _ => ?_ | refine Ev.sc (by omega) ?_ | refine Ev.scg (by omega) ?_)
    match s, hs, hl with
    | c :: r, hs, hl =>
      refine Ev.gPrim (show ix Tryd.prog 9 (str (c :: r)) (.int .i64 0) = some (u8 c.toNat) from ix_str (l := c :: r) 0 rfl (by simp)) rfl ?_
      repeat (first | refine Ev.s ?_ | refine Ev.newC fun _ _ _ => ?_ | refine Ev.boxC fun _ _ _ => ?_ | refine Ev.stC fun _ _ => ?_ | refine Ev.sc (by omega) ?_ | refine Ev.scg (by omega) ?_)
      by_cases h0 : c.toNat = 0
      · rw [decide_eq_true h0]
        repeat (first | refine Ev.s ?_ | refine Ev.newC fun _ _ _ => ?_ | refine Ev.boxC fun _ _ _ => ?_ | refine Ev.stC fun _ _ => ?_ | refine Ev.sc (by omega) ?_ | refine Ev.scg (by omega) ?_)
        refine Ev.prim (show slc Tryd.prog 9 (str (c :: r)) (some (.int .i64 1)) none = some (str r) from slc_str (l := c :: r) 1 rfl (by simp)) ?_
        simp only [List.length_cons] at hs hl
        refine (ih r (by omega) (by omega)).mono ?_
        rintro o ⟨w, h1, h3⟩
        refine ⟨w, h1, Iff.trans ?_ h3⟩
        have h00 : c = 0 := UInt8.toNat_inj.1 h0
        subst h00
        simp
      · rw [decide_eq_false h0]
        repeat (first | refine Ev.s ?_ | refine Ev.newC fun _ _ _ => ?_ | refine Ev.boxC fun _ _ _ => ?_ | refine Ev.stC fun _ _ => ?_ | refine Ev.sc (by omega) ?_ | refine Ev.scg (by omega) ?_)
        refine Ev.ret ⟨c :: r, rfl, ?_⟩
        constructor
        · intro h
          exact absurd (by rw [h c (.head _)]; rfl) h0
        · intro h; cases h
theorem Trim_spec {s : List UInt8} (hl : s.length < 9223372036854775808) : Ev (fun k _ => rn k 52 [str s, str [0]] H) (fun r => ∃ w, r = (str w, H) ∧ ((∀ c ∈ s, c = 0) ↔ w = [])) := by
  refine Ev.fn (fun k => f52_eq k _ _ H) ?_
  by_cases hs : s = []
  · subst hs
    refine Ev.prim (show bin Tryd.prog .eql 9 (str []) (.string ⟨#[]⟩) = some (.bool true) from eql_str.trans (by simp)) ?_
    repeat (first | refine Ev.s ?_ | refine Ev.newC fun _ _ _ => ?_ | refine Ev.boxC fun _ _ _ => ?_ | refine Ev.stC fun _ _ => ?_ | refine Ev.sc (by omega) ?_ | refine Ev.scg (by omega) ?_)
    exact Ev.ret ⟨[], rfl, by simp⟩
  · refine Ev.prim (show bin Tryd.prog .eql 9 (str s) (.string ⟨#[]⟩) = some (.bool false) from (eql_str (b := [])).trans (by simp [hs])) ?_
    repeat (first | refine Ev.s ?_ | refine Ev.newC fun _ _ _ => ?_ | refine Ev.boxC fun _ _ _ => ?_ | refine Ev.stC fun _ _ => ?_ | refine Ev.sc (by omega) ?_ | refine Ev.scg (by omega) ?_)
    rw [decide_eq_false (by simp)]
    repeat (first | (first | refine Ev.s ?_ | refine Ev.newC fun _ _ _ => ?_ | refine Ev.boxC fun _ _ _ => ?_ | refine Ev.stC fun _ _ => ?_ | refine Ev.sc (by omega) ?_ | refine Ev.scg (by omega) ?_) | rw [decide_eq_true (by omega)] | rw [decide_eq_false (by omega)])
    refine Ev.gPrim (show ix Tryd.prog 9 (str [0]) (.int .i64 0) = some (u8 0) from ix_str (l := [0]) 0 rfl (by decide)) rfl ?_
    repeat (first | (first | refine Ev.s ?_ | refine Ev.newC fun _ _ _ => ?_ | refine Ev.boxC fun _ _ _ => ?_ | refine Ev.stC fun _ _ => ?_ | refine Ev.sc (by omega) ?_ | refine Ev.scg (by omega) ?_) | rw [decide_eq_true (by omega)] | rw [decide_eq_false (by omega)])
    refine Ev.prim (show ix Tryd.prog 9 (str [0]) (.int .i64 0) = some (u8 0) from ix_str (l := [0]) 0 rfl (by decide)) ?_
    have h1 : Ev (fun k _ => rn k 60 [str s, u8 0] H) (fun r => ∃ w : List UInt8, r = (str w, H) ∧ w.length ≤ s.length ∧ ((∀ c ∈ s, c = 0) ↔ ∀ c ∈ w, c = 0)) := by
      refine Ev.fn (fun k => f60_eq k _ _ H) ?_
      refine Ev.bind (Ev.loop (right_loop _ s rfl hl)) ?_
      rintro _ ⟨w, rfl, h⟩
      refine Ev.eq (fun k _ => f60_A0_x0 k _ H) ?_
      exact Ev.ret ⟨w, rfl, h⟩
    refine Ev.b2 h1 ?_
    rintro _ _ ⟨w, ⟨rfl, rfl⟩, h2, h3⟩
    refine Ev.prim (show ix Tryd.prog 9 (str [0]) (.int .i64 0) = some (u8 0) from ix_str (l := [0]) 0 rfl (by decide)) ?_
    have h4 : Ev (fun k _ => rn k 59 [str w, u8 0] H) (fun r => ∃ w2 : List UInt8, r = (str w2, H) ∧ ((∀ c ∈ w, c = 0) ↔ w2 = [])) := by
      refine Ev.fn (fun k => f59_eq k _ _ H) ?_
      refine Ev.bind (Ev.loop (left_loop _ w rfl (by omega))) ?_
      rintro _ ⟨w2, rfl, h⟩
      refine Ev.eq (fun k _ => f59_A0_x0 k _ H) ?_
      exact Ev.ret ⟨w2, rfl, h⟩
    refine Ev.b2 h4 ?_
    rintro _ _ ⟨w2, ⟨rfl, rfl⟩, h5⟩
    exact Ev.ret ⟨w2, rfl, h3.trans h5⟩
theorem HasPrefix_spec {s p : List UInt8} (hl : s.length < 9223372036854775808) (hp : p.length ≤ s.length) : Ev (fun k _ => rn k 51 [str s, str p] H) (fun r => r = (.bool (decide (s.take p.length = p)), H)) := by
  refine Ev.fn (fun k => f51_eq k _ _ H) ?_
  have key : Ev (fun k _ => rn k 58 [str s, str p] H) (fun r => r = (.bool (decide (s.take p.length = p)), H)) := by
    refine Ev.fn (fun k => f58_eq k _ _ H) ?_
    repeat (first | refine Ev.s ?_ | refine Ev.newC fun _ _ _ => ?_ | refine Ev.boxC fun _ _ _ => ?_ | refine Ev.stC fun _ _ => ?_ | refine Ev.sc (by omega) ?_ | refine Ev.scg (by omega) ?_)
    rw [decide_eq_true (by omega)]
    repeat (first | refine Ev.s ?_ | refine Ev.newC fun _ _ _ => ?_ | refine Ev.boxC fun _ _ _ => ?_ | refine Ev.stC fun _ _ => ?_ | refine Ev.sc (by omega) ?_ | refine Ev.scg (by omega) ?_)
    refine Ev.gPrim (slc_strT (l := s) (i := p.length) (by omega)) rfl ?_
    repeat (first | refine Ev.s ?_ | refine Ev.newC fun _ _ _ => ?_ | refine Ev.boxC fun _ _ _ => ?_ | refine Ev.stC fun _ _ => ?_ | refine Ev.sc (by omega) ?_ | refine Ev.scg (by omega) ?_)
    exact Ev.ret rfl
  refine Ev.b2 key ?_
  rintro _ _ ⟨rfl, rfl⟩
  exact Ev.ret rfl
end
end Go.AM.G
set_option linter.unusedVariables false
set_option linter.unusedSimpArgs false
set_option maxRecDepth 100000
namespace Go.AM.G
open Go Go.AM Go.Proofs
attribute [local irreducible] run bin un ld st box newV mkS fldA fld ixA ix slc slc3 build buildS cv cvS ap cpy lenV gOp pickV b2 aIf aChk evalK resume iterD Option.bind

section
variable {B B0 H0 H : AH} {L : List (Nat × Blk)}
/-- The answer of a seal. -/
def SealV (p : List UInt8 × Int) : Value := .tuple #[str p.1, .int .i64 p.2]
theorem le4_len (n : Nat) : (le4 n).length = 4 := rfl
theorem Seal_spec {kind : Int} {t : List UInt8} (ht : t.length < 9223372036854775808) (hk : -9223372036854775808 ≤ kind ∧ kind < 9223372036854775808) (hS : St H0 B0 B L H) :
    Ev (fun k _ => rn k 47 [.int .i64 kind, str t] H) (fun r => r.1 = SealV (sealR kind t) ∧ ∃ B', MoC B B' ∧ St H0 B0 B' L r.2) := by
  refine Ev.fn (fun k => f47_eq k _ _ H) ?_
  unfold sealR
  by_cases h1 : kind < 1
  · rw [if_pos (.inl h1)]
    repeat (first | (first | refine Ev.s ?_ | refine Ev.newC fun _ _ _ => ?_ | refine Ev.boxC fun _ _ _ => ?_ | refine Ev.stC fun _ _ => ?_ | refine Ev.sc (by omega) ?_ | refine Ev.scg (by omega) ?_) | rw [decide_eq_true (by omega)] | rw [decide_eq_false (by omega)])
    exact Ev.ret ⟨rfl, B, ⟨Mo.refl B⟩, hS⟩
  by_cases h2 : kind > 9
  · rw [if_pos (.inr (.inl h2))]
    repeat (first | (first | refine Ev.s ?_ | refine Ev.newC fun _ _ _ => ?_ | refine Ev.boxC fun _ _ _ => ?_ | refine Ev.stC fun _ _ => ?_ | refine Ev.sc (by omega) ?_ | refine Ev.scg (by omega) ?_) | rw [decide_eq_true (by omega)] | rw [decide_eq_false (by omega)])
    exact Ev.ret ⟨rfl, B, ⟨Mo.refl B⟩, hS⟩
  by_cases h3 : t.length > 120
  · rw [if_pos (.inr (.inr h3))]
    repeat (first | (first | refine Ev.s ?_ | refine Ev.newC fun _ _ _ => ?_ | refine Ev.boxC fun _ _ _ => ?_ | refine Ev.stC fun _ _ => ?_ | refine Ev.sc (by omega) ?_ | refine Ev.scg (by omega) ?_) | rw [decide_eq_true (by omega)] | rw [decide_eq_false (by omega)])
    exact Ev.ret ⟨rfl, B, ⟨Mo.refl B⟩, hS⟩
  rw [if_neg (by omega)]
  obtain ⟨n, rfl⟩ : ∃ n : Nat, kind = n := ⟨kind.toNat, by omega⟩
  rw [Int.toNat_natCast]
  repeat (first | (first | refine Ev.s ?_ | refine Ev.newC fun _ _ _ => ?_ | refine Ev.boxC fun _ _ _ => ?_ | refine Ev.stC fun _ _ => ?_ | refine Ev.sc (by omega) ?_ | refine Ev.scg (by omega) ?_) | rw [decide_eq_true (by omega)] | rw [decide_eq_false (by omega)])
  rw [Nat.mod_eq_of_lt (show n < 4294967296 by omega), Nat.mod_eq_of_lt (show t.length < 4294967296 by omega)]
  refine Ev.bsC (P := Tryd.prog) (t := 104) (hS := hS) (by decide) fun b H1 hS1 => ?_
  obtain ⟨B1, hm1, hF, hS2⟩ := St.flz (l := [n, t.length]) (f := u32) (cap := 2) hS1 (Nat.le_refl _)
  clear hS hS1
  refine Ev.b2 (bytes_spec hF (by simp) (by simp) hS2) ?_
  rintro _ H2 ⟨rfl, B2, hm2, hS3⟩
  dsimp only at hS3
  clear hS2
  refine Ev.prim (add_str (a := [65, 83]) (b := [n, t.length].map UInt8.ofNat) (by simp)) ?_
  refine Ev.prim (add_str (a := [65, 83] ++ [n, t.length].map UInt8.ofNat) (b := t) (by simp; omega)) ?_
  obtain ⟨hd, hhd⟩ : ∃ hd : List UInt8, hd = [65, 83] ++ [n, t.length].map UInt8.ofNat ++ t := ⟨_, rfl⟩
  have hdl : hd.length = 4 + t.length := by rw [hhd, List.length_append]; rfl
  rw [← hhd]
  repeat (first | refine Ev.s ?_ | refine Ev.newC fun _ _ _ => ?_ | refine Ev.boxC fun _ _ _ => ?_ | refine Ev.stC fun _ _ => ?_ | refine Ev.sc (by omega) ?_ | refine Ev.scg (by omega) ?_)
  rw [hdl]
  rw [show 124 - (4 + t.length) = 120 - t.length by omega]
  refine Ev.b2 (Repeat_spec (n := 120 - t.length) (by omega) hS3) ?_
  rintro _ H3 ⟨rfl, B3, hm3, hS4⟩
  dsimp only at hS4
  clear hS3
  refine Ev.prim (add_str (a := hd) (b := List.replicate (120 - t.length) 0) (by rw [List.length_replicate]; omega)) ?_
  have hb : hd ++ List.replicate (120 - t.length) 0 = bodyL n t := by rw [hhd]; rfl
  have hbl := body_len (k := n) (t := t) (by omega)
  rw [hb]
  refine Ev.b2 (psum_spec (by rw [hbl]; decide) hS4) ?_
  rintro _ H4 ⟨rfl, B4, hm4, hS5⟩
  dsimp only at hS5
  refine Ev.prim (add_str (a := bodyL n t) (b := le4 (crc (bodyL n t))) (by rw [hbl, le4_len]; decide)) ?_
  exact Ev.ret ⟨rfl, B4, ⟨hm1.mo.trans (hm2.mo.trans (hm3.mo.trans hm4.mo))⟩, hS5⟩
def OpenV (p : Int × List UInt8 × Int) : Value := .tuple #[.int .i64 p.1, str p.2.1, .int .i64 p.2.2]
theorem Open_spec {b : List UInt8} (hl : b.length < 9223372036854775808) (hS : St H0 B0 B L H) :
    Ev (fun k _ => rn k 38 [str b] H) (fun r => r.1 = OpenV (openR b) ∧ ∃ B', MoC B B' ∧ St H0 B0 B' L r.2) := by
  refine Ev.fn (fun k => f38_eq k _ H) ?_
  unfold openR
  repeat (first | refine Ev.s ?_ | refine Ev.newC fun _ _ _ => ?_ | refine Ev.boxC fun _ _ _ => ?_ | refine Ev.stC fun _ _ => ?_ | refine Ev.sc (by omega) ?_ | refine Ev.scg (by omega) ?_)
  by_cases h1 : b.length = 128
  case neg =>
    rw [if_pos h1, decide_eq_true h1]
    repeat (first | refine Ev.s ?_ | refine Ev.newC fun _ _ _ => ?_ | refine Ev.boxC fun _ _ _ => ?_ | refine Ev.stC fun _ _ => ?_ | refine Ev.sc (by omega) ?_ | refine Ev.scg (by omega) ?_)
    exact Ev.ret ⟨rfl, B, ⟨Mo.refl B⟩, hS⟩
  rw [if_neg (by omega), decide_eq_false (by omega)]
  repeat (first | refine Ev.s ?_ | refine Ev.newC fun _ _ _ => ?_ | refine Ev.boxC fun _ _ _ => ?_ | refine Ev.stC fun _ _ => ?_ | refine Ev.sc (by omega) ?_ | refine Ev.scg (by omega) ?_)
  refine Ev.prim (show slc Tryd.prog 9 (str b) none (some (.int .i64 124)) = some (str (b.take 124)) from slc_strT (l := b) (i := 124) (by omega)) ?_
  refine Ev.prim (show ix Tryd.prog 9 (str b) (.int .i64 3) = some (u8 (b.getD 3 0).toNat) from ix_str 3 rfl (by omega)) ?_
  have hn3 := u8_lt (b.getD 3 0)
  have hn2 := u8_lt (b.getD 2 0)
  repeat (first | refine Ev.s ?_ | refine Ev.newC fun _ _ _ => ?_ | refine Ev.boxC fun _ _ _ => ?_ | refine Ev.stC fun _ _ => ?_ | refine Ev.sc (by omega) ?_ | refine Ev.scg (by omega) ?_)
  refine Ev.b2 (psum_spec (by rw [List.length_take]; omega) hS) ?_
  rintro _ H1 ⟨rfl, B1, hm1, hS1⟩
  dsimp only at hS1
  clear hS
  refine Ev.prim (show slc Tryd.prog 9 (str b) (some (.int .i64 124)) none = some (str (b.drop 124)) from slc_str (l := b) 124 rfl (by omega)) ?_
  repeat (first | refine Ev.s ?_ | refine Ev.newC fun _ _ _ => ?_ | refine Ev.boxC fun _ _ _ => ?_ | refine Ev.stC fun _ _ => ?_ | refine Ev.sc (by omega) ?_ | refine Ev.scg (by omega) ?_)
  by_cases h2 : le4 (crc (b.take 124)) = b.drop 124
  case neg =>
    rw [if_pos h2, decide_eq_true h2]
    repeat (first | refine Ev.s ?_ | refine Ev.newC fun _ _ _ => ?_ | refine Ev.boxC fun _ _ _ => ?_ | refine Ev.stC fun _ _ => ?_ | refine Ev.sc (by omega) ?_ | refine Ev.scg (by omega) ?_)
    exact Ev.ret ⟨rfl, B1, hm1, hS1⟩
  rw [if_neg (by simpa using h2), decide_eq_false (by simpa using h2)]
  repeat (first | refine Ev.s ?_ | refine Ev.newC fun _ _ _ => ?_ | refine Ev.boxC fun _ _ _ => ?_ | refine Ev.stC fun _ _ => ?_ | refine Ev.sc (by omega) ?_ | refine Ev.scg (by omega) ?_)
  refine Ev.b2 (HasPrefix_spec (s := b) (p := [65, 83]) (by omega) (by rw [h1]; decide)) ?_
  rintro _ _ ⟨rfl, rfl⟩
  rw [show ([65, 83] : List UInt8).length = 2 from rfl]
  have bad : ¬ Body b → Ev (fun _ _ => some (Value.tuple #[.int .i64 0, .string ⟨#[]⟩, .int .i64 2], H1)) (fun r => r.1 = OpenV (if Body b then (((b.getD 2 0).toNat : Int), (b.drop 4).take (b.getD 3 0).toNat, 0) else (0, [], 2)) ∧ ∃ B', MoC B B' ∧ St H0 B0 B' L r.2) := by
    intro h
    rw [if_neg h]
    exact Ev.ret ⟨rfl, B1, hm1, hS1⟩
  by_cases h3 : b.take 2 = [65, 83]
  case neg =>
    rw [decide_eq_false h3]
    repeat (first | refine Ev.s ?_ | refine Ev.newC fun _ _ _ => ?_ | refine Ev.boxC fun _ _ _ => ?_ | refine Ev.stC fun _ _ => ?_ | refine Ev.sc (by omega) ?_ | refine Ev.scg (by omega) ?_)
    exact bad fun h => h3 h.1
  rw [decide_eq_true h3]
  repeat (first | refine Ev.s ?_ | refine Ev.newC fun _ _ _ => ?_ | refine Ev.boxC fun _ _ _ => ?_ | refine Ev.stC fun _ _ => ?_ | refine Ev.sc (by omega) ?_ | refine Ev.scg (by omega) ?_)
  refine Ev.gPrim (show ix Tryd.prog 9 (str b) (.int .i64 2) = some (u8 (b.getD 2 0).toNat) from ix_str 2 rfl (by omega)) rfl ?_
  repeat (first | refine Ev.s ?_ | refine Ev.newC fun _ _ _ => ?_ | refine Ev.boxC fun _ _ _ => ?_ | refine Ev.stC fun _ _ => ?_ | refine Ev.sc (by omega) ?_ | refine Ev.scg (by omega) ?_)
  by_cases h4 : 1 ≤ (b.getD 2 0).toNat
  case neg =>
    repeat (first | (first | refine Ev.s ?_ | refine Ev.newC fun _ _ _ => ?_ | refine Ev.boxC fun _ _ _ => ?_ | refine Ev.stC fun _ _ => ?_ | refine Ev.sc (by omega) ?_ | refine Ev.scg (by omega) ?_) | rw [decide_eq_true (by omega)] | rw [decide_eq_false (by omega)])
    exact bad fun h => h4 h.2.1
  rw [decide_eq_false (by omega)]
  repeat (first | refine Ev.s ?_ | refine Ev.newC fun _ _ _ => ?_ | refine Ev.boxC fun _ _ _ => ?_ | refine Ev.stC fun _ _ => ?_ | refine Ev.sc (by omega) ?_ | refine Ev.scg (by omega) ?_)
  refine Ev.gPrim (show ix Tryd.prog 9 (str b) (.int .i64 2) = some (u8 (b.getD 2 0).toNat) from ix_str 2 rfl (by omega)) rfl ?_
  repeat (first | refine Ev.s ?_ | refine Ev.newC fun _ _ _ => ?_ | refine Ev.boxC fun _ _ _ => ?_ | refine Ev.stC fun _ _ => ?_ | refine Ev.sc (by omega) ?_ | refine Ev.scg (by omega) ?_)
  by_cases h5 : (b.getD 2 0).toNat ≤ 9
  case neg =>
    repeat (first | (first | refine Ev.s ?_ | refine Ev.newC fun _ _ _ => ?_ | refine Ev.boxC fun _ _ _ => ?_ | refine Ev.stC fun _ _ => ?_ | refine Ev.sc (by omega) ?_ | refine Ev.scg (by omega) ?_) | rw [decide_eq_true (by omega)] | rw [decide_eq_false (by omega)])
    exact bad fun h => h5 h.2.2.1
  rw [decide_eq_false (by omega)]
  repeat (first | refine Ev.s ?_ | refine Ev.newC fun _ _ _ => ?_ | refine Ev.boxC fun _ _ _ => ?_ | refine Ev.stC fun _ _ => ?_ | refine Ev.sc (by omega) ?_ | refine Ev.scg (by omega) ?_)
  by_cases h6 : (b.getD 3 0).toNat ≤ 120
  case neg =>
    repeat (first | (first | refine Ev.s ?_ | refine Ev.newC fun _ _ _ => ?_ | refine Ev.boxC fun _ _ _ => ?_ | refine Ev.stC fun _ _ => ?_ | refine Ev.sc (by omega) ?_ | refine Ev.scg (by omega) ?_) | rw [decide_eq_true (by omega)] | rw [decide_eq_false (by omega)])
    exact bad fun h => h6 h.2.2.2.1
  repeat (first | (first | refine Ev.s ?_ | refine Ev.newC fun _ _ _ => ?_ | refine Ev.boxC fun _ _ _ => ?_ | refine Ev.stC fun _ _ => ?_ | refine Ev.sc (by omega) ?_ | refine Ev.scg (by omega) ?_) | rw [decide_eq_true (by omega)] | rw [decide_eq_false (by omega)])
  generalize hn : (b.getD 3 0).toNat = n at *
  refine Ev.gPrim (slc_str (l := b.take 124) (4 + n) rfl (by rw [List.length_take]; omega)) rfl ?_
  repeat (first | (first | refine Ev.s ?_ | refine Ev.newC fun _ _ _ => ?_ | refine Ev.boxC fun _ _ _ => ?_ | refine Ev.stC fun _ _ => ?_ | refine Ev.sc (by omega) ?_ | refine Ev.scg (by omega) ?_) | rw [decide_eq_true (by omega)] | rw [decide_eq_false (by omega)])
  refine Ev.b2 (Trim_spec (s := (b.take 124).drop (4 + n)) (by rw [List.length_drop, List.length_take]; omega)) ?_
  rintro _ _ ⟨w, ⟨rfl, rfl⟩, hw⟩
  repeat (first | refine Ev.s ?_ | refine Ev.newC fun _ _ _ => ?_ | refine Ev.boxC fun _ _ _ => ?_ | refine Ev.stC fun _ _ => ?_ | refine Ev.sc (by omega) ?_ | refine Ev.scg (by omega) ?_)
  by_cases h7 : w = []
  case neg =>
    rw [decide_eq_true h7]
    repeat (first | (first | refine Ev.s ?_ | refine Ev.newC fun _ _ _ => ?_ | refine Ev.boxC fun _ _ _ => ?_ | refine Ev.stC fun _ _ => ?_ | refine Ev.sc (by omega) ?_ | refine Ev.scg (by omega) ?_) | rw [decide_eq_true (by omega)] | rw [decide_eq_false (by omega)])
    exact bad fun h => h7 (hw.1 (by have := h.2.2.2.2; rwa [hn] at this))
  rw [decide_eq_false (by simpa using h7)]
  have hB : Body b := ⟨h3, h4, h5, by rw [hn]; exact h6, by rw [hn]; exact hw.2 h7⟩
  repeat (first | refine Ev.s ?_ | refine Ev.newC fun _ _ _ => ?_ | refine Ev.boxC fun _ _ _ => ?_ | refine Ev.stC fun _ _ => ?_ | refine Ev.sc (by omega) ?_ | refine Ev.scg (by omega) ?_)
  refine Ev.prim (show ix Tryd.prog 9 (str b) (.int .i64 2) = some (u8 (b.getD 2 0).toNat) from ix_str 2 rfl (by omega)) ?_
  repeat (first | refine Ev.s ?_ | refine Ev.newC fun _ _ _ => ?_ | refine Ev.boxC fun _ _ _ => ?_ | refine Ev.stC fun _ _ => ?_ | refine Ev.sc (by omega) ?_ | refine Ev.scg (by omega) ?_)
  refine Ev.prim (slc_str2 (l := b.take 124) 4 (4 + n) rfl rfl (by omega) (by rw [List.length_take]; omega)) ?_
  rw [if_pos hB]
  refine Ev.ret ⟨?_, B1, hm1, hS1⟩
  show Value.tuple #[_, str _, _] = OpenV _
  rw [List.drop_take, List.take_take, show min (4 + n - 4) (124 - 4) = n by omega]
  rfl
end
end Go.AM.G
set_option linter.unusedVariables false
set_option linter.unusedSimpArgs false
namespace Go.AM
variable {P : Program} {R α : Type} {f : α → Value} {t e : TypeId} {z : Value} {sz : Nat}
variable {B B0 H0 H : AH} {v w : Value} {ks l : List α} {X La Lb : List (Nat × Blk)} {g : Nat → Nat → Value → AH → Option R} {Q : R → Prop}
theorem permA (X La Lb : List (Nat × Blk)) : (La ++ (X ++ Lb)).Perm (X ++ (La ++ Lb)) := by
  rw [← List.append_assoc, ← List.append_assoc]
  exact List.Perm.append_right _ List.perm_append_comm
end Go.AM
set_option linter.unusedVariables false
set_option linter.unusedSimpArgs false
set_option maxRecDepth 100000
namespace Go.AM.G
open Go Go.AM Go.Proofs
attribute [local irreducible] run bin un ld st box newV mkS fldA fld ixA ix slc slc3 build buildS cv cvS ap cpy lenV gOp pickV b2 aIf aChk evalK resume iterD Option.bind

section
variable {B B0 H0 H : AH} {L : List (Nat × Blk)}
abbrev DK := IsDisk 55 5 72
/-- Behind a call that leaves a disk. -/
def DkP (H0 B0 B : AH) (L : List (Nat × Blk)) (p v : Value) (D : Dsk) (r : Value × AH) : Prop := r.1 = v ∧ ∃ Ls B', MoC B B' ∧ DK p D Ls ∧ St H0 B0 B' (Ls ++ L) r.2
theorem Sectors_spec {p : Value} {D : Dsk} {Ls Lx : List (Nat × Blk)} (hD : DK p D Ls) (hO : D.OK) (hS : St H0 B0 B Lx H) (hsub : ∀ x ∈ Ls, x ∈ Lx) :
    Ev (fun k _ => rn k 41 [p] H) (fun r => r = (i64 D.n, H)) := by
  obtain ⟨d, bb, cv, Lc, rfl, hG, rfl⟩ := hD
  have hi : InL d ⟨[sl bb 0 (64 * D.n) (64 * D.n), cv, .int .i64 D.fuse, .bool D.down], 55, .fix⟩ Lx := ⟨hsub _ (.head _)⟩
  refine Ev.fn (fun k => f41_eq k _ H) ?_
  have h1 := hO.n1
  have h2 := hO.n2
  repeat (first | refine Ev.s ?_ | refine Ev.newC fun _ _ _ => ?_ | refine Ev.boxC fun _ _ _ => ?_ | refine Ev.stC fun _ _ => ?_ | refine Ev.sc (by omega) ?_ | refine Ev.scg (by omega) ?_)
  have : 64 * D.n / 64 = D.n := by omega
  rw [this]
  exact Ev.ret rfl
theorem Down_spec {p : Value} {D : Dsk} {Ls Lx : List (Nat × Blk)} (hD : DK p D Ls) (hS : St H0 B0 B Lx H) (hsub : ∀ x ∈ Ls, x ∈ Lx) :
    Ev (fun k _ => rn k 19 [p] H) (fun r => r = (.bool D.down, H)) := by
  obtain ⟨d, bb, cv, Lc, rfl, hG, rfl⟩ := hD
  have hi : InL d ⟨[sl bb 0 (64 * D.n) (64 * D.n), cv, .int .i64 D.fuse, .bool D.down], 55, .fix⟩ Lx := ⟨hsub _ (.head _)⟩
  refine Ev.fn (fun k => f19_eq k _ H) ?_
  repeat (first | refine Ev.s ?_ | refine Ev.newC fun _ _ _ => ?_ | refine Ev.boxC fun _ _ _ => ?_ | refine Ev.stC fun _ _ => ?_ | refine Ev.sc (by omega) ?_ | refine Ev.scg (by omega) ?_)
  exact Ev.ret rfl
theorem lay_spec {d bb n a : Nat} {cv x y : Value} {bs s : List UInt8} (h2 : n ≤ 1024) (hl : bs.length = 64 * n) (ha : a < n) (hs : s.length ≤ 64)
    (hS : St H0 B0 B ((d, ⟨[sl bb 0 (64 * n) (64 * n), cv, x, y], 55, .fix⟩) :: (bb, ⟨byts bs, 5, .fix⟩) :: L) H) :
    Ev (fun k _ => rn k 37 [ptr d 0, i64 a, str s] H) (fun r => r.1 = .tuple #[] ∧ St H0 B0 B ((d, ⟨[sl bb 0 (64 * n) (64 * n), cv, x, y], 55, .fix⟩) :: (bb, ⟨byts (layB bs a s), 5, .fix⟩) :: L) r.2) := by
  refine Ev.fn (fun k => f37_eq k _ _ _ H) ?_
  repeat (first | refine Ev.s ?_ | refine Ev.newC fun _ _ _ => ?_ | refine Ev.boxC fun _ _ _ => ?_ | refine Ev.stC fun _ _ => ?_ | refine Ev.sc (by omega) ?_ | refine Ev.scg (by omega) ?_)
  refine Ev.prim (slc_own (t := 52) (by omega)) ?_
  rw [if_neg (by omega)]
  refine Ev.cpyStr (t := 52) hS (.tail _ (.head _)) (by omega) (by rw [byts_len]; omega) rfl (.tail _ (.head _)) fun H' hS' => ?_
  refine Ev.ret ⟨rfl, ?_⟩
  rw [byts_lay, Nat.mul_comm 64 a]
  exact hS'
theorem act_spec {d : Nat} {bv cv f : Value} {fu : Int} {dn : Bool} {Q : Value × AH → Prop} (hfu : -1 ≤ fu ∧ fu < 9223372036854775808) (hS : St H0 B0 B ((d, ⟨[bv, cv, .int .i64 fu, .bool dn], 55, .fix⟩) :: L) H)
    (h0 : fu = 0 → ∀ H', St H0 B0 B ((d, ⟨[bv, cv, .int .i64 fu, .bool true], 55, .fix⟩) :: L) H' → Q (.int .i64 7, H'))
    (h1 : fu ≠ 0 → ∀ H', St H0 B0 B ((d, ⟨[bv, cv, .int .i64 (max (fu - 1) (-1)), .bool dn], 55, .fix⟩) :: L) H' → Ev (fun k _ => callY (rn k) f [] H') (fun r => Q (.int .i64 0, r.2))) :
    Ev (fun k _ => rn k 43 [ptr d 0, f] H) Q := by
  refine Ev.fn (fun k => f43_eq k _ _ H) ?_
  repeat (first | refine Ev.s ?_ | refine Ev.newC fun _ _ _ => ?_ | refine Ev.boxC fun _ _ _ => ?_ | refine Ev.stC fun _ _ => ?_ | refine Ev.sc (by omega) ?_ | refine Ev.scg (by omega) ?_)
  by_cases hf : fu = 0
  · rw [decide_eq_true hf]
    repeat (first | refine Ev.s ?_ | refine Ev.newC fun _ _ _ => ?_ | refine Ev.boxC fun _ _ _ => ?_ | refine Ev.stC fun _ _ => ?_ | refine Ev.sc (by omega) ?_ | refine Ev.scg (by omega) ?_)
    exact Ev.ret (h0 hf _ (by assumption))
  · rw [decide_eq_false hf]
    repeat (first | refine Ev.s ?_ | refine Ev.newC fun _ _ _ => ?_ | refine Ev.boxC fun _ _ _ => ?_ | refine Ev.stC fun _ _ => ?_ | refine Ev.sc (by omega) ?_ | refine Ev.scg (by omega) ?_)
    rename_i H1 hS1
    rw [show (if -1 > fu - 1 then (-1 : Int) else fu - 1) = max (fu - 1) (-1) by omega] at hS1
    refine Ev.b2 (h1 hf _ hS1) fun v H' hq => ?_
    exact Ev.ret hq
theorem callY_fn {k : Nat} {g : FuncId} {xs ys : List Value} {args : List Value} {H : AH} (hg : g < yOff) : callY (rn k) (.func (.func g) ⟨xs⟩ ⟨ys⟩) args H = rn k g (xs ++ (args ++ ys)) H := by
  unfold callY callV
  simp only [show Nat.blt g yOff = true by rw [Nat.blt_eq]; exact hg, cond_true]
theorem front3 {x y z d : Nat × Blk} (h : St H0 B0 B (x :: y :: z :: d :: L) H) : St H0 B0 B (d :: x :: y :: z :: L) H := h.perm (List.perm_middle (l₁ := [x, y, z])).symm
theorem back3 {x y z d : Nat × Blk} (h : St H0 B0 B (d :: x :: y :: z :: L) H) : St H0 B0 B (d :: L) H := (h.perm (List.perm_middle (l₁ := [x, y, z]))).drop1.drop1.drop1
theorem toFront {X La : List (Nat × Blk)} (h : St H0 B0 B (La ++ (X ++ L)) H) : St H0 B0 B (X ++ (La ++ L)) H := h.perm (permA La X L)
theorem caCells_snoc (l : List (Nat × List UInt8)) (q : Nat) (s : List UInt8) : caCells (l ++ [(q, s)]) = caCells l ++ [i64 q, str s] := by simp [caCells]
theorem drop_3 {x y z : Nat × Blk} (h : St H0 B0 B (x :: y :: z :: L) H) : St H0 B0 B L H := h.drop1.drop1.drop1
end
end Go.AM.G
set_option linter.unusedVariables false
set_option linter.unusedSimpArgs false
set_option maxRecDepth 100000
namespace Go.AM.G
open Go Go.AM Go.Proofs
attribute [local irreducible] run bin un ld st box newV mkS fldA fld ixA ix slc slc3 build buildS cv cvS ap cpy lenV gOp pickV b2 aIf aChk evalK resume iterD Option.bind

section
variable {B B0 H0 H : AH} {L : List (Nat × Blk)}
theorem Write_spec {p : Value} {D : Dsk} {Ls : List (Nat × Blk)} {i : Int} {s : List UInt8} (hD : DK p D Ls) (hO : D.OK) (hc : D.cache.length < 1000000000000) (hS : St H0 B0 B (Ls ++ L) H) :
    Ev (fun k _ => rn k 48 [p, .int .i64 i, str s] H) (DkP H0 B0 B L p (.int .i64 (D.write i s).1) (D.write i s).2) := by
  have hD0 := hD
  obtain ⟨n, bytes, cache, fu, dn⟩ := D
  obtain ⟨d, bb, cv, Lc, rfl, hG, rfl⟩ := hD
  have h1 := hO.n1
  have h2 := hO.n2
  have hfu := hO.fu
  dsimp only at hS hc h1 h2 hfu hG hD0
  simp only [List.cons_append] at hS
  have hcell := hG.cell
  refine Ev.fn (fun k => f48_eq k _ _ _ H) ?_
  have back : ∀ H', St H0 B0 B ((d, ⟨[sl bb 0 (64 * n) (64 * n), cv, .int .i64 fu, .bool dn], 55, .fix⟩) :: (bb, ⟨byts bytes, 5, .fix⟩) :: (Lc ++ L)) H' → ∃ Ls B', MoC B B' ∧ DK (ptr d 0) ⟨n, bytes, cache, fu, dn⟩ Ls ∧ St H0 B0 B' (Ls ++ L) H' := fun H' h => ⟨_, B, ⟨Mo.refl B⟩, hD0, h⟩
  repeat (first | refine Ev.s ?_ | refine Ev.newC fun _ _ _ => ?_ | refine Ev.boxC fun _ _ _ => ?_ | refine Ev.stC fun _ _ => ?_ | refine Ev.sc (by omega) ?_ | refine Ev.scg (by omega) ?_)
  rename_i b1 H1 hS1 b2 H2 hS2 b3 H3 hS3
  unfold Dsk.write
  dsimp only
  cases dn with
  | true =>
    repeat (first | refine Ev.s ?_ | refine Ev.newC fun _ _ _ => ?_ | refine Ev.boxC fun _ _ _ => ?_ | refine Ev.stC fun _ _ => ?_ | refine Ev.sc (by omega) ?_ | refine Ev.scg (by omega) ?_)
    exact Ev.ret ⟨rfl, back _ (drop_3 hS3)⟩
  | false =>
    repeat (first | refine Ev.s ?_ | refine Ev.newC fun _ _ _ => ?_ | refine Ev.boxC fun _ _ _ => ?_ | refine Ev.stC fun _ _ => ?_ | refine Ev.sc (by omega) ?_ | refine Ev.scg (by omega) ?_)
    rw [if_neg (fun h => by cases h)]
    by_cases hi : i < 0
    · rw [decide_eq_true hi, if_pos (.inl hi)]
      repeat (first | refine Ev.s ?_ | refine Ev.newC fun _ _ _ => ?_ | refine Ev.boxC fun _ _ _ => ?_ | refine Ev.stC fun _ _ => ?_ | refine Ev.sc (by omega) ?_ | refine Ev.scg (by omega) ?_)
      exact Ev.ret ⟨rfl, back _ (drop_3 hS3)⟩
    rw [decide_eq_false hi]
    obtain ⟨q, rfl⟩ : ∃ q : Nat, i = q := ⟨i.toNat, by omega⟩
    repeat (first | refine Ev.s ?_ | refine Ev.newC fun _ _ _ => ?_ | refine Ev.boxC fun _ _ _ => ?_ | refine Ev.stC fun _ _ => ?_ | refine Ev.sc (by omega) ?_ | refine Ev.scg (by omega) ?_)
    refine Ev.b2 (Sectors_spec hD0 hO hS3 ?_) ?_
    · intro x hx
      exact .tail _ (.tail _ (.tail _ (by rw [← List.cons_append, ← List.cons_append]; exact List.mem_append_left _ hx)))
    rintro _ _ ⟨rfl, rfl⟩
    repeat (first | refine Ev.s ?_ | refine Ev.newC fun _ _ _ => ?_ | refine Ev.boxC fun _ _ _ => ?_ | refine Ev.stC fun _ _ => ?_ | refine Ev.sc (by omega) ?_ | refine Ev.scg (by omega) ?_)
    by_cases hq : n ≤ q
    · rw [decide_eq_true hq, if_pos (.inr (.inl (by omega)))]
      repeat (first | refine Ev.s ?_ | refine Ev.newC fun _ _ _ => ?_ | refine Ev.boxC fun _ _ _ => ?_ | refine Ev.stC fun _ _ => ?_ | refine Ev.sc (by omega) ?_ | refine Ev.scg (by omega) ?_)
      exact Ev.ret ⟨rfl, back _ (drop_3 hS3)⟩
    rw [decide_eq_false hq]
    repeat (first | refine Ev.s ?_ | refine Ev.newC fun _ _ _ => ?_ | refine Ev.boxC fun _ _ _ => ?_ | refine Ev.stC fun _ _ => ?_ | refine Ev.sc (by omega) ?_ | refine Ev.scg (by omega) ?_)
    by_cases hl : s.length = 64
    · rw [decide_eq_false (fun h => h hl), if_neg (by omega)]
      repeat (first | refine Ev.s ?_ | refine Ev.newC fun _ _ _ => ?_ | refine Ev.boxC fun _ _ _ => ?_ | refine Ev.stC fun _ _ => ?_ | refine Ev.sc (by omega) ?_ | refine Ev.scg (by omega) ?_)
      rw [show (fun k n : Nat => AM.b2 (rn k 43 [ptr d 0, .func (.func 55) #[] #[ptr b1 0, ptr b2 0, ptr b3 0]] H3) fun v20 h20 => some (v20, h20)) = fun k n => rn k 43 [ptr d 0, .func (.func 55) #[] #[ptr b1 0, ptr b2 0, ptr b3 0]] H3 from funext fun k => funext fun _ => b2_id _]
      refine act_spec hfu (front3 hS3) (fun h0 H' hS' => ?_) (fun h0 H' hS' => ?_)
      · unfold Dsk.act
        dsimp only
        rw [if_pos h0]
        exact ⟨rfl, _, B, ⟨Mo.refl B⟩, ⟨d, bb, cv, Lc, rfl, hG, rfl⟩, back3 hS'⟩
      · unfold Dsk.act
        dsimp only
        rw [if_neg h0]
        simp only [callY_fn (show 55 < yOff by unfold yOff; omega)]
        clear hS hS1 hS2 hS3 back
        refine Ev.fn (fun k => f55_eq k _ _ _ H') ?_
        repeat (first | refine Ev.s ?_ | refine Ev.newC fun _ _ _ => ?_ | refine Ev.boxC fun _ _ _ => ?_ | refine Ev.stC fun _ _ => ?_ | refine Ev.sc (by omega) ?_ | refine Ev.scg (by omega) ?_)
        have hS4 := toFront (X := Lc) (La := [(d, _), (b3, _), (b2, _), (b1, _), (bb, _)]) (L := L) hS'
        refine GAcc.push (ds := [i64 q, str s]) (hG.acc hS4) rfl rfl rfl rfl (by omega) (by omega) fun v' B' H5 hm hA => ?_
        obtain ⟨Lx, hG5, hS5⟩ := hA.grs
        have hS6 := toFront (X := [(d, _), (b3, _), (b2, _), (b1, _), (bb, _)]) (La := Lx) (L := L) hS5
        simp only [List.cons_append, List.nil_append] at hS6
        have hcell5 := hG5.cell
        clear hS' hS4 hS5 hA
        repeat (first | refine Ev.s ?_ | refine Ev.newC fun _ _ _ => ?_ | refine Ev.boxC fun _ _ _ => ?_ | refine Ev.stC fun _ _ => ?_ | refine Ev.sc (by omega) ?_ | refine Ev.scg (by omega) ?_)
        rename_i H6 hS7
        refine Ev.ret ⟨rfl, _, B', hm, ⟨d, bb, v', Lx, rfl, ?_, rfl⟩, back3 hS7⟩
        unfold Dsk.put
        dsimp only
        rw [caCells_snoc, List.length_append]
        exact hG5
    · rw [decide_eq_true hl, if_pos (.inr (.inr hl))]
      repeat (first | refine Ev.s ?_ | refine Ev.newC fun _ _ _ => ?_ | refine Ev.boxC fun _ _ _ => ?_ | refine Ev.stC fun _ _ => ?_ | refine Ev.sc (by omega) ?_ | refine Ev.scg (by omega) ?_)
      exact Ev.ret ⟨rfl, back _ (drop_3 hS3)⟩
end
end Go.AM.G
set_option linter.unusedVariables false
set_option linter.unusedSimpArgs false
set_option maxRecDepth 100000
namespace Go.AM.G
open Go Go.AM Go.Proofs
attribute [local irreducible] run bin un ld st box newV mkS fldA fld ixA ix slc slc3 build buildS cv cvS ap cpy lenV gOp pickV b2 aIf aChk evalK resume iterD Option.bind

section
variable {B B0 H0 H : AH} {L : List (Nat × Blk)}
theorem New_spec {n : Nat} (h1 : 1 ≤ n) (h2 : n ≤ 1024) (hS : St H0 B0 B L H) :
    Ev (fun k _ => rn k 7 [i64 n] H) (fun r => ∃ p Ls B', r.1 = .tuple #[p, .int .i64 0] ∧ MoC B B' ∧ DK p (Dsk.new n) Ls ∧ St H0 B0 B' (Ls ++ L) r.2) := by
  refine Ev.fn (fun k => f7_eq k _ H) ?_
  repeat (first | refine Ev.s ?_ | refine Ev.newC fun _ _ _ => ?_ | refine Ev.boxC fun _ _ _ => ?_ | refine Ev.stC fun _ _ => ?_ | refine Ev.sc (by omega) ?_ | refine Ev.scg (by omega) ?_)
  rw [decide_eq_false (by omega)]
  repeat (first | refine Ev.s ?_ | refine Ev.newC fun _ _ _ => ?_ | refine Ev.boxC fun _ _ _ => ?_ | refine Ev.stC fun _ _ => ?_ | refine Ev.sc (by omega) ?_ | refine Ev.scg (by omega) ?_)
  rw [decide_eq_false (by omega)]
  repeat (first | refine Ev.s ?_ | refine Ev.newC fun _ _ _ => ?_ | refine Ev.boxC fun _ _ _ => ?_ | refine Ev.stC fun _ _ => ?_ | refine Ev.sc (by omega) ?_ | refine Ev.scg (by omega) ?_)
  refine Ev.mkS (t := 52) inferInstance hS (by omega) (by omega) fun bb B' H' hm hS' => ?_
  clear hS
  repeat (first | refine Ev.s ?_ | refine Ev.newC fun _ _ _ => ?_ | refine Ev.boxC fun _ _ _ => ?_ | refine Ev.stC fun _ _ => ?_ | refine Ev.sc (by omega) ?_ | refine Ev.scg (by omega) ?_)
  rename_i d H1 hS1
  refine Ev.ret ⟨_, _, B', rfl, ⟨hm⟩, ⟨d, bb, _, [], rfl, .inl ⟨rfl, rfl, .inl rfl, rfl⟩, rfl⟩, ?_⟩
  unfold Dsk.new
  dsimp only
  rw [byts_rep, Nat.mul_comm 64 n]
  exact hS1
/-- The barrier's rounds. -/
theorem barrier_loop {b1 d bb : Nat} {cv : Value} {Lc : List (Nat × Blk)} {D : Dsk} (hO : D.OK) (hG : GRS 72 2 cv D.cache.length (caCells D.cache) Lc) (hc : D.cache.length < 1000000000000) :
    ∀ (m i : Nat) (B H : AH), i + m = D.cache.length → St H0 B0 B ((b1, ⟨[ptr d 0], 23, .fix⟩) :: (d, ⟨[sl bb 0 (64 * D.n) (64 * D.n), cv, .int .i64 D.fuse, .bool D.down], 55, .fix⟩) :: (bb, ⟨byts (layAll (D.cache.take i) D.bytes), 5, .fix⟩) :: (Lc ++ L)) H →
    Ev (fun k K => f44_L0 k (ptr b1 0) cv (i64 D.cache.length) (i64 i) K H) (fun o => ∃ B' H', o = (.exit 0, f44_X_L0 (ptr b1 0), H') ∧ MoC B B' ∧
      St H0 B0 B' ((b1, ⟨[ptr d 0], 23, .fix⟩) :: (d, ⟨[sl bb 0 (64 * D.n) (64 * D.n), cv, .int .i64 D.fuse, .bool D.down], 55, .fix⟩) :: (bb, ⟨byts (layAll D.cache D.bytes), 5, .fix⟩) :: (Lc ++ L)) H') := by
  intro m
  induction m with
  | zero =>
    intro i B H hi hS
    refine Ev.succ (fun k K => f44_L0_succ k _ _ _ _ K H) ?_
    repeat (first | refine Ev.s ?_ | refine Ev.newC fun _ _ _ => ?_ | refine Ev.boxC fun _ _ _ => ?_ | refine Ev.stC fun _ _ => ?_ | refine Ev.sc (by omega) ?_ | refine Ev.scg (by omega) ?_)
    rw [decide_eq_false (by omega)]
    repeat (first | refine Ev.s ?_ | refine Ev.newC fun _ _ _ => ?_ | refine Ev.boxC fun _ _ _ => ?_ | refine Ev.stC fun _ _ => ?_ | refine Ev.sc (by omega) ?_ | refine Ev.scg (by omega) ?_)
    rw [List.take_of_length_le (by omega)] at hS
    exact Ev.ret ⟨B, H, rfl, ⟨Mo.refl B⟩, hS⟩
  | succ m ih =>
    intro i B H hi hS
    refine Ev.succ (fun k K => f44_L0_succ k _ _ _ _ K H) ?_
    repeat (first | refine Ev.s ?_ | refine Ev.newC fun _ _ _ => ?_ | refine Ev.boxC fun _ _ _ => ?_ | refine Ev.stC fun _ _ => ?_ | refine Ev.sc (by omega) ?_ | refine Ev.scg (by omega) ?_)
    rw [decide_eq_true (by omega)]
    repeat (first | refine Ev.s ?_ | refine Ev.newC fun _ _ _ => ?_ | refine Ev.boxC fun _ _ _ => ?_ | refine Ev.stC fun _ _ => ?_ | refine Ev.sc (by omega) ?_ | refine Ev.scg (by omega) ?_)
    obtain ⟨⟨a, s⟩, ha⟩ : ∃ x, D.cache[i]? = some x := ⟨_, List.getElem?_eq_getElem (by omega)⟩
    have hmem := hO.ca (a, s) (List.mem_of_getElem? ha)
    dsimp only at hmem
    have hN := hG.now hS (fun p hp => .tail _ (.tail _ (.tail _ (List.mem_append_left _ hp))))
    obtain ⟨p, q1, q2⟩ := hN.ldAt (P := Tryd.prog) (t := 53) (k := .i64) (i := i) (by omega) (AggOf.eq (P := Tryd.prog) (t := 72))
    rw [caCells_at ha] at q2
    refine Ev.prim q1 ?_
    refine Ev.prim q2 ?_
    repeat (first | refine Ev.s ?_ | refine Ev.newC fun _ _ _ => ?_ | refine Ev.boxC fun _ _ _ => ?_ | refine Ev.stC fun _ _ => ?_ | refine Ev.sc (by omega) ?_ | refine Ev.scg (by omega) ?_)
    rename_i b2 H2 hS2 H3 hS3
    have hS4 := hS3.perm (show ([(d, _), (bb, _), (b2, _), (b1, _)] ++ (Lc ++ L)).Perm _ from (List.Perm.append_right _ (perm22 _ _ _ _)))
    refine Ev.b2 (lay_spec (n := D.n) hO.n2 (layAll_len _ _ _ hO.len fun p hp => hO.ca p (List.mem_of_mem_take hp)) hmem.1 (by omega) hS4) ?_
    rintro _ H5 ⟨_, hS5⟩
    dsimp only at hS5
    rw [← lay_at ha] at hS5
    repeat (first | refine Ev.s ?_ | refine Ev.newC fun _ _ _ => ?_ | refine Ev.boxC fun _ _ _ => ?_ | refine Ev.stC fun _ _ => ?_ | refine Ev.sc (by omega) ?_ | refine Ev.scg (by omega) ?_)
    have hS6 := (hS5.perm (show ([(b2, _), (b1, _), (d, _), (bb, _)] ++ (Lc ++ L)).Perm _ from (List.Perm.append_right _ (perm22 _ _ _ _)))).drop1
    exact ih (i + 1) B H5 (by omega) hS6
theorem Barrier1_spec {b1 d bb : Nat} {cv : Value} {Lc : List (Nat × Blk)} {D : Dsk} (hO : D.OK) (hG : GRS 72 2 cv D.cache.length (caCells D.cache) Lc) (hc : D.cache.length < 1000000000000)
    (hS : St H0 B0 B ((b1, ⟨[ptr d 0], 23, .fix⟩) :: (d, ⟨[sl bb 0 (64 * D.n) (64 * D.n), cv, .int .i64 D.fuse, .bool D.down], 55, .fix⟩) :: (bb, ⟨byts D.bytes, 5, .fix⟩) :: (Lc ++ L)) H) :
    Ev (fun k _ => rn k 44 [ptr b1 0] H) (DkP H0 B0 B L (ptr d 0) (.tuple #[]) D.flush) := by
  refine Ev.fn (fun k => f44_eq k _ H) ?_
  have hcell := hG.cell
  repeat (first | refine Ev.s ?_ | refine Ev.newC fun _ _ _ => ?_ | refine Ev.boxC fun _ _ _ => ?_ | refine Ev.stC fun _ _ => ?_ | refine Ev.sc (by omega) ?_ | refine Ev.scg (by omega) ?_)
  refine Ev.prim (hG.len (Und.eq (P := Tryd.prog) (t := 53))) ?_
  refine Ev.bind (Ev.loop (barrier_loop hO hG hc D.cache.length 0 B H (by omega) hS)) ?_
  rintro _ ⟨B', H', rfl, hm, hS'⟩
  refine Ev.eq (fun k _ => f44_A0_x0 k _ _) ?_
  clear hS
  repeat (first | refine Ev.s ?_ | refine Ev.newC fun _ _ _ => ?_ | refine Ev.boxC fun _ _ _ => ?_ | refine Ev.stC fun _ _ => ?_ | refine Ev.sc (by omega) ?_ | refine Ev.scg (by omega) ?_)
  rename_i H1 hS1
  have hS2 := (toFront (X := Lc) (La := [(b1, _), (d, _), (bb, _)]) (L := L) hS1)
  refine Ev.ret ⟨rfl, _, B', hm, ⟨d, bb, _, [], rfl, .inl ⟨rfl, rfl, .inl rfl, rfl⟩, rfl⟩, ?_⟩
  have hS3 : St H0 B0 B' ([(b1, _), (d, _), (bb, _)] ++ L) H1 := hS2.drop (List.sublist_append_right _ _)
  exact hS3.drop1
theorem Barrier_spec {p : Value} {D : Dsk} {Ls : List (Nat × Blk)} (hD : DK p D Ls) (hO : D.OK) (hc : D.cache.length < 1000000000000) (hS : St H0 B0 B (Ls ++ L) H) :
    Ev (fun k _ => rn k 28 [p] H) (DkP H0 B0 B L p (.int .i64 D.barrier.1) D.barrier.2) := by
  have hD0 := hD
  obtain ⟨n, bytes, cache, fu, dn⟩ := D
  obtain ⟨d, bb, cv, Lc, rfl, hG, rfl⟩ := hD
  have hfu := hO.fu
  dsimp only at hS hc hfu hG hD0
  simp only [List.cons_append] at hS
  have hcell := hG.cell
  refine Ev.fn (fun k => f28_eq k _ H) ?_
  repeat (first | refine Ev.s ?_ | refine Ev.newC fun _ _ _ => ?_ | refine Ev.boxC fun _ _ _ => ?_ | refine Ev.stC fun _ _ => ?_ | refine Ev.sc (by omega) ?_ | refine Ev.scg (by omega) ?_)
  rename_i b1 H1 hS1
  unfold Dsk.barrier
  dsimp only
  cases dn with
  | true =>
    repeat (first | refine Ev.s ?_ | refine Ev.newC fun _ _ _ => ?_ | refine Ev.boxC fun _ _ _ => ?_ | refine Ev.stC fun _ _ => ?_ | refine Ev.sc (by omega) ?_ | refine Ev.scg (by omega) ?_)
    exact Ev.ret ⟨rfl, _, B, ⟨Mo.refl B⟩, hD0, hS1.drop1⟩
  | false =>
    repeat (first | refine Ev.s ?_ | refine Ev.newC fun _ _ _ => ?_ | refine Ev.boxC fun _ _ _ => ?_ | refine Ev.stC fun _ _ => ?_ | refine Ev.sc (by omega) ?_ | refine Ev.scg (by omega) ?_)
    rw [if_neg (fun h => by cases h)]
    rw [show (fun k n : Nat => AM.b2 (rn k 43 [ptr d 0, .func (.func 44) #[] #[ptr b1 0]] H1) fun v20 h20 => some (v20, h20)) = fun k n => rn k 43 [ptr d 0, .func (.func 44) #[] #[ptr b1 0]] H1 from funext fun k => funext fun _ => b2_id _]
    refine act_spec hfu (hS1.perm (List.Perm.swap _ _ _)) (fun h0 H' hS' => ?_) (fun h0 H' hS' => ?_)
    · unfold Dsk.act
      dsimp only
      rw [if_pos h0]
      exact ⟨rfl, _, B, ⟨Mo.refl B⟩, ⟨d, bb, cv, Lc, rfl, hG, rfl⟩, (hS'.perm (List.Perm.swap _ _ _)).drop1⟩
    · unfold Dsk.act
      dsimp only
      rw [if_neg h0]
      simp only [callY_fn (show 44 < yOff by unfold yOff; omega)]
      refine (Barrier1_spec (D := ⟨n, bytes, cache, max (fu - 1) (-1), false⟩) hO.actD hG hc (hS'.perm (List.Perm.swap _ _ _))).mono ?_
      rintro ⟨v, H2⟩ ⟨_, hq⟩
      exact ⟨rfl, hq⟩
end
end Go.AM.G
set_option linter.unusedVariables false
set_option linter.unusedSimpArgs false
set_option maxRecDepth 100000
namespace Go.AM.G
open Go Go.AM Go.Proofs
attribute [local irreducible] run bin un ld st box newV mkS fldA fld ixA ix slc slc3 build buildS cv cvS ap cpy lenV gOp pickV b2 aIf aChk evalK resume iterD Option.bind

section
variable {B B0 H0 H : AH} {L : List (Nat × Blk)}
theorem callV_fn {k : Nat} {g : FuncId} {xs ys : List Value} {args : List Value} {H : AH} (hg : g < yOff) : callV (rn k) (.func (.func g) ⟨xs⟩ ⟨ys⟩) args H = rn k g (xs ++ (args ++ ys)) H := by
  unfold callV
  simp only [show Nat.blt g yOff = true by rw [Nat.blt_eq]; exact hg, cond_true]
abbrev RdT9 (b1 b2 b3 : Nat) : List Value := f49_T_R0 (ptr b1 0) (ptr b2 0) (ptr b3 0)
theorem read_loop {b bx b1 b2 b3 i : Nat} {cv : Value} {cache : List (Nat × List UInt8)} {Lc : List (Nat × Blk)} (hG : GRS 72 2 cv cache.length (caCells cache) Lc) (hc : cache.length < 1000000000000) :
    ∀ (m : Nat) (B H : AH), m ≤ cache.length → St H0 B0 B ((b, ⟨.int .i64 (0 : Nat) :: RdT9 b1 b2 b3, 7, .loop 49 7⟩) :: (bx, ⟨[cv], 53, .fix⟩) :: (b3, ⟨[.int .i64 0], 24, .fix⟩) :: (b2, ⟨[.string ByteArray.empty], 9, .fix⟩) :: (b1, ⟨[i64 i], 3, .fix⟩) :: (Lc ++ L)) H →
    Ev (fun k K => f72_L0 k (.func (.yield b) #[] #[]) (ptr bx 0) (.int .i64 ((m : Int) - 1)) K H) (fun o => ∃ B' H', MoC B B' ∧
      ((find (cache.take m) i = none ∧ o = (.exit 0, f72_X_L0, H') ∧ St H0 B0 B' ((b, ⟨.int .i64 (xSt .normal : Nat) :: RdT9 b1 b2 b3, 7, .loop 49 7⟩) :: (bx, ⟨[cv], 53, .fix⟩) :: (b3, ⟨[.int .i64 0], 24, .fix⟩) :: (b2, ⟨[.string ByteArray.empty], 9, .fix⟩) :: (b1, ⟨[i64 i], 3, .fix⟩) :: (Lc ++ L)) H') ∨
       ∃ s, find (cache.take m) i = some s ∧ o = (.ret, f72_X_L0, H') ∧ St H0 B0 B' ((b, ⟨.int .i64 (xSt .ret : Nat) :: RdT9 b1 b2 b3, 7, .loop 49 7⟩) :: (bx, ⟨[cv], 53, .fix⟩) :: (b3, ⟨[.int .i64 0], 24, .fix⟩) :: (b2, ⟨[str s], 9, .fix⟩) :: (b1, ⟨[i64 i], 3, .fix⟩) :: (Lc ++ L)) H')) := by
  intro m
  induction m with
  | zero =>
    intro B H hm hS
    refine Ev.succ (fun k K => f72_L0_succ k _ _ _ K H) ?_
    repeat (first | refine Ev.s ?_ | refine Ev.newC fun _ _ _ => ?_ | refine Ev.boxC fun _ _ _ => ?_ | refine Ev.stC fun _ _ => ?_ | refine Ev.sc (by omega) ?_ | refine Ev.scg (by omega) ?_)
    rw [decide_eq_false (by omega)]
    repeat (first | refine Ev.s ?_ | refine Ev.newC fun _ _ _ => ?_ | refine Ev.boxC fun _ _ _ => ?_ | refine Ev.stC fun _ _ => ?_ | refine Ev.sc (by omega) ?_ | refine Ev.scg (by omega) ?_)
    exact Ev.ret ⟨B, H, ⟨Mo.refl B⟩, .inl ⟨rfl, rfl, hS⟩⟩
  | succ m ih =>
    intro B H hm hS
    refine Ev.succ (fun k K => f72_L0_succ k _ _ _ K H) ?_
    rw [show ((m + 1 : Nat) : Int) - 1 = (m : Int) by omega]
    have hcell := hG.cell
    repeat (first | refine Ev.s ?_ | refine Ev.newC fun _ _ _ => ?_ | refine Ev.boxC fun _ _ _ => ?_ | refine Ev.stC fun _ _ => ?_ | refine Ev.sc (by omega) ?_ | refine Ev.scg (by omega) ?_)
    rw [decide_eq_true (by omega)]
    repeat (first | refine Ev.s ?_ | refine Ev.newC fun _ _ _ => ?_ | refine Ev.boxC fun _ _ _ => ?_ | refine Ev.stC fun _ _ => ?_ | refine Ev.sc (by omega) ?_ | refine Ev.scg (by omega) ?_)
    obtain ⟨⟨a, s⟩, ha, htk⟩ := take_ex (l := cache) (m := m) (by omega)
    have hN := hG.now hS (fun p hp => .tail _ (.tail _ (.tail _ (.tail _ (.tail _ (List.mem_append_left _ hp))))))
    obtain ⟨p, q1, q2⟩ := ScN.ldAt (P := Tryd.prog) (t := 53) (k := .i64) (i := m) hN (by omega) (AggOf.eq (P := Tryd.prog) (t := 72))
    rw [caCells_at ha] at q2
    refine Ev.prim q1 ?_
    refine Ev.prim q2 ?_
    rw [htk, find_snoc]
    refine Ev.b2 (Q1 := fun r => ∃ B', MoC B B' ∧ ((a ≠ i ∧ r.1 = .bool true ∧ St H0 B0 B' ((b, ⟨.int .i64 (0 : Nat) :: RdT9 b1 b2 b3, 7, .loop 49 7⟩) :: (bx, ⟨[cv], 53, .fix⟩) :: (b3, ⟨[.int .i64 0], 24, .fix⟩) :: (b2, ⟨[.string ByteArray.empty], 9, .fix⟩) :: (b1, ⟨[i64 i], 3, .fix⟩) :: (Lc ++ L)) r.2) ∨
        (a = i ∧ r.1 = .bool false ∧ St H0 B0 B' ((b, ⟨.int .i64 (xSt .ret : Nat) :: RdT9 b1 b2 b3, 7, .loop 49 7⟩) :: (bx, ⟨[cv], 53, .fix⟩) :: (b3, ⟨[.int .i64 0], 24, .fix⟩) :: (b2, ⟨[str s], 9, .fix⟩) :: (b1, ⟨[i64 i], 3, .fix⟩) :: (Lc ++ L)) r.2)))
      (Ev.fn (fun k => f49_Y0_eq k _ _ _ _ _ b H (hS.get (.head _))) ?_) ?_
    · repeat (first | refine Ev.s ?_ | refine Ev.newC fun _ _ _ => ?_ | refine Ev.boxC fun _ _ _ => ?_ | refine Ev.stC fun _ _ => ?_ | refine Ev.sc (by omega) ?_ | refine Ev.scg (by omega) ?_)
      rename_i bv H1 hS1 H2 hS2
      refine Ev.setSt (c := 0) (d := 1) hS2 (.tail _ (.head _)) (.tail _ (.head _)) fun H3 hS3 => ?_
      clear hS hS1 hS2 hN q1 q2
      repeat (first | refine Ev.s ?_ | refine Ev.newC fun _ _ _ => ?_ | refine Ev.boxC fun _ _ _ => ?_ | refine Ev.stC fun _ _ => ?_ | refine Ev.sc (by omega) ?_ | refine Ev.scg (by omega) ?_)
      by_cases hai : a = i
      · rw [decide_eq_true hai]
        repeat (first | refine Ev.s ?_ | refine Ev.newC fun _ _ _ => ?_ | refine Ev.boxC fun _ _ _ => ?_ | refine Ev.stC fun _ _ => ?_ | refine Ev.sc (by omega) ?_ | refine Ev.scg (by omega) ?_)
        rename_i H4 hS4 H5 hS5
        refine Ev.setSt (c := 1) (d := 2) hS5 (.tail _ (.head _)) (.tail _ (.head _)) fun H6 hS6 => ?_
        exact Ev.ret ⟨B, ⟨Mo.refl B⟩, .inr ⟨hai, rfl, hS6.drop1⟩⟩
      · rw [decide_eq_false hai]
        repeat (first | refine Ev.s ?_ | refine Ev.newC fun _ _ _ => ?_ | refine Ev.boxC fun _ _ _ => ?_ | refine Ev.stC fun _ _ => ?_ | refine Ev.sc (by omega) ?_ | refine Ev.scg (by omega) ?_)
        refine Ev.setSt (c := 1) (d := 0) hS3 (.tail _ (.head _)) (.tail _ (.head _)) fun H6 hS6 => ?_
        exact Ev.ret ⟨B, ⟨Mo.refl B⟩, .inl ⟨hai, rfl, hS6.drop1⟩⟩
    · rintro v H' ⟨B', hm1, ⟨hai, rfl, hS'⟩ | ⟨hai, rfl, hS'⟩⟩
      · rw [if_neg hai]
        clear hS
        repeat (first | refine Ev.s ?_ | refine Ev.newC fun _ _ _ => ?_ | refine Ev.boxC fun _ _ _ => ?_ | refine Ev.stC fun _ _ => ?_ | refine Ev.sc (by omega) ?_ | refine Ev.scg (by omega) ?_)
        refine Ev.prim (bin_sub64 (by omega)) ?_
        refine (ih B' H' (by omega) hS').mono ?_
        rintro o ⟨B2, H2, hm2, h⟩
        exact ⟨B2, H2, ⟨hm1.mo.trans hm2.mo⟩, h⟩
      · rw [if_pos hai]
        clear hS
        repeat (first | refine Ev.s ?_ | refine Ev.newC fun _ _ _ => ?_ | refine Ev.boxC fun _ _ _ => ?_ | refine Ev.stC fun _ _ => ?_ | refine Ev.sc (by omega) ?_ | refine Ev.scg (by omega) ?_)
        exact Ev.ret ⟨B', H', hm1, .inr ⟨s, rfl, rfl, hS'⟩⟩
theorem Read_spec {p : Value} {D : Dsk} {Ls : List (Nat × Blk)} {i : Int} (hD : DK p D Ls) (hO : D.OK) (hc : D.cache.length < 1000000000000) (hS : St H0 B0 B (Ls ++ L) H) :
    Ev (fun k _ => rn k 49 [p, .int .i64 i] H) (fun r => r.1 = .tuple #[str (D.read i).1, .int .i64 (D.read i).2] ∧ ∃ B', MoC B B' ∧ St H0 B0 B' (Ls ++ L) r.2) := by
  have hD0 := hD
  obtain ⟨n, bytes, cache, fu, dn⟩ := D
  obtain ⟨d, bb, cv, Lc, rfl, hG, rfl⟩ := hD
  have h1 := hO.n1
  have h2 := hO.n2
  have hlen := hO.len
  dsimp only at hS hc hG hD0 h1 h2 hlen
  simp only [List.cons_append] at hS ⊢
  have hcell := hG.cell
  refine Ev.fn (fun k => f49_eq k _ _ H) ?_
  repeat (first | refine Ev.s ?_ | refine Ev.newC fun _ _ _ => ?_ | refine Ev.boxC fun _ _ _ => ?_ | refine Ev.stC fun _ _ => ?_ | refine Ev.sc (by omega) ?_ | refine Ev.scg (by omega) ?_)
  rename_i b1 H1 hS1 b2 H2 hS2 b3 H3 hS3
  unfold Dsk.read
  dsimp only
  cases dn with
  | true =>
    clear hS hS1 hS2
    repeat (first | refine Ev.s ?_ | refine Ev.newC fun _ _ _ => ?_ | refine Ev.boxC fun _ _ _ => ?_ | refine Ev.stC fun _ _ => ?_ | refine Ev.sc (by omega) ?_ | refine Ev.scg (by omega) ?_)
    rename_i H4 hS4 H5 hS5
    exact Ev.ret ⟨rfl, B, ⟨Mo.refl B⟩, drop_3 hS5⟩
  | false =>
    clear hS hS1 hS2
    repeat (first | refine Ev.s ?_ | refine Ev.newC fun _ _ _ => ?_ | refine Ev.boxC fun _ _ _ => ?_ | refine Ev.stC fun _ _ => ?_ | refine Ev.sc (by omega) ?_ | refine Ev.scg (by omega) ?_)
    rw [if_neg (fun h => by cases h)]
    by_cases hi : i < 0
    · rw [decide_eq_true hi, if_pos (.inl hi)]
      repeat (first | refine Ev.s ?_ | refine Ev.newC fun _ _ _ => ?_ | refine Ev.boxC fun _ _ _ => ?_ | refine Ev.stC fun _ _ => ?_ | refine Ev.sc (by omega) ?_ | refine Ev.scg (by omega) ?_)
      rename_i H4 hS4 H5 hS5
      exact Ev.ret ⟨rfl, B, ⟨Mo.refl B⟩, drop_3 hS5⟩
    rw [decide_eq_false hi]
    obtain ⟨q, rfl⟩ : ∃ q : Nat, i = q := ⟨i.toNat, by omega⟩
    repeat (first | refine Ev.s ?_ | refine Ev.newC fun _ _ _ => ?_ | refine Ev.boxC fun _ _ _ => ?_ | refine Ev.stC fun _ _ => ?_ | refine Ev.sc (by omega) ?_ | refine Ev.scg (by omega) ?_)
    refine Ev.b2 (Sectors_spec hD0 hO hS3 ?_) ?_
    · intro x hx
      exact .tail _ (.tail _ (.tail _ (by rw [← List.cons_append, ← List.cons_append]; exact List.mem_append_left _ hx)))
    rintro _ _ ⟨rfl, rfl⟩
    repeat (first | refine Ev.s ?_ | refine Ev.newC fun _ _ _ => ?_ | refine Ev.boxC fun _ _ _ => ?_ | refine Ev.stC fun _ _ => ?_ | refine Ev.sc (by omega) ?_ | refine Ev.scg (by omega) ?_)
    by_cases hq : n ≤ q
    · rw [decide_eq_true hq, if_pos (.inr (by omega))]
      repeat (first | refine Ev.s ?_ | refine Ev.newC fun _ _ _ => ?_ | refine Ev.boxC fun _ _ _ => ?_ | refine Ev.stC fun _ _ => ?_ | refine Ev.sc (by omega) ?_ | refine Ev.scg (by omega) ?_)
      rename_i H4 hS4 H5 hS5
      exact Ev.ret ⟨rfl, B, ⟨Mo.refl B⟩, drop_3 hS5⟩
    rw [decide_eq_false hq, if_neg (by omega)]
    repeat (first | refine Ev.s ?_ | refine Ev.newC fun _ _ _ => ?_ | refine Ev.boxC fun _ _ _ => ?_ | refine Ev.stC fun _ _ => ?_ | refine Ev.sc (by omega) ?_ | refine Ev.scg (by omega) ?_)
    refine Ev.b2 (Q1 := fun r => ∃ bx, r.1 = .func (.func 72) #[] #[ptr bx 0] ∧ St H0 B0 B ((bx, ⟨[cv], 53, .fix⟩) :: (b3, ⟨[.int .i64 0], 24, .fix⟩) :: (b2, ⟨[.string ByteArray.empty], 9, .fix⟩) :: (b1, ⟨[i64 q], 3, .fix⟩) :: (d, ⟨[sl bb 0 (64 * n) (64 * n), cv, .int .i64 fu, .bool false], 55, .fix⟩) :: (bb, ⟨byts bytes, 5, .fix⟩) :: (Lc ++ L)) r.2)
      (Ev.fn (fun k => f56_eq k _ H3) ?_) ?_
    · repeat (first | refine Ev.s ?_ | refine Ev.newC fun _ _ _ => ?_ | refine Ev.boxC fun _ _ _ => ?_ | refine Ev.stC fun _ _ => ?_ | refine Ev.sc (by omega) ?_ | refine Ev.scg (by omega) ?_)
      rename_i bx H4 hS4
      exact Ev.ret ⟨bx, rfl, hS4⟩
    rintro _ H4 ⟨bx, rfl, hS4⟩
    simp only [callV_fn (show 72 < yOff by unfold yOff; omega), List.nil_append, List.cons_append]
    have hS5 := hS4.mkB' (.int .i64 0 :: RdT9 b1 b2 b3) 7 (.loop 49 7)
    clear hS3
    have hS6 := toFront (X := Lc) (La := [(H4.length, ⟨.int .i64 0 :: RdT9 b1 b2 b3, 7, .loop 49 7⟩), (bx, ⟨[cv], 53, .fix⟩), (b3, ⟨[.int .i64 0], 24, .fix⟩), (b2, ⟨[.string ByteArray.empty], 9, .fix⟩), (b1, ⟨[i64 q], 3, .fix⟩), (d, ⟨[sl bb 0 (64 * n) (64 * n), cv, .int .i64 fu, .bool false], 55, .fix⟩), (bb, ⟨byts bytes, 5, .fix⟩)]) (L := L) hS5
    have hS7 := toFront (X := [(H4.length, ⟨.int .i64 0 :: RdT9 b1 b2 b3, 7, .loop 49 7⟩), (bx, ⟨[cv], 53, .fix⟩), (b3, ⟨[.int .i64 0], 24, .fix⟩), (b2, ⟨[.string ByteArray.empty], 9, .fix⟩), (b1, ⟨[i64 q], 3, .fix⟩)]) (La := Lc) (L := [(d, ⟨[sl bb 0 (64 * n) (64 * n), cv, .int .i64 fu, .bool false], 55, .fix⟩), (bb, ⟨byts bytes, 5, .fix⟩)] ++ L) hS6
    simp only [List.cons_append, List.nil_append] at hS7
    clear hS4 hS5 hS6
    have key : Ev (fun k _ => rn k 72 [.func (.yield H4.length) #[] #[], ptr bx 0] (mkB H4 (.int .i64 0 :: RdT9 b1 b2 b3) 7 (.loop 49 7))) (fun r => ∃ B', MoC B B' ∧
        ((find cache q = none ∧ St H0 B0 B' ((H4.length, ⟨.int .i64 (xSt .normal : Nat) :: RdT9 b1 b2 b3, 7, .loop 49 7⟩) :: (bx, ⟨[cv], 53, .fix⟩) :: (b3, ⟨[.int .i64 0], 24, .fix⟩) :: (b2, ⟨[.string ByteArray.empty], 9, .fix⟩) :: (b1, ⟨[i64 q], 3, .fix⟩) :: (Lc ++ ([(d, ⟨[sl bb 0 (64 * n) (64 * n), cv, .int .i64 fu, .bool false], 55, .fix⟩), (bb, ⟨byts bytes, 5, .fix⟩)] ++ L))) r.2) ∨
         ∃ s, find cache q = some s ∧ St H0 B0 B' ((H4.length, ⟨.int .i64 (xSt .ret : Nat) :: RdT9 b1 b2 b3, 7, .loop 49 7⟩) :: (bx, ⟨[cv], 53, .fix⟩) :: (b3, ⟨[.int .i64 0], 24, .fix⟩) :: (b2, ⟨[str s], 9, .fix⟩) :: (b1, ⟨[i64 q], 3, .fix⟩) :: (Lc ++ ([(d, ⟨[sl bb 0 (64 * n) (64 * n), cv, .int .i64 fu, .bool false], 55, .fix⟩), (bb, ⟨byts bytes, 5, .fix⟩)] ++ L))) r.2)) := by
      refine Ev.fn (fun k => f72_eq k _ _ _) ?_
      repeat (first | refine Ev.s ?_ | refine Ev.newC fun _ _ _ => ?_ | refine Ev.boxC fun _ _ _ => ?_ | refine Ev.stC fun _ _ => ?_ | refine Ev.sc (by omega) ?_ | refine Ev.scg (by omega) ?_)
      refine Ev.prim (hG.len (Und.eq (P := Tryd.prog) (t := 53))) ?_
      refine Ev.prim (bin_sub64 (by omega)) ?_
      refine Ev.bind (Ev.loop (read_loop hG hc cache.length B _ (Nat.le_refl _) hS7)) ?_
      rw [List.take_length]
      rintro _ ⟨B', H', hm, ⟨hf, rfl, hS'⟩ | ⟨s, hf, rfl, hS'⟩⟩
      · refine Ev.eq (fun k _ => f72_A0_x0 k _) ?_
        exact Ev.ret ⟨B', hm, .inl ⟨hf, hS'⟩⟩
      · refine Ev.eq (fun k _ => f72_A0_ret k _) ?_
        exact Ev.ret ⟨B', hm, .inr ⟨s, hf, hS'⟩⟩
    refine Ev.b2 key ?_
    clear hS7
    rintro _ H5 ⟨B', hm, ⟨hf, hS'⟩ | ⟨s, hf, hS'⟩⟩
    · refine Ev.rgBack hS' fun H6 hS6 => ?_
      refine Ev.eq (fun k _ => f49_B0_normal k _ _ _ _ H6) ?_
      clear hS'
      have hS7 := hS6.perm (show ([(bx, _), (b3, _), (b2, _), (b1, _)] ++ ([(d, _), (bb, _)] ++ (Lc ++ L))).Perm _ from List.Perm.append_left _ (permA [(d, _), (bb, _)] Lc L).symm)
      simp only [List.cons_append, List.nil_append] at hS7
      clear hS6
      repeat (first | refine Ev.s ?_ | refine Ev.newC fun _ _ _ => ?_ | refine Ev.boxC fun _ _ _ => ?_ | refine Ev.stC fun _ _ => ?_ | refine Ev.sc (by omega) ?_ | refine Ev.scg (by omega) ?_)
      refine Ev.prim (slc_own2 (t := 52) (by omega)) ?_
      rw [if_neg (by omega)]
      refine Ev.prim (cvS_part (d := 9) (bs := bytes) hS7 (.tail _ (.tail _ (.tail _ (.tail _ (.tail _ (.head _)))))) (by omega) (by omega)) ?_
      repeat (first | refine Ev.s ?_ | refine Ev.newC fun _ _ _ => ?_ | refine Ev.boxC fun _ _ _ => ?_ | refine Ev.stC fun _ _ => ?_ | refine Ev.sc (by omega) ?_ | refine Ev.scg (by omega) ?_)
      rename_i H8 hS8 H9 hS9
      refine Ev.ret ⟨?_, B', hm, hS9.drop1.drop1.drop1.drop1⟩
      unfold Dsk.look Dsk.sector
      dsimp only
      rw [Int.toNat_natCast, hf]
      simp only [Option.getD_none, Nat.mul_comm 64 q, show (q + 1) * 64 - q * 64 = 64 by omega]
      rfl
    · refine Ev.rgBack hS' fun H6 hS6 => ?_
      refine Ev.eq (fun k _ => f49_B0_ret k _ _ _ _ H6) ?_
      clear hS'
      have hS7 := hS6.perm (show ([(bx, _), (b3, _), (b2, _), (b1, _)] ++ ([(d, _), (bb, _)] ++ (Lc ++ L))).Perm _ from List.Perm.append_left _ (permA [(d, _), (bb, _)] Lc L).symm)
      simp only [List.cons_append, List.nil_append] at hS7
      clear hS6
      repeat (first | refine Ev.s ?_ | refine Ev.newC fun _ _ _ => ?_ | refine Ev.boxC fun _ _ _ => ?_ | refine Ev.stC fun _ _ => ?_ | refine Ev.sc (by omega) ?_ | refine Ev.scg (by omega) ?_)
      refine Ev.ret ⟨?_, B', hm, hS7.drop1.drop1.drop1.drop1⟩
      unfold Dsk.look
      dsimp only
      rw [Int.toNat_natCast, hf]
      rfl
end
end Go.AM.G
set_option linter.unusedVariables false
set_option linter.unusedSimpArgs false
set_option maxRecDepth 100000
namespace Go.AM.G
open Go Go.AM Go.Proofs
attribute [local irreducible] run bin un ld st box newV mkS fldA fld ixA ix slc slc3 build buildS cv cvS ap cpy lenV gOp pickV b2 aIf aChk evalK resume iterD Option.bind

section
variable {B B0 H0 H : AH} {L : List (Nat × Blk)}
theorem pWrite_spec {p : Value} {D : Dsk} {Ls : List (Nat × Blk)} {n kind : Int} {t : List UInt8} (hD : DK p D Ls) (hO : D.OK) (hc : D.cache.length + 1 < 1000000000000) (ht : t.length < 9223372036854775808) (hk : -9223372036854775808 ≤ kind ∧ kind < 9223372036854775808) (hS : St H0 B0 B (Ls ++ L) H) :
    Ev (fun k _ => rn k 35 [p, .int .i64 n, .int .i64 kind, str t] H) (DkP H0 B0 B L p (.int .i64 (D.pwrite n kind t).1) (D.pwrite n kind t).2) := by
  refine Ev.fn (fun k => f35_eq k _ _ _ _ H) ?_
  refine Ev.b2 (Seal_spec ht hk hS) ?_
  rintro _ H1 ⟨rfl, B1, hm1, hS1⟩
  dsimp only at hS1
  clear hS
  unfold SealV Dsk.pwrite
  have hso := @sealR_ok kind t
  generalize sealR kind t = sr at hso
  obtain ⟨s, e⟩ := sr
  dsimp only at hso ⊢
  by_cases h0 : e = 0
  case neg =>
    rw [if_pos (.inl h0)]
    repeat (first | refine Ev.s ?_ | refine Ev.newC fun _ _ _ => ?_ | refine Ev.boxC fun _ _ _ => ?_ | refine Ev.stC fun _ _ => ?_ | refine Ev.sc (by omega) ?_ | refine Ev.scg (by omega) ?_)
    rw [decide_eq_true h0]
    repeat (first | refine Ev.s ?_ | refine Ev.newC fun _ _ _ => ?_ | refine Ev.boxC fun _ _ _ => ?_ | refine Ev.stC fun _ _ => ?_ | refine Ev.sc (by omega) ?_ | refine Ev.scg (by omega) ?_)
    exact Ev.ret ⟨rfl, Ls, B1, hm1, hD, hS1⟩
  by_cases h1 : n < 0
  · rw [if_pos (.inr (.inl h1))]
    repeat (first | (first | refine Ev.s ?_ | refine Ev.newC fun _ _ _ => ?_ | refine Ev.boxC fun _ _ _ => ?_ | refine Ev.stC fun _ _ => ?_ | refine Ev.sc (by omega) ?_ | refine Ev.scg (by omega) ?_) | rw [decide_eq_true (by omega)] | rw [decide_eq_false (by omega)])
    exact Ev.ret ⟨rfl, Ls, B1, hm1, hD, hS1⟩
  by_cases h2 : n > 1048576
  · rw [if_pos (.inr (.inr h2))]
    repeat (first | (first | refine Ev.s ?_ | refine Ev.newC fun _ _ _ => ?_ | refine Ev.boxC fun _ _ _ => ?_ | refine Ev.stC fun _ _ => ?_ | refine Ev.sc (by omega) ?_ | refine Ev.scg (by omega) ?_) | rw [decide_eq_true (by omega)] | rw [decide_eq_false (by omega)])
    exact Ev.ret ⟨rfl, Ls, B1, hm1, hD, hS1⟩
  rw [if_neg (by omega)]
  obtain ⟨m, rfl⟩ : ∃ m : Nat, n = m := ⟨n.toNat, by omega⟩
  have hsl : s.length = 128 := by
    obtain ⟨_, _, _, _, h5, h6⟩ := hso h0
    rw [h6, seal_len h5]
  rw [show (2 : Int) * (m : Int) = ((2 * m : Nat) : Int) by omega, show ((2 * m : Nat) : Int) + 1 = ((2 * m + 1 : Nat) : Int) by omega]
  repeat (first | (first | refine Ev.s ?_ | refine Ev.newC fun _ _ _ => ?_ | refine Ev.boxC fun _ _ _ => ?_ | refine Ev.stC fun _ _ => ?_ | refine Ev.sc (by omega) ?_ | refine Ev.scg (by omega) ?_) | rw [decide_eq_true (by omega)] | rw [decide_eq_false (by omega)])
  refine Ev.prim (show slc Tryd.prog 9 (str s) none (some (.int .i64 64)) = some (str (s.take 64)) from slc_strT (l := s) (i := 64) (by omega)) ?_
  refine Ev.b2 (Write_spec (i := ((2 * m : Nat) : Int)) hD hO (by omega) hS1) ?_
  have hwo := hO.write ((2 * m : Nat) : Int) (s.take 64)
  have hwc := write_cache D ((2 * m : Nat) : Int) (s.take 64)
  generalize D.write ((2 * m : Nat) : Int) (s.take 64) = w at hwo hwc
  obtain ⟨w1, w2⟩ := w
  dsimp only at hwo hwc ⊢
  rintro _ H2 ⟨rfl, Ls2, B2, hm2, hD2, hS2⟩
  dsimp only at hS2
  clear hS1
  by_cases hw : w1 = 0
  case neg =>
    rw [if_pos hw]
    repeat (first | refine Ev.s ?_ | refine Ev.newC fun _ _ _ => ?_ | refine Ev.boxC fun _ _ _ => ?_ | refine Ev.stC fun _ _ => ?_ | refine Ev.sc (by omega) ?_ | refine Ev.scg (by omega) ?_)
    rw [decide_eq_true hw]
    repeat (first | refine Ev.s ?_ | refine Ev.newC fun _ _ _ => ?_ | refine Ev.boxC fun _ _ _ => ?_ | refine Ev.stC fun _ _ => ?_ | refine Ev.sc (by omega) ?_ | refine Ev.scg (by omega) ?_)
    exact Ev.ret ⟨rfl, Ls2, B2, ⟨hm1.mo.trans hm2.mo⟩, hD2, hS2⟩
  rw [if_neg (by simpa using hw)]
  repeat (first | refine Ev.s ?_ | refine Ev.newC fun _ _ _ => ?_ | refine Ev.boxC fun _ _ _ => ?_ | refine Ev.stC fun _ _ => ?_ | refine Ev.sc (by omega) ?_ | refine Ev.scg (by omega) ?_)
  rw [decide_eq_false (by simpa using hw)]
  repeat (first | (first | refine Ev.s ?_ | refine Ev.newC fun _ _ _ => ?_ | refine Ev.boxC fun _ _ _ => ?_ | refine Ev.stC fun _ _ => ?_ | refine Ev.sc (by omega) ?_ | refine Ev.scg (by omega) ?_) | rw [decide_eq_true (by omega)] | rw [decide_eq_false (by omega)])
  refine Ev.prim (show slc Tryd.prog 9 (str s) (some (.int .i64 64)) none = some (str (s.drop 64)) from slc_str (l := s) 64 rfl (by omega)) ?_
  refine Ev.b2 (Write_spec (i := ((2 * m + 1 : Nat) : Int)) hD2 hwo (by omega) hS2) ?_
  rintro _ H3 ⟨rfl, Ls3, B3, hm3, hD3, hS3⟩
  exact Ev.ret ⟨rfl, Ls3, B3, ⟨hm1.mo.trans (hm2.mo.trans hm3.mo)⟩, hD3, hS3⟩
theorem pRead_spec {p : Value} {D : Dsk} {Ls : List (Nat × Blk)} {n : Int} (hD : DK p D Ls) (hO : D.OK) (hc : D.cache.length < 1000000000000) (hS : St H0 B0 B (Ls ++ L) H) :
    Ev (fun k _ => rn k 40 [p, .int .i64 n] H) (fun r => r.1 = OpenV (D.pread n) ∧ ∃ B', MoC B B' ∧ St H0 B0 B' (Ls ++ L) r.2) := by
  refine Ev.fn (fun k => f40_eq k _ _ H) ?_
  unfold Dsk.pread
  by_cases h1 : n < 0
  · rw [if_pos (.inl h1)]
    repeat (first | (first | refine Ev.s ?_ | refine Ev.newC fun _ _ _ => ?_ | refine Ev.boxC fun _ _ _ => ?_ | refine Ev.stC fun _ _ => ?_ | refine Ev.sc (by omega) ?_ | refine Ev.scg (by omega) ?_) | rw [decide_eq_true (by omega)] | rw [decide_eq_false (by omega)])
    exact Ev.ret ⟨rfl, B, ⟨Mo.refl B⟩, hS⟩
  by_cases h2 : n > 1048576
  · rw [if_pos (.inr h2)]
    repeat (first | (first | refine Ev.s ?_ | refine Ev.newC fun _ _ _ => ?_ | refine Ev.boxC fun _ _ _ => ?_ | refine Ev.stC fun _ _ => ?_ | refine Ev.sc (by omega) ?_ | refine Ev.scg (by omega) ?_) | rw [decide_eq_true (by omega)] | rw [decide_eq_false (by omega)])
    exact Ev.ret ⟨rfl, B, ⟨Mo.refl B⟩, hS⟩
  rw [if_neg (by omega)]
  obtain ⟨m, rfl⟩ : ∃ m : Nat, n = m := ⟨n.toNat, by omega⟩
  rw [show (2 : Int) * (m : Int) = ((2 * m : Nat) : Int) by omega, show ((2 * m : Nat) : Int) + 1 = ((2 * m + 1 : Nat) : Int) by omega]
  repeat (first | (first | refine Ev.s ?_ | refine Ev.newC fun _ _ _ => ?_ | refine Ev.boxC fun _ _ _ => ?_ | refine Ev.stC fun _ _ => ?_ | refine Ev.sc (by omega) ?_ | refine Ev.scg (by omega) ?_) | rw [decide_eq_true (by omega)] | rw [decide_eq_false (by omega)])
  have h64a := read_len hO ((2 * m : Nat) : Int)
  have h64b := read_len hO ((2 * m + 1 : Nat) : Int)
  have key : Ev (fun k K => f40_L0 k p (i64 m) (str []) (i64 0) K H) (fun o => ∃ B' H', MoC B B' ∧ St H0 B0 B' (Ls ++ L) H' ∧
      (((D.read ((2 * m : Nat) : Int)).2 ≠ 0 ∧ o = (.ret, f40_X_L0 (.int .i64 0) (str []) (.int .i64 (D.read ((2 * m : Nat) : Int)).2) (str []), H'))
        ∨ ((D.read ((2 * m : Nat) : Int)).2 = 0 ∧ (D.read ((2 * m + 1 : Nat) : Int)).2 ≠ 0 ∧ o = (.ret, f40_X_L0 (.int .i64 0) (str []) (.int .i64 (D.read ((2 * m + 1 : Nat) : Int)).2) (str (D.read ((2 * m : Nat) : Int)).1), H'))
        ∨ ((D.read ((2 * m : Nat) : Int)).2 = 0 ∧ (D.read ((2 * m + 1 : Nat) : Int)).2 = 0 ∧ o = (.exit 0, f40_X_L0 unk unk unk (str ((D.read ((2 * m : Nat) : Int)).1 ++ (D.read ((2 * m + 1 : Nat) : Int)).1)), H')))) := by
    refine Ev.succ (fun k K => f40_L0_succ k _ _ _ _ K H) ?_
    repeat (first | (first | refine Ev.s ?_ | refine Ev.newC fun _ _ _ => ?_ | refine Ev.boxC fun _ _ _ => ?_ | refine Ev.stC fun _ _ => ?_ | refine Ev.sc (by omega) ?_ | refine Ev.scg (by omega) ?_) | rw [decide_eq_true (by omega)] | rw [decide_eq_false (by omega)])
    refine Ev.b2 (Read_spec (i := ((2 * m : Nat) : Int)) hD hO hc (by exact hS)) ?_
    generalize D.read ((2 * m : Nat) : Int) = ra at h64a
    generalize hrb : D.read ((2 * m + 1 : Nat) : Int) = rb at h64b
    obtain ⟨a, ea⟩ := ra
    obtain ⟨b, eb⟩ := rb
    try dsimp only at h64a h64b ⊢
    rintro _ H1 ⟨rfl, B1, hm1, hS1⟩
    try dsimp only at hS1
    clear hS
    repeat (first | refine Ev.s ?_ | refine Ev.newC fun _ _ _ => ?_ | refine Ev.boxC fun _ _ _ => ?_ | refine Ev.stC fun _ _ => ?_ | refine Ev.sc (by omega) ?_ | refine Ev.scg (by omega) ?_)
    by_cases he : ea = 0
    case neg =>
      rw [decide_eq_true he]
      repeat (first | refine Ev.s ?_ | refine Ev.newC fun _ _ _ => ?_ | refine Ev.boxC fun _ _ _ => ?_ | refine Ev.stC fun _ _ => ?_ | refine Ev.sc (by omega) ?_ | refine Ev.scg (by omega) ?_)
      exact Ev.ret ⟨B1, H1, hm1, hS1, .inl ⟨he, rfl⟩⟩
    rw [decide_eq_false (by simpa using he)]
    repeat (first | refine Ev.s ?_ | refine Ev.newC fun _ _ _ => ?_ | refine Ev.boxC fun _ _ _ => ?_ | refine Ev.stC fun _ _ => ?_ | refine Ev.sc (by omega) ?_ | refine Ev.scg (by omega) ?_)
    refine Ev.prim (show bin Tryd.prog .add 9 (str []) (str a) = some (str a) from add_str (a := []) (b := a) (by simp; omega)) ?_
    repeat (first | refine Ev.s ?_ | refine Ev.newC fun _ _ _ => ?_ | refine Ev.boxC fun _ _ _ => ?_ | refine Ev.stC fun _ _ => ?_ | refine Ev.sc (by omega) ?_ | refine Ev.scg (by omega) ?_)
    refine Ev.succ (fun k K => f40_L0_succ k _ _ _ _ K H1) ?_
    repeat (first | (first | refine Ev.s ?_ | refine Ev.newC fun _ _ _ => ?_ | refine Ev.boxC fun _ _ _ => ?_ | refine Ev.stC fun _ _ => ?_ | refine Ev.sc (by omega) ?_ | refine Ev.scg (by omega) ?_) | rw [decide_eq_true (by omega)] | rw [decide_eq_false (by omega)])
    refine Ev.b2 (Read_spec (i := ((2 * m + 1 : Nat) : Int)) hD hO hc (by exact hS1)) ?_
    rw [hrb]
    rintro _ H2 ⟨rfl, B2, hm2, hS2⟩
    dsimp only at hS2
    clear hS1
    repeat (first | refine Ev.s ?_ | refine Ev.newC fun _ _ _ => ?_ | refine Ev.boxC fun _ _ _ => ?_ | refine Ev.stC fun _ _ => ?_ | refine Ev.sc (by omega) ?_ | refine Ev.scg (by omega) ?_)
    by_cases he2 : eb = 0
    case neg =>
      rw [decide_eq_true he2]
      repeat (first | refine Ev.s ?_ | refine Ev.newC fun _ _ _ => ?_ | refine Ev.boxC fun _ _ _ => ?_ | refine Ev.stC fun _ _ => ?_ | refine Ev.sc (by omega) ?_ | refine Ev.scg (by omega) ?_)
      exact Ev.ret ⟨B2, H2, ⟨hm1.mo.trans hm2.mo⟩, hS2, .inr (.inl ⟨he, he2, rfl⟩)⟩
    rw [decide_eq_false (by simpa using he2)]
    repeat (first | refine Ev.s ?_ | refine Ev.newC fun _ _ _ => ?_ | refine Ev.boxC fun _ _ _ => ?_ | refine Ev.stC fun _ _ => ?_ | refine Ev.sc (by omega) ?_ | refine Ev.scg (by omega) ?_)
    refine Ev.prim (add_str (a := a) (b := b) (by omega)) ?_
    repeat (first | refine Ev.s ?_ | refine Ev.newC fun _ _ _ => ?_ | refine Ev.boxC fun _ _ _ => ?_ | refine Ev.stC fun _ _ => ?_ | refine Ev.sc (by omega) ?_ | refine Ev.scg (by omega) ?_)
    refine Ev.succ (fun k K => f40_L0_succ k _ _ _ _ K H2) ?_
    repeat (first | (first | refine Ev.s ?_ | refine Ev.newC fun _ _ _ => ?_ | refine Ev.boxC fun _ _ _ => ?_ | refine Ev.stC fun _ _ => ?_ | refine Ev.sc (by omega) ?_ | refine Ev.scg (by omega) ?_) | rw [decide_eq_true (by omega)] | rw [decide_eq_false (by omega)])
    exact Ev.ret ⟨B2, H2, ⟨hm1.mo.trans hm2.mo⟩, hS2, .inr (.inr ⟨he, he2, rfl⟩)⟩
  refine Ev.bind (Ev.loop key) ?_
  generalize D.read ((2 * m : Nat) : Int) = ra at h64a
  generalize D.read ((2 * m + 1 : Nat) : Int) = rb at h64b
  obtain ⟨a, ea⟩ := ra
  obtain ⟨b, eb⟩ := rb
  try dsimp only at h64a h64b ⊢
  rintro o ⟨B1, H1, hm1, hS1, ⟨he, rfl⟩ | ⟨he, he2, rfl⟩ | ⟨he, he2, rfl⟩⟩
  · rw [if_pos he]
    refine Ev.eq (fun k _ => f40_A0_ret k _ _ _ _ H1) ?_
    exact Ev.ret ⟨rfl, B1, hm1, hS1⟩
  · rw [if_neg (by simpa using he), if_pos he2]
    refine Ev.eq (fun k _ => f40_A0_ret k _ _ _ _ H1) ?_
    exact Ev.ret ⟨rfl, B1, hm1, hS1⟩
  rw [if_neg (by simpa using he), if_neg (by simpa using he2)]
  refine Ev.eq (fun k _ => f40_A0_x0 k _ _ _ _ H1) ?_
  refine Ev.b2 (Open_spec (b := a ++ b) (by rw [List.length_append]; omega) hS1) ?_
  rintro _ H2 ⟨rfl, B2, hm2, hS2⟩
  dsimp only at hS2
  unfold OpenV
  repeat (first | refine Ev.s ?_ | refine Ev.newC fun _ _ _ => ?_ | refine Ev.boxC fun _ _ _ => ?_ | refine Ev.stC fun _ _ => ?_ | refine Ev.sc (by omega) ?_ | refine Ev.scg (by omega) ?_)
  exact Ev.ret ⟨rfl, B2, ⟨hm1.mo.trans hm2.mo⟩, hS2⟩
end
end Go.AM.G
set_option linter.unusedVariables false
set_option linter.unusedSimpArgs false
namespace Go.AM
instance {p : Option Nat} : IsCell (.map p) := ⟨rfl⟩
def intV (l : List Int) : List Value := l.map fun n => .int .i64 n
theorem intV_len (l : List Int) : (intV l).length = l.length := by simp [intV]
theorem intV_snoc (l : List Int) (x : Int) : intV (l ++ [x]) = intV l ++ [.int .i64 x] := by simp [intV]
def FRS (e : TypeId) (v : Value) (l : List Int) (Lx : List (Nat × Blk)) : Prop :=
  (l = [] ∧ (v = .slice none 0 0 ∨ ∃ b off, v = sl b off 0 0) ∧ Lx = []) ∨
  (∃ b cap rest, v = sl b 0 l.length cap ∧ cap ≠ 0 ∧ l.length ≤ cap ∧ Lx = [(b, ⟨intV l ++ rest, e, .grow⟩)])
section
variable {P : Program} {R : Type} {e t : TypeId} {v : Value} {l : List Int} {Lx : List (Nat × Blk)} {H0 B0 B H : AH} {L : List (Nat × Blk)}
theorem FRS.nil : FRS e (.slice none 0 0) [] [] := .inl ⟨rfl, .inl rfl, rfl⟩
theorem FRS.cell (h : FRS e v l Lx) : IsCell v := by
  rcases h with ⟨_, rfl | ⟨b, off, rfl⟩, _⟩ | ⟨b, cap, rest, rfl, _⟩ <;> exact inferInstance
theorem FRS.len {e' : TypeId} (hU : P.underlying t = some (.slice e')) (h : FRS e v l Lx) : lenV P t v = some (i64 l.length) := by
  rcases h with ⟨rfl, rfl | ⟨b, off, rfl⟩, _⟩ | ⟨b, cap, rest, rfl, _⟩ <;> exact lenV_sl hU
theorem FRS.now {Ly : List (Nat × Blk)} (h : FRS e v l Lx) (hS : St H0 B0 B Ly H) (hsub : ∀ p ∈ Lx, p ∈ Ly) : ScN H v l.length 1 (intV l) := by
  rcases h with ⟨rfl, rfl | ⟨b, off, rfl⟩, rfl⟩ | ⟨b, cap, rest, rfl, h1, h2, rfl⟩
  · exact .inl ⟨rfl, rfl, rfl⟩
  · exact .inr ⟨b, off, 0, rfl, Nat.le_refl _, by simp [intV], .inl rfl⟩
  · refine .inr ⟨b, 0, cap, rfl, h2, by simp [intV_len], .inr ⟨_, hS.get (hsub _ (List.mem_singleton.2 rfl)), ?_⟩⟩
    unfold rdN
    rw [if_pos (by simp [intV_len]), List.drop_zero, Nat.mul_one, List.take_append_of_le_length (by simp [intV_len]), List.take_of_length_le (by simp [intV_len])]
theorem FRS.back {j : Nat} (hE : Elt P t e (.int .i64 0) 8) (h : FRS e v l Lx) (hj : j ≤ l.length) : ∃ v', slc P t v none (some (.int .i64 (j : Int))) = some v' ∧ FRS e v' (l.take j) Lx := by
  rcases h with ⟨rfl, hv, rfl⟩ | ⟨b, cap, rest, rfl, h1, h2, rfl⟩
  · have : j = 0 := by simpa using hj
    subst this
    rcases hv with rfl | ⟨b, off, rfl⟩
    · refine ⟨.slice none 0 0, ?_, .inl ⟨rfl, .inl rfl, rfl⟩⟩
      unfold slc; rw [hE.U]; simp only [intOr, Option.bind_some]
      rw [if_pos ⟨hE.I, rfl, rfl⟩]
    · refine ⟨sl b off 0 0, ?_, .inl ⟨rfl, .inr ⟨b, off, rfl⟩, rfl⟩⟩
      unfold slc sl; rw [hE.U]; simp only [intOr, Option.bind_some]
      rw [if_pos ⟨hE.I, by omega, by omega, by omega⟩]
      simp
  · have hlen : (l.take j).length = j := by rw [List.length_take]; omega
    refine ⟨sl b 0 j cap, ?_, .inr ⟨b, cap, intV (l.drop j) ++ rest, by rw [hlen], h1, by omega, ?_⟩⟩
    · unfold slc sl; rw [hE.U]; simp only [intOr, Option.bind_some]
      rw [if_pos ⟨hE.I, by omega, by omega, by omega⟩]
      simp [h1]
    · rw [← List.append_assoc]
      congr 4
      unfold intV
      rw [← List.map_append, List.take_append_drop]
theorem FRS.push {x : Int} {f : Nat → Nat → Value → AH → Option R} {Q : R → Prop} (hE : Elt P t e (.int .i64 0) 8) (h : FRS e v l Lx) (hS : St H0 B0 B (Lx ++ L) H) (hl : l.length + 1 ≤ 1000000000000)
    (hk : ∀ v' Lx' H', FRS e v' (l ++ [x]) Lx' → St H0 B0 B (Lx' ++ L) H' → Ev (fun k n => f k n v' H') Q) :
    Ev (fun k n => Go.AM.b2 (Go.AM.buildS P t H 1 [(0, .int .i64 x)]) fun w h => Go.AM.b2 (Go.AM.ap P t t h v w) (f k n)) Q := by
  have hb : Go.AM.buildS P t H 1 [(0, .int .i64 x)] = some (sl H.length 0 1 1, mkB H [.int .i64 x] e .fix) := by
    unfold Go.AM.buildS
    rw [hE.U]; simp only [hE.Z, Option.bind_some, hE.S]
    rw [if_pos ⟨by omega, rfl⟩]
    simp only [fillB, rep, List.append_nil, Nat.zero_mul]
    rw [if_pos ⟨rfl, by simp [Value.cells], rfl⟩]
    rfl
  refine Ev.prim2 hb ?_
  have hw : ScN (mkB H [.int .i64 x] e .fix) (sl H.length 0 1 1) 1 1 [.int .i64 x] := by
    refine .inr ⟨H.length, 0, 1, rfl, Nat.le_refl _, rfl, .inr ⟨_, blk_mkB_new, rfl⟩⟩
  have hES : EltS P t e [.int .i64 0] 1 8 := inferInstance
  have ha := ap_eqS (P := P) (t := t) (u := t) (s := v) hE.U hw rfl
  have hgk : gkl [Value.int .i64 0] = .grow := rfl
  rw [hgk] at ha
  have hS1 := (hS.mkB' [.int .i64 x] e .fix).drop1
  rcases h with ⟨rfl, hv, rfl⟩ | ⟨b, cap, rest, rfl, h1, h2, rfl⟩
  · refine Ev.prim2 (v := sl (mkB H [.int .i64 x] e .fix).length 0 1 2) (H := mkB (mkB H [.int .i64 x] e .fix) [.int .i64 x] e .grow) ?_ (hk _ [((mkB H [.int .i64 x] e .fix).length, ⟨[.int .i64 x], e, .grow⟩)] _ (.inr ⟨_, 2, [], rfl, by simp, by simp, rfl⟩) (hS1.mkB' _ _ _))
    rw [ha]
    rcases hv with rfl | ⟨b, off, rfl⟩
    · unfold apS
      try dsimp only
      rw [if_neg (by decide), if_pos (by decide)]
      rfl
    · unfold apS sl
      dsimp only
      rw [if_neg (by decide), if_pos rfl, if_pos (by decide)]
  · have hb1 := hS1.get (.head _)
    refine Ev.prim2 (v := sl (mkB H [.int .i64 x] e .fix).length 0 (l.length + 1) (l.length + 1 + 1)) (H := mkB (kill (mkB H [.int .i64 x] e .fix) b) (intV l ++ [.int .i64 x]) e .grow) ?_
      (hk _ [((mkB H [.int .i64 x] e .fix).length, ⟨intV (l ++ [x]), e, .grow⟩)] _ (.inr ⟨(mkB H [.int .i64 x] e .fix).length, l.length + 1 + 1, [], by rw [List.length_append]; rfl, by omega, by rw [List.length_append]; simp, by rw [List.append_nil]⟩) ?_)
    · rw [ha]
      unfold apS sl
      dsimp only
      rw [if_neg (by decide), if_neg h1, hb1, Option.bind_some]
      have hrd : rdN ⟨intV l ++ rest, e, .grow⟩ 0 (l.length * 1) = some (intV l) := by
        unfold rdN
        rw [if_pos (by simp [intV_len]), List.drop_zero, Nat.mul_one, List.take_append_of_le_length (by simp [intV_len]), List.take_of_length_le (by simp [intV_len])]
      rw [hrd, Option.bind_some, if_pos ⟨by omega, by omega, rfl⟩]
      dsimp only
      rw [if_pos rfl]
    · have := hS1.kill.mkB' (intV l ++ [.int .i64 x]) e .grow
      rw [length_kill, ← intV_snoc] at this
      rw [intV_snoc] at this
      rw [intV_snoc]
      exact this
end
structure Pgr where
  turn : Nat
  root : Int
  used : List Int
  fresh : List Int
  down : Bool
def mayR (U : List Int) (root : Int) : Bool := decide (root = 0) || decide (2 ≤ root) && decide (root ∈ U)
def Pgr.told (G : Pgr) (e : Int) : Pgr := { G with down := G.down || decide (e = 7) }
def hwrite (D : Dsk) (turn : Nat) (root : Int) (U : List Int) : Int × Dsk := D.pwrite ((turn % 2 : Nat) : Int) 1 (textH turn root U)
def Pgr.lay (G : Pgr) (D : Dsk) (root : Int) (U : List Int) : Int × Pgr × Dsk :=
  if D.barrier.1 ≠ 0 then (D.barrier.1, G.told D.barrier.1, D.barrier.2)
  else if (hwrite D.barrier.2 (G.turn + 1) root U).1 ≠ 0 then ((hwrite D.barrier.2 (G.turn + 1) root U).1, G.told (hwrite D.barrier.2 (G.turn + 1) root U).1, (hwrite D.barrier.2 (G.turn + 1) root U).2)
  else if (hwrite D.barrier.2 (G.turn + 1) root U).2.barrier.1 ≠ 0 then ((hwrite D.barrier.2 (G.turn + 1) root U).2.barrier.1, G.told (hwrite D.barrier.2 (G.turn + 1) root U).2.barrier.1, (hwrite D.barrier.2 (G.turn + 1) root U).2.barrier.2)
  else (0, ⟨G.turn + 1, root, U, [], G.down⟩, (hwrite D.barrier.2 (G.turn + 1) root U).2.barrier.2)
def Pgr.alloc (G : Pgr) (m : Nat) : Int × Int × Pgr :=
  if G.down = true then (0, 7, G) else
  match (List.range m).find? fun (n : Nat) => !decide ((n : Int) ∈ G.used) && !decide ((n : Int) ∈ G.fresh) with
  | some n => ((n : Int), 0, { G with fresh := G.fresh ++ [(n : Int)] })
  | none => (0, 6, G)
def Pgr.back (G : Pgr) (many : Int) : Pgr := { G with fresh := G.fresh.take many.toNat }
def Pgr.list (G : Pgr) (m : Nat) : List Int := ((List.range m).map fun (n : Nat) => (n : Int)).filter fun n => decide (n ∈ G.used)
def Pgr.write (G : Pgr) (D : Dsk) (n kind : Int) (t : List UInt8) : Int × Pgr × Dsk :=
  if G.down = true then (7, G, D) else if n ∉ G.fresh then (8, G, D) else ((D.pwrite n kind t).1, G.told (D.pwrite n kind t).1, (D.pwrite n kind t).2)
def Pgr.read (G : Pgr) (D : Dsk) (n : Int) : (Int × List UInt8 × Int) × Pgr :=
  if G.down = true then ((0, [], 7), G) else if n < 0 ∨ (D.n / 2 : Nat) ≤ n then ((0, [], 1), G) else (D.pread n, G.told (D.pread n).2.2)
def addAll (U : List Int) (l : List Int) : List Int := l.foldl insI U
def Pgr.commit (G : Pgr) (D : Dsk) (root : Int) : Int × Pgr × Dsk :=
  if G.down = true then (7, G, D) else if mayR (addAll G.used G.fresh) root = false then (1, G, D) else G.lay D root (addAll G.used G.fresh)
def keepOK (U : List Int) (l : List Int) : Bool := l.all fun n => decide (2 ≤ n) && decide (n ∈ U)
def Pgr.keep (G : Pgr) (D : Dsk) (root : Int) (l : List Int) : Int × Pgr × Dsk :=
  if G.down = true then (7, G, D) else if G.fresh ≠ [] then (8, G, D) else if keepOK G.used l = false then (1, G, D) else if mayR (addAll [0, 1] l) root = false then (1, G, D) else G.lay D root (addAll [0, 1] l)
def Dsk.format (D : Dsk) : Int × Dsk :=
  if D.n / 2 < 4 then (1, D) else if (hwrite D 1 0 [0, 1]).1 ≠ 0 then hwrite D 1 0 [0, 1] else (hwrite D 1 0 [0, 1]).2.barrier
structure Pgr.OK (G : Pgr) (m : Nat) : Prop where
  mm : m ≤ 512
  nd : G.used.Nodup
  us : ∀ n ∈ G.used, 0 ≤ n ∧ n < m
  fr : ∀ n ∈ G.fresh, 0 ≤ n ∧ n < m
  fl : G.fresh.length ≤ m
  tu : G.turn < 281474976710655
  ro : 0 ≤ G.root ∧ G.root < 512
theorem addAll_mem : ∀ (l U : List Int) (x : Int), x ∈ addAll U l ↔ x ∈ U ∨ x ∈ l
  | [], U, x => by simp [addAll]
  | a :: l, U, x => by
    show x ∈ addAll (insI U a) l ↔ _
    rw [addAll_mem l, insI_mem]
    simp only [List.mem_cons]
    constructor
    · rintro ((h | h) | h)
      · exact .inr (.inl h)
      · exact .inl h
      · exact .inr (.inr h)
    · rintro (h | h | h)
      · exact .inl (.inr h)
      · exact .inl (.inl h)
      · exact .inr h
theorem st_dead {H0 B0 B X : AH} {L : List (Nat × Blk)} (h : St H0 B0 B L X) : St H0 B0 B L (X ++ [none]) := by
  have h1 := (h.mkB' [] 0 .fix).kill
  have e : kill (AM.mkB X [] 0 .fix) X.length = X ++ [none] := by
    unfold AM.kill AM.mkB
    rw [List.set_append_right _ _ (Nat.le_refl _), Nat.sub_self]; rfl
  rwa [e] at h1
section
variable {R : Type} {H0 B0 B H : AH} {L L' : List (Nat × Blk)}
theorem Ev.gText {hb mb b : Nat} {t r : Value} {T tm e : TypeId} {U : List Int} {cs : List Value} {f : Nat → Nat → AH → Option R} {Q : R → Prop} (hS : St H0 B0 B L H) (h1 : (hb, ⟨[t, r, .map (some mb)], T, .fix⟩) ∈ L) (h2 : (mb, ⟨entI U, tm, .map⟩) ∈ L)
    (hu : Upd b ⟨cs ++ List.replicate 64 (.int .u8 0), e, .fix⟩ ⟨cs ++ bmV U, e, .fix⟩ L L') (h3 : (b, ⟨cs ++ List.replicate 64 (.int .u8 0), e, .fix⟩) ∈ L) (hc : cs.length = 8) (hU : ∀ n ∈ U, 0 ≤ n ∧ n < 512)
    (h : ∀ H', St H0 B0 B L' H' → Ev (fun k n => f k n H') Q) : Ev (fun k n => (gText [ptr hb 0, sl b 0 72 72] H).bind (f k n)) Q := by
  have g1 := hS.get h1
  have g2 := hS.get h2
  have g3 := hS.get h3
  have hne : mb ≠ b := by rintro rfl; rw [g2] at g3; injection g3 with g3; injection g3 with _ _ g4; cases g4
  have e1 : AM.gText [ptr hb 0, sl b 0 72 72] H = some (put H b ⟨cs ++ List.replicate 64 (.int .u8 0), e, .fix⟩ (cs ++ bmV U) ++ [none]) := by
    have e0 : AM.gText [ptr hb 0, sl b 0 72 72] H = (((blk H hb).bind fun k => k.cells[2]?).bind fun mv => (gBits [mv, sl b 0 72 72] H).map fun H' => H' ++ [none]) := rfl
    rw [e0, g1, Option.bind_some]
    show Option.bind (some (Value.map (some mb))) _ = _
    rw [Option.bind_some]
    have e2 : gBits [.map (some mb), sl b 0 72 72] H = ((mapB H mb).bind fun km => (keysI km.cells).bind fun S => (blk H b).bind fun k =>
      aChk (mb ≠ b ∧ (∀ n ∈ S, 0 ≤ n ∧ n < 512) ∧ k.kind = .fix ∧ k.cells.length = 72 ∧ k.cells.drop 8 = List.replicate 64 (.int .u8 0)) (some (put H b k (k.cells.take 8 ++ bmV S)))) := rfl
    rw [e2]
    unfold mapB
    rw [g2, Option.bind_some, if_pos rfl, Option.bind_some, keysI_ent, Option.bind_some, g3, Option.bind_some]
    unfold aChk
    rw [if_pos ⟨hne, hU, rfl, by rw [List.length_append, hc]; simp, by rw [List.drop_append_of_le_length (by omega), ← hc, List.drop_length, List.nil_append]⟩]
    rw [List.take_append_of_le_length (by omega), ← hc, List.take_length]
    rfl
  refine Ev.prim e1 (h _ ?_)
  exact st_dead (hS.put (cs := cs ++ bmV U) hu)
theorem Ev.gCommit {pb hb ma mb : Nat} {p0 p1 h0 h1 : Value} {pr : List Value} {T T' tm tm' : TypeId} {U : List Int} {f : Nat → Nat → AH → Option R} {Q : R → Prop} (hS : St H0 B0 B L H) (i1 : (pb, ⟨p0 :: p1 :: .map (some ma) :: pr, T, .fix⟩) ∈ L) (i2 : (ma, ⟨entI U, tm, .map⟩) ∈ L)
    (i3 : (hb, ⟨[h0, h1, .map (some mb)], T', .fix⟩) ∈ L) (i4 : (mb, ⟨[], tm', .map⟩) ∈ L) (hne : ma ≠ mb) (hn : U.Nodup) (hu : Upd mb ⟨[], tm', .map⟩ ⟨entI U, tm', .map⟩ L L')
    (h : ∀ H', St H0 B0 B L' H' → Ev (fun k n => f k n H') Q) : Ev (fun k n => (gCommit [ptr pb 0, ptr hb 0] H).bind (f k n)) Q := by
  have g1 := hS.get i1
  have g2 := hS.get i2
  have g3 := hS.get i3
  have g4 := hS.get i4
  have n1 : hb ≠ ma := by rintro rfl; rw [g2] at g3; injection g3 with g3; injection g3 with _ _ g4; cases g4
  have n2 : hb ≠ mb := by rintro rfl; rw [g4] at g3; injection g3 with g3; injection g3 with _ _ g4; cases g4
  have e1 : AM.gCommit [ptr pb 0, ptr hb 0] H = some (put H mb ⟨[], tm', .map⟩ (entI U) ++ [none]) := by
    have e0 : AM.gCommit [ptr pb 0, ptr hb 0] H = (((blk H pb).bind fun k => k.cells[2]?).bind fun va => ((blk H hb).bind fun k => k.cells[2]?).bind fun vb => aChk (∀ a, (va = .map (some a) ∨ vb = .map (some a)) → hb ≠ a) ((gKeys [va, vb] H).map fun H' => H' ++ [none])) := rfl
    rw [e0, g1, Option.bind_some]
    show Option.bind (some (Value.map (some ma))) _ = _
    rw [Option.bind_some, g3, Option.bind_some]
    show Option.bind (some (Value.map (some mb))) _ = _
    rw [Option.bind_some]
    unfold aChk
    rw [if_pos (by rintro a (h | h) <;> cases h <;> assumption)]
    have e2 : gKeys [.map (some ma), .map (some mb)] H = ((mapB H ma).bind fun ka => (keysI ka.cells).bind fun S => (mapB H mb).bind fun kb => aChk (ma ≠ mb ∧ kb.cells = [] ∧ S.Nodup) (some (put H mb kb (entI S)))) := rfl
    rw [e2]
    unfold mapB
    rw [g2, Option.bind_some, if_pos rfl, Option.bind_some, keysI_ent, Option.bind_some, g4, Option.bind_some, if_pos rfl, Option.bind_some]
    unfold aChk
    rw [if_pos ⟨hne, rfl, hn⟩]
    rfl
  refine Ev.prim e1 (h _ ?_)
  exact st_dead (hS.put (cs := entI U) hu)
end
end Go.AM
set_option linter.unusedVariables false
set_option linter.unusedSimpArgs false
set_option maxRecDepth 100000
namespace Go.AM.G
open Go Go.AM Go.Proofs
attribute [local irreducible] run bin un ld st box newV mkS fldA fld ixA ix slc slc3 build buildS cv cvS ap cpy lenV gOp pickV b2 aIf aChk evalK resume iterD Option.bind

section
variable {B B0 H0 H : AH} {L : List (Nat × Blk)}
abbrev FR := FRS 3
def PK (p dv : Value) (G : Pgr) (D : Dsk) (Ls : List (Nat × Blk)) : Prop := ∃ pb mb fv Lf Ld, p = ptr pb 0 ∧ DK dv D Ld ∧ FR fv G.fresh Lf ∧ Ls = (pb, ⟨[i64 G.turn, .int .i64 G.root, .map (some mb), dv, fv, .bool G.down], 61, .fix⟩) :: (mb, ⟨entI G.used, 57, .map⟩) :: (Lf ++ Ld)
/-- Behind a call that leaves a pager and its disk. -/
def PgP (H0 B0 B : AH) (L : List (Nat × Blk)) (p dv v : Value) (G : Pgr) (D : Dsk) (r : Value × AH) : Prop := r.1 = v ∧ ∃ Ls B', MoC B B' ∧ PK p dv G D Ls ∧ St H0 B0 B' (Ls ++ L) r.2
theorem eltI : Elt Tryd.prog 33 3 (.int .i64 0) 8 := inferInstance
theorem pages_spec {dv : Value} {D : Dsk} {Ls Lx : List (Nat × Blk)} (hD : DK dv D Ls) (hO : D.OK) (hS : St H0 B0 B Lx H) (hsub : ∀ x ∈ Ls, x ∈ Lx) :
    Ev (fun k _ => rn k 26 [dv] H) (fun r => r = (i64 (D.n / 2), H)) := by
  refine Ev.fn (fun k => f26_eq k _ H) ?_
  have h2 := hO.n2
  refine Ev.b2 (Sectors_spec hD hO hS hsub) ?_
  rintro v H1 h
  cases h
  repeat (first | (first | refine Ev.s ?_ | refine Ev.newC fun _ _ _ => ?_ | refine Ev.boxC fun _ _ _ => ?_ | refine Ev.stC fun _ _ => ?_ | refine Ev.sc (by omega) ?_ | refine Ev.scg (by omega) ?_) | rw [decide_eq_true (by omega)] | rw [decide_eq_false (by omega)])
  exact Ev.ret rfl
theorem Index_spec {v : Value} {l : List Int} {Lf Lx : List (Nat × Blk)} (x : Int) (hF : FR v l Lf) (hl : l.length < 1000000000000) (hS : St H0 B0 B Lx H) (hsub : ∀ p ∈ Lf, p ∈ Lx) :
    Ev (fun k _ => rn k 45 [v, .int .i64 x] H) (fun r => ∃ j : Int, r = (.int .i64 j, H) ∧ (0 ≤ j ↔ x ∈ l)) := by
  refine Ev.fn (fun k => f45_eq k _ _ H) ?_
  refine Ev.prim (hF.len (Und.eq (P := Tryd.prog) (t := 33))) ?_
  have hN := hF.now hS hsub
  have key : ∀ (m i : Nat), i + m = l.length → (∀ q, q < i → l[q]? ≠ some x) → Ev (fun k K => f45_L0 k v (.int .i64 x) (i64 l.length) (i64 i) K H)
      (fun o => (o = (.exit 0, f45_X_L0 unk, H) ∧ x ∉ l) ∨ (∃ j : Nat, o = (.ret, f45_X_L0 (i64 j), H) ∧ x ∈ l)) := by
    intro m
    induction m with
    | zero =>
      intro i hi hno
      refine Ev.succ (fun k K => f45_L0_succ k _ _ _ _ K H) ?_
      repeat (first | refine Ev.s ?_ | refine Ev.newC fun _ _ _ => ?_ | refine Ev.boxC fun _ _ _ => ?_ | refine Ev.stC fun _ _ => ?_ | refine Ev.sc (by omega) ?_ | refine Ev.scg (by omega) ?_)
      rw [decide_eq_false (by omega)]
      repeat (first | refine Ev.s ?_ | refine Ev.newC fun _ _ _ => ?_ | refine Ev.boxC fun _ _ _ => ?_ | refine Ev.stC fun _ _ => ?_ | refine Ev.sc (by omega) ?_ | refine Ev.scg (by omega) ?_)
      refine Ev.ret (.inl ⟨rfl, fun hx => ?_⟩)
      obtain ⟨q, hq⟩ := List.getElem?_of_mem hx
      exact hno q (by have := (List.getElem?_eq_some_iff.1 hq).1; omega) hq
    | succ m ih =>
      intro i hi hno
      refine Ev.succ (fun k K => f45_L0_succ k _ _ _ _ K H) ?_
      repeat (first | refine Ev.s ?_ | refine Ev.newC fun _ _ _ => ?_ | refine Ev.boxC fun _ _ _ => ?_ | refine Ev.stC fun _ _ => ?_ | refine Ev.sc (by omega) ?_ | refine Ev.scg (by omega) ?_)
      rw [decide_eq_true (by omega)]
      repeat (first | refine Ev.s ?_ | refine Ev.newC fun _ _ _ => ?_ | refine Ev.boxC fun _ _ _ => ?_ | refine Ev.stC fun _ _ => ?_ | refine Ev.sc (by omega) ?_ | refine Ev.scg (by omega) ?_)
      have hx : (intV l)[i]? = some (.int .i64 l[i]) := by unfold intV; rw [List.getElem?_map, List.getElem?_eq_getElem (by omega)]; rfl
      refine Ev.ixN (t := 33) hN i rfl (by omega) hx fun p hp => ?_
      refine Ev.prim (hp.eq H (Mo.refl H)) ?_
      repeat (first | refine Ev.s ?_ | refine Ev.newC fun _ _ _ => ?_ | refine Ev.boxC fun _ _ _ => ?_ | refine Ev.stC fun _ _ => ?_ | refine Ev.sc (by omega) ?_ | refine Ev.scg (by omega) ?_)
      by_cases he : x = l[i]
      · rw [decide_eq_true he]
        repeat (first | refine Ev.s ?_ | refine Ev.newC fun _ _ _ => ?_ | refine Ev.boxC fun _ _ _ => ?_ | refine Ev.stC fun _ _ => ?_ | refine Ev.sc (by omega) ?_ | refine Ev.scg (by omega) ?_)
        exact Ev.ret (.inr ⟨i, rfl, by rw [he]; exact List.getElem_mem _⟩)
      · rw [decide_eq_false he]
        repeat (first | (first | refine Ev.s ?_ | refine Ev.newC fun _ _ _ => ?_ | refine Ev.boxC fun _ _ _ => ?_ | refine Ev.stC fun _ _ => ?_ | refine Ev.sc (by omega) ?_ | refine Ev.scg (by omega) ?_) | rw [decide_eq_true (by omega)] | rw [decide_eq_false (by omega)])
        refine ih (i + 1) (by omega) fun q hq => ?_
        by_cases hqi : q = i
        · subst hqi; rw [List.getElem?_eq_getElem (by omega)]; intro h; exact he (Option.some.inj h).symm
        · exact hno q (by omega)
  refine Ev.bind (Ev.loop (key l.length 0 (by omega) fun q hq => by omega)) ?_
  rintro _ (⟨rfl, hx⟩ | ⟨j, rfl, hx⟩)
  · refine Ev.eq (fun k _ => f45_A0_x0 k _ H) ?_
    exact Ev.ret ⟨-1, rfl, by simp [hx]⟩
  · refine Ev.eq (fun k _ => f45_A0_ret k _ H) ?_
    exact Ev.ret ⟨j, rfl, by simp [hx]⟩
theorem Contains_spec {v : Value} {l : List Int} {Lf Lx : List (Nat × Blk)} (x : Int) (hF : FR v l Lf) (hl : l.length < 1000000000000) (hS : St H0 B0 B Lx H) (hsub : ∀ p ∈ Lf, p ∈ Lx) :
    Ev (fun k _ => rn k 30 [v, .int .i64 x] H) (fun r => r = (.bool (decide (x ∈ l)), H)) := by
  refine Ev.fn (fun k => f30_eq k _ _ H) ?_
  refine Ev.b2 (Index_spec x hF hl hS hsub) ?_
  rintro _ _ ⟨j, h, hj⟩
  cases h
  repeat (first | refine Ev.s ?_ | refine Ev.newC fun _ _ _ => ?_ | refine Ev.boxC fun _ _ _ => ?_ | refine Ev.stC fun _ _ => ?_ | refine Ev.sc (by omega) ?_ | refine Ev.scg (by omega) ?_)
  refine Ev.ret ?_
  rw [decide_eq_decide.2 hj]
theorem may_spec {t : Value} {mb : Nat} {U : List Int} {root x : Int} (hm : InL mb ⟨entI U, 57, .map⟩ L) [IsCell t] (hS : St H0 B0 B L H) :
    Ev (fun k _ => rn k 32 [.agg #[t, .int .i64 root, .map (some mb)], .int .i64 x] H) (fun r => r.1 = .bool (mayR U x) ∧ ∃ b c, St H0 B0 B ((b, c) :: L) r.2) := by
  refine Ev.fn (fun k => f32_eq k _ _ H) ?_
  unfold mayR
  repeat (first | refine Ev.s ?_ | refine Ev.newC fun _ _ _ => ?_ | refine Ev.boxC fun _ _ _ => ?_ | refine Ev.stC fun _ _ => ?_ | refine Ev.sc (by omega) ?_ | refine Ev.scg (by omega) ?_)
  by_cases h0 : x = 0
  · rw [decide_eq_true h0]
    repeat (first | refine Ev.s ?_ | refine Ev.newC fun _ _ _ => ?_ | refine Ev.boxC fun _ _ _ => ?_ | refine Ev.stC fun _ _ => ?_ | refine Ev.sc (by omega) ?_ | refine Ev.scg (by omega) ?_)
    exact Ev.ret ⟨rfl, _, _, by assumption⟩
  rw [decide_eq_false h0]
  repeat (first | refine Ev.s ?_ | refine Ev.newC fun _ _ _ => ?_ | refine Ev.boxC fun _ _ _ => ?_ | refine Ev.stC fun _ _ => ?_ | refine Ev.sc (by omega) ?_ | refine Ev.scg (by omega) ?_)
  by_cases h1 : 2 ≤ x
  · rw [decide_eq_true h1]
    repeat (first | refine Ev.s ?_ | refine Ev.newC fun _ _ _ => ?_ | refine Ev.boxC fun _ _ _ => ?_ | refine Ev.stC fun _ _ => ?_ | refine Ev.sc (by omega) ?_ | refine Ev.scg (by omega) ?_)
    rename_i b H1 hS1
    refine Ev.gPrim (lkI (kt := 3) (et := 4) (Und.eq (P := Tryd.prog) (t := 57)) (Und.eq (P := Tryd.prog) (t := 3)) (by kernel_rfl) hS1 (.tail _ hm.mem)) rfl ?_
    repeat (first | refine Ev.s ?_ | refine Ev.newC fun _ _ _ => ?_ | refine Ev.boxC fun _ _ _ => ?_ | refine Ev.stC fun _ _ => ?_ | refine Ev.sc (by omega) ?_ | refine Ev.scg (by omega) ?_)
    exact Ev.ret ⟨rfl, _, _, hS1⟩
  · rw [decide_eq_false h1]
    repeat (first | refine Ev.s ?_ | refine Ev.newC fun _ _ _ => ?_ | refine Ev.boxC fun _ _ _ => ?_ | refine Ev.stC fun _ _ => ?_ | refine Ev.sc (by omega) ?_ | refine Ev.scg (by omega) ?_)
    exact Ev.ret ⟨rfl, _, _, by assumption⟩
theorem told_spec {pb : Nat} {tv rv mv dv fv : Value} {dn : Bool} {e : Int} {Lx Ly : List (Nat × Blk)} (hm : (pb, ⟨[tv, rv, mv, dv, fv, .bool dn], 61, .fix⟩) ∈ Lx) (hu : Upd pb ⟨[tv, rv, mv, dv, fv, .bool dn], 61, .fix⟩ ⟨[tv, rv, mv, dv, fv, .bool (dn || decide (e = 7))], 61, .fix⟩ Lx Ly) [IsCell tv] [IsCell rv] [IsCell mv] [IsCell dv] [IsCell fv] (hS : St H0 B0 B Lx H) :
    Ev (fun k _ => rn k 34 [ptr pb 0, .int .i64 e] H) (fun r => r.1 = .int .i64 e ∧ St H0 B0 B Ly r.2) := by
  have i1 : InL pb _ Lx := ⟨hm⟩
  refine Ev.fn (fun k => f34_eq k _ _ H) ?_
  cases dn with
  | true =>
    have i2 : UpL pb ⟨[tv, rv, mv, dv, fv, .bool true], 61, .fix⟩ ⟨[tv, rv, mv, dv, fv, .bool true], 61, .fix⟩ Lx Ly := ⟨hu⟩
    repeat (first | refine Ev.s ?_ | refine Ev.newC fun _ _ _ => ?_ | refine Ev.boxC fun _ _ _ => ?_ | refine Ev.stC fun _ _ => ?_ | refine Ev.sc (by omega) ?_ | refine Ev.scg (by omega) ?_)
    exact Ev.ret ⟨rfl, by assumption⟩
  | false =>
    have i2 : UpL pb ⟨[tv, rv, mv, dv, fv, .bool false], 61, .fix⟩ ⟨[tv, rv, mv, dv, fv, .bool (decide (e = 7))], 61, .fix⟩ Lx Ly := ⟨hu⟩
    repeat (first | refine Ev.s ?_ | refine Ev.newC fun _ _ _ => ?_ | refine Ev.boxC fun _ _ _ => ?_ | refine Ev.stC fun _ _ => ?_ | refine Ev.sc (by omega) ?_ | refine Ev.scg (by omega) ?_)
    exact Ev.ret ⟨rfl, by assumption⟩
end
end Go.AM.G
set_option linter.unusedVariables false
set_option linter.unusedSimpArgs false
set_option maxRecDepth 100000
namespace Go.AM.G
open Go Go.AM Go.Proofs
attribute [local irreducible] run bin un ld st box newV mkS fldA fld ixA ix slc slc3 build buildS cv cvS ap cpy lenV gOp pickV b2 aIf aChk evalK resume iterD Option.bind

section
variable {B B0 H0 H : AH} {L : List (Nat × Blk)}
def tB (t : Nat) : List Value := (List.range 6).map fun i => u8 (t / 2 ^ (8 * (5 - i)) % 256)
theorem tB_len (t : Nat) : (tB t).length = 6 := by simp [tB]
theorem text_loop {hb b t : Nat} {rv mv : Value} (ht : t < 281474976710656) [IsCell rv] [IsCell mv] : ∀ (m i : Nat) (H : AH), i + m = 6 →
    St H0 B0 B ((b, ⟨(tB t).take i ++ List.replicate (72 - i) (.int .u8 0), 5, .fix⟩) :: (hb, ⟨[i64 t, rv, mv], 59, .fix⟩) :: L) H →
    Ev (fun k K => f42_L0 k (ptr hb 0) (sl b 0 72 72) (i64 i) K H) (fun o => ∃ H', o = (.exit 0, f42_X_L0 (ptr hb 0) (sl b 0 72 72), H') ∧
      St H0 B0 B ((b, ⟨tB t ++ List.replicate 66 (.int .u8 0), 5, .fix⟩) :: (hb, ⟨[i64 t, rv, mv], 59, .fix⟩) :: L) H') := by
  intro m
  induction m with
  | zero =>
    intro i H hi hS
    have : i = 6 := by omega
    subst this
    refine Ev.succ (fun k K => f42_L0_succ k _ _ _ K H) ?_
    repeat (first | (first | refine Ev.s ?_ | refine Ev.newC fun _ _ _ => ?_ | refine Ev.boxC fun _ _ _ => ?_ | refine Ev.stC fun _ _ => ?_ | refine Ev.sc (by omega) ?_ | refine Ev.scg (by omega) ?_) | rw [decide_eq_true (by omega)] | rw [decide_eq_false (by omega)])
    refine Ev.ret ⟨H, rfl, ?_⟩
    rw [List.take_of_length_le (by rw [tB_len]; decide)] at hS
    exact hS
  | succ m ih =>
    intro i H hi hS
    refine Ev.succ (fun k K => f42_L0_succ k _ _ _ K H) ?_
    repeat (first | (first | refine Ev.s ?_ | refine Ev.newC fun _ _ _ => ?_ | refine Ev.boxC fun _ _ _ => ?_ | refine Ev.stC fun _ _ => ?_ | refine Ev.sc (by omega) ?_ | refine Ev.scg (by omega) ?_) | rw [decide_eq_true (by omega)] | rw [decide_eq_false (by omega)])
    refine Ev.prim (shrN (show 8 * (5 - i) < IntKind.i64.bits by show _ < 64; omega)) ?_
    refine Ev.prim (toU8 (Und.eq (P := Tryd.prog) (t := 3)) (Und.eq (P := Tryd.prog) (t := 5))) ?_
    have hE : Elt Tryd.prog 52 5 (.int .u8 0) 1 := inferInstance
    refine Ev.prim (ixA_own hE (show i < 72 by omega)) ?_
    rw [Nat.zero_add]
    have hlen : ((tB t).take i ++ List.replicate (72 - i) (Value.int .u8 0)).length = 72 := by rw [List.length_append, List.length_take, tB_len, List.length_replicate]; omega
    refine Ev.st hS (.head _) (stK_own hE (by rw [hlen]; omega) rfl) rfl (.head _) fun H' hS' => ?_
    repeat (first | (first | refine Ev.s ?_ | refine Ev.newC fun _ _ _ => ?_ | refine Ev.boxC fun _ _ _ => ?_ | refine Ev.stC fun _ _ => ?_ | refine Ev.sc (by omega) ?_ | refine Ev.scg (by omega) ?_) | rw [decide_eq_true (by omega)] | rw [decide_eq_false (by omega)])
    refine ih (i + 1) H' (by omega) ?_
    have e : ((tB t).take i ++ List.replicate (72 - i) (Value.int .u8 0)).set i (u8 (t / 2 ^ (8 * (5 - i)) % 256)) = (tB t).take (i + 1) ++ List.replicate (72 - (i + 1)) (.int .u8 0) := by
      have h6 : (tB t)[i]? = some (u8 (t / 2 ^ (8 * (5 - i)) % 256)) := by unfold tB; rw [List.getElem?_map, List.getElem?_range (by omega)]; rfl
      rw [List.take_add_one, h6]
      have hl : ((tB t).take i).length = i := by rw [List.length_take, tB_len]; omega
      rw [List.set_append_right _ _ (by omega), hl, Nat.sub_self, show 72 - i = (72 - (i + 1)) + 1 by omega, List.replicate_succ]
      simp
    rw [e] at hS'
    exact hS'
theorem tB_bytes (t : Nat) : tB t = byts (turnB t) := by
  unfold tB turnB byts
  rw [List.map_map, List.map_map]
  apply List.map_congr_left
  intro i hi
  have hi : i < 6 := by simpa using hi
  show _ = u8 (UInt8.ofNat (t / 256 ^ (5 - i))).toNat
  rw [show (UInt8.ofNat (t / 256 ^ (5 - i))).toNat = t / 256 ^ (5 - i) % 256 from rfl, Nat.pow_mul]
theorem text_spec {t r mb : Nat} {U : List Int} (ht : t < 281474976710656) (hr : r < 65536) (hU : ∀ n ∈ U, 0 ≤ n ∧ n < 512) (hm : (mb, ⟨entI U, 57, .map⟩) ∈ L) (hS : St H0 B0 B L H) :
    Ev (fun k _ => rn k 42 [.agg #[i64 t, i64 r, .map (some mb)]] H) (fun o => o.1 = str (textH t (r : Int) U) ∧ ∃ B', MoC B B' ∧ St H0 B0 B' L o.2) := by
  refine Ev.fn (fun k => f42_eq k _ H) ?_
  repeat (first | refine Ev.s ?_ | refine Ev.newC fun _ _ _ => ?_ | refine Ev.boxC fun _ _ _ => ?_ | refine Ev.stC fun _ _ => ?_ | refine Ev.sc (by omega) ?_ | refine Ev.scg (by omega) ?_)
  rename_i hb H1 hS1
  have hE : Elt Tryd.prog 52 5 (.int .u8 0) 1 := inferInstance
  refine Ev.mkS (t := 52) (m := 72) inferInstance hS1 (by omega) (by omega) fun b B' H2 hm2 hS2 => ?_
  clear hS hS1
  refine Ev.bind (Ev.loop (text_loop ht 6 0 H2 rfl (by simpa using hS2))) ?_
  clear hS2
  rintro _ ⟨H3, rfl, hS3⟩
  refine Ev.eq (fun k _ => f42_A0_x0 k _ _ H3) ?_
  repeat (first | refine Ev.s ?_ | refine Ev.newC fun _ _ _ => ?_ | refine Ev.boxC fun _ _ _ => ?_ | refine Ev.stC fun _ _ => ?_ | refine Ev.sc (by omega) ?_ | refine Ev.scg (by omega) ?_)
  refine Ev.prim (shrL (by decide)) ?_
  refine Ev.prim (toU8 (Und.eq (P := Tryd.prog) (t := 3)) (Und.eq (P := Tryd.prog) (t := 5))) ?_
  repeat (first | refine Ev.s ?_ | refine Ev.newC fun _ _ _ => ?_ | refine Ev.boxC fun _ _ _ => ?_ | refine Ev.stC fun _ _ => ?_ | refine Ev.sc (by omega) ?_ | refine Ev.scg (by omega) ?_)
  refine Ev.prim (show ixA Tryd.prog 52 (sl b 0 72 72) (.int .i64 6) = some (ptr b 6) from ixA_own (i := 6) hE (by decide)) ?_
  refine Ev.st hS3 (.head _) (stK_own (i := 6) hE (by simp [tB_len]) rfl) rfl (.head _) fun H4 hS4 => ?_
  clear hS3
  repeat (first | refine Ev.s ?_ | refine Ev.newC fun _ _ _ => ?_ | refine Ev.boxC fun _ _ _ => ?_ | refine Ev.stC fun _ _ => ?_ | refine Ev.sc (by omega) ?_ | refine Ev.scg (by omega) ?_)
  refine Ev.prim (show ixA Tryd.prog 52 (sl b 0 72 72) (.int .i64 7) = some (ptr b 7) from ixA_own (i := 7) hE (by decide)) ?_
  refine Ev.st hS4 (.head _) (stK_own (i := 7) hE (by simp [tB_len]) rfl) rfl (.head _) fun H5 hS5 => ?_
  clear hS4
  have e : ((tB t ++ List.replicate 66 (Value.int .u8 0)).set 6 (u8 (r / 2 ^ 8 % 256))).set 7 (u8 (r % 256)) = (tB t ++ [u8 (r / 2 ^ 8 % 256), u8 (r % 256)]) ++ List.replicate 64 (.int .u8 0) := by
    rw [List.set_append_right _ _ (by rw [tB_len]; decide), tB_len, List.set_append_right _ _ (by rw [tB_len]; decide), tB_len, List.append_assoc]
    rfl
  rw [e] at hS5
  refine AM.Ev.gText (cs := tB t ++ [u8 (r / 2 ^ 8 % 256), u8 (r % 256)]) hS5 (.tail _ (.head _)) (.tail _ (.tail _ hm)) (.head _) (.head _) (by simp [tB_len]) hU fun H6 hS6 => ?_
  clear hS5
  have e2 : (tB t ++ [u8 (r / 2 ^ 8 % 256), u8 (r % 256)]) ++ bmV U = byts (textH t (r : Int) U) := by
    rw [tB_bytes, bmV_byts]
    unfold textH
    rw [byts_app, byts_app, List.append_assoc]
    congr 2
  rw [e2] at hS6
  refine Ev.prim (cvS_part (d := 9) (bs := textH t (r : Int) U) hS6 (.head _) (by omega) (by rw [textH_len]; omega)) ?_
  rw [List.drop_zero, List.take_of_length_le (by rw [textH_len]; exact Nat.le_refl _)]
  exact Ev.ret ⟨rfl, B', ⟨hm2⟩, hS6.drop1.drop1⟩
/-- A head is written. -/
theorem hwrite_spec {dv : Value} {D : Dsk} {Ls : List (Nat × Blk)} {t r mb : Nat} {U : List Int} (hD : DK dv D Ls) (hO : D.OK) (hc : D.cache.length + 1 < 1000000000000) (ht : t < 281474976710656) (hr : r < 65536) (hU : ∀ n ∈ U, 0 ≤ n ∧ n < 512) (hm : (mb, ⟨entI U, 57, .map⟩) ∈ L) (hS : St H0 B0 B (Ls ++ L) H) :
    Ev (fun k _ => rn k 27 [.agg #[i64 t, i64 r, .map (some mb)], dv] H) (DkP H0 B0 B L dv (.int .i64 (hwrite D t (r : Int) U).1) (hwrite D t (r : Int) U).2) := by
  refine Ev.fn (fun k => f27_eq k _ _ H) ?_
  repeat (first | refine Ev.s ?_ | refine Ev.newC fun _ _ _ => ?_ | refine Ev.boxC fun _ _ _ => ?_ | refine Ev.stC fun _ _ => ?_ | refine Ev.sc (by omega) ?_ | refine Ev.scg (by omega) ?_)
  rename_i hb H1 hS1
  clear hS
  refine Ev.b2 (text_spec ht hr hU (.tail _ (List.mem_append_right _ hm)) hS1) ?_
  rintro _ H2 ⟨rfl, B2, hm2, hS2⟩
  dsimp only at hS2
  clear hS1
  repeat (first | refine Ev.s ?_ | refine Ev.newC fun _ _ _ => ?_ | refine Ev.boxC fun _ _ _ => ?_ | refine Ev.stC fun _ _ => ?_ | refine Ev.sc (by omega) ?_ | refine Ev.scg (by omega) ?_)
  have hS3 : St H0 B0 B2 (Ls ++ ((hb, _) :: L)) H2 := hS2.perm (List.perm_middle)
  refine Ev.b2 (pWrite_spec (n := ((t % 2 : Nat) : Int)) (kind := 1) hD hO hc (by rw [textH_len]; decide) (by decide) hS3) ?_
  rintro _ H3 ⟨rfl, Ls3, B3, hm3, hD3, hS4⟩
  dsimp only at hS4
  refine Ev.ret ⟨rfl, Ls3, B3, ⟨hm2.mo.trans hm3.mo⟩, hD3, ?_⟩
  exact (hS4.perm (List.perm_middle).symm).drop1
end
end Go.AM.G
set_option linter.unusedVariables false
set_option linter.unusedSimpArgs false
set_option maxRecDepth 100000
namespace Go.AM.G
open Go Go.AM Go.Proofs
attribute [local irreducible] run bin un ld st box newV mkS fldA fld ixA ix slc slc3 build buildS cv cvS ap cpy lenV gOp pickV b2 aIf aChk evalK resume iterD Option.bind

section
variable {B B0 H0 H : AH} {L : List (Nat × Blk)}
theorem DK.ptr {dv : Value} {D : Dsk} {Ls : List (Nat × Blk)} (h : DK dv D Ls) : ∃ d, dv = ptr d 0 := by obtain ⟨d, bb, cv, Lc, hp, _⟩ := h; exact ⟨d, hp⟩
theorem Format_spec {dv : Value} {D : Dsk} {Ls : List (Nat × Blk)} (hD : DK dv D Ls) (hO : D.OK) (hc : D.cache.length + 2 < 1000000000000) (hS : St H0 B0 B (Ls ++ L) H) :
    Ev (fun k _ => rn k 8 [dv] H) (fun r => (D.format.1 ≠ 0 ∧ DkP H0 B0 B L dv (.tuple #[.pointer none, .int .i64 D.format.1]) D.format.2 r) ∨ (D.format.1 = 0 ∧ ∃ p, PgP H0 B0 B L p dv (.tuple #[p, .int .i64 0]) ⟨1, 0, [0, 1], [], false⟩ D.format.2 r)) := by
  refine Ev.fn (fun k => f8_eq k _ H) ?_
  have h2 := hO.n2
  refine Ev.b2 (pages_spec hD hO hS fun x hx => List.mem_append_left _ hx) ?_
  rintro v H1 h
  cases h
  unfold Dsk.format
  by_cases h4 : D.n / 2 < 4
  · rw [if_pos h4]
    repeat (first | (first | refine Ev.s ?_ | refine Ev.newC fun _ _ _ => ?_ | refine Ev.boxC fun _ _ _ => ?_ | refine Ev.stC fun _ _ => ?_ | refine Ev.sc (by omega) ?_ | refine Ev.scg (by omega) ?_) | rw [decide_eq_true (by omega)] | rw [decide_eq_false (by omega)])
    exact Ev.ret (.inl ⟨by simp, rfl, Ls, B, ⟨Mo.refl B⟩, hD, hS⟩)
  rw [if_neg h4]
  obtain ⟨d, rfl⟩ := hD.ptr
  repeat (first | (first | refine Ev.s ?_ | refine Ev.newC fun _ _ _ => ?_ | refine Ev.boxC fun _ _ _ => ?_ | refine Ev.stC fun _ _ => ?_ | refine Ev.sc (by omega) ?_ | refine Ev.scg (by omega) ?_) | rw [decide_eq_true (by omega)] | rw [decide_eq_false (by omega)])
  refine Ev.mkMap (P := Tryd.prog) hS fun mb H1 hS1 => ?_
  refine Ev.mpTrueI (S := []) (kt := 3) (et := 4) (Und.eq (P := Tryd.prog) (t := 57)) (Und.eq (P := Tryd.prog) (t := 3)) hS1 (.head _) (.head _) fun H2 hS2 => ?_
  refine Ev.mpTrueI (S := [0]) (kt := 3) (et := 4) (Und.eq (P := Tryd.prog) (t := 57)) (Und.eq (P := Tryd.prog) (t := 3)) hS2 (.head _) (.head _) fun H3 hS3 => ?_
  clear hS hS1 hS2
  rw [show insI [0] 1 = [0, 1] from rfl] at hS3
  repeat (first | (first | refine Ev.s ?_ | refine Ev.newC fun _ _ _ => ?_ | refine Ev.boxC fun _ _ _ => ?_ | refine Ev.stC fun _ _ => ?_ | refine Ev.sc (by omega) ?_ | refine Ev.scg (by omega) ?_) | rw [decide_eq_true (by omega)] | rw [decide_eq_false (by omega)])
  rename_i pb H4 hS4
  clear hS3
  have hS5 : St H0 B0 B (Ls ++ ((pb, _) :: (mb, _) :: L)) H4 := hS4.perm (permA [_, _] Ls L)
  refine Ev.b2 (hwrite_spec (t := 1) (r := 0) (U := [0, 1]) hD hO (by omega) (by decide) (by decide) (by decide) (.tail _ (.head _)) hS5) ?_
  clear hS4 hS5
  have hwo := pwrite_ok hO ((1 % 2 : Nat) : Int) 1 (textH 1 0 [0, 1])
  have hwc := pwrite_cache D ((1 % 2 : Nat) : Int) 1 (textH 1 0 [0, 1])
  change (hwrite D 1 0 [0, 1]).2.OK at hwo
  change (hwrite D 1 0 [0, 1]).2.cache.length ≤ _ at hwc
  rw [show ((0 : Nat) : Int) = 0 from rfl]
  generalize hwrite D 1 0 [0, 1] = w at hwo hwc ⊢
  obtain ⟨w1, w2⟩ := w
  dsimp only at hwo hwc ⊢
  rintro _ H5 ⟨rfl, Ls5, B5, hm5, hD5, hS5⟩
  dsimp only at hS5
  by_cases hw : w1 = 0
  case neg =>
    rw [if_pos hw]
    repeat (first | refine Ev.s ?_ | refine Ev.newC fun _ _ _ => ?_ | refine Ev.boxC fun _ _ _ => ?_ | refine Ev.stC fun _ _ => ?_ | refine Ev.sc (by omega) ?_ | refine Ev.scg (by omega) ?_)
    rw [decide_eq_true hw]
    repeat (first | refine Ev.s ?_ | refine Ev.newC fun _ _ _ => ?_ | refine Ev.boxC fun _ _ _ => ?_ | refine Ev.stC fun _ _ => ?_ | refine Ev.sc (by omega) ?_ | refine Ev.scg (by omega) ?_)
    exact Ev.ret (.inl ⟨hw, rfl, Ls5, B5, hm5, hD5, hS5.drop (List.Sublist.append_left (.cons _ (.cons _ (List.Sublist.refl _))) _)⟩)
  rw [if_neg (by simpa using hw)]
  repeat (first | refine Ev.s ?_ | refine Ev.newC fun _ _ _ => ?_ | refine Ev.boxC fun _ _ _ => ?_ | refine Ev.stC fun _ _ => ?_ | refine Ev.sc (by omega) ?_ | refine Ev.scg (by omega) ?_)
  rw [decide_eq_false (by simpa using hw)]
  repeat (first | refine Ev.s ?_ | refine Ev.newC fun _ _ _ => ?_ | refine Ev.boxC fun _ _ _ => ?_ | refine Ev.stC fun _ _ => ?_ | refine Ev.sc (by omega) ?_ | refine Ev.scg (by omega) ?_)
  refine Ev.b2 (Barrier_spec hD5 hwo (by omega) hS5) ?_
  generalize w2.barrier = b at ⊢
  obtain ⟨b1, b2⟩ := b
  dsimp only
  rintro _ H6 ⟨rfl, Ls6, B6, hm6, hD6, hS6⟩
  dsimp only at hS6
  by_cases hb : b1 = 0
  case neg =>
    repeat (first | refine Ev.s ?_ | refine Ev.newC fun _ _ _ => ?_ | refine Ev.boxC fun _ _ _ => ?_ | refine Ev.stC fun _ _ => ?_ | refine Ev.sc (by omega) ?_ | refine Ev.scg (by omega) ?_)
    rw [decide_eq_true hb]
    repeat (first | refine Ev.s ?_ | refine Ev.newC fun _ _ _ => ?_ | refine Ev.boxC fun _ _ _ => ?_ | refine Ev.stC fun _ _ => ?_ | refine Ev.sc (by omega) ?_ | refine Ev.scg (by omega) ?_)
    exact Ev.ret (.inl ⟨hb, rfl, Ls6, B6, ⟨hm5.mo.trans hm6.mo⟩, hD6, hS6.drop (List.Sublist.append_left (.cons _ (.cons _ (List.Sublist.refl _))) _)⟩)
  repeat (first | refine Ev.s ?_ | refine Ev.newC fun _ _ _ => ?_ | refine Ev.boxC fun _ _ _ => ?_ | refine Ev.stC fun _ _ => ?_ | refine Ev.sc (by omega) ?_ | refine Ev.scg (by omega) ?_)
  rw [decide_eq_false (by simpa using hb)]
  repeat (first | refine Ev.s ?_ | refine Ev.newC fun _ _ _ => ?_ | refine Ev.boxC fun _ _ _ => ?_ | refine Ev.stC fun _ _ => ?_ | refine Ev.sc (by omega) ?_ | refine Ev.scg (by omega) ?_)
  refine Ev.ret (.inr ⟨hb, ptr pb 0, rfl, _, B6, ⟨hm5.mo.trans hm6.mo⟩, ⟨pb, mb, _, [], Ls6, rfl, hD6, FRS.nil, rfl⟩, ?_⟩)
  exact (hS6.perm (permA Ls6 [_, _] L))
theorem PK.sub {p dv : Value} {G : Pgr} {D : Dsk} {Ls : List (Nat × Blk)} (h : PK p dv G D Ls) : ∃ Ld, DK dv D Ld ∧ ∀ x ∈ Ld, x ∈ Ls := by
  obtain ⟨pb, mb, fv, Lf, Ld, rfl, hD, hF, rfl⟩ := h
  exact ⟨Ld, hD, fun x hx => .tail _ (.tail _ (List.mem_append_right _ hx))⟩
theorem Pages_spec {p dv : Value} {G : Pgr} {D : Dsk} {Ls Lx : List (Nat × Blk)} (hP : PK p dv G D Ls) (hO : D.OK) (hS : St H0 B0 B Lx H) (hsub : ∀ x ∈ Ls, x ∈ Lx) :
    Ev (fun k _ => rn k 29 [p] H) (fun r => r = (i64 (D.n / 2), H)) := by
  obtain ⟨Ld, hD, hs⟩ := hP.sub
  obtain ⟨pb, mb, fv, Lf, Ld', rfl, hD', hF, rfl⟩ := hP
  obtain ⟨d, rfl⟩ := hD.ptr
  have hcell := hF.cell
  have hi : InL pb _ Lx := ⟨hsub _ (.head _)⟩
  refine Ev.fn (fun k => f29_eq k _ H) ?_
  repeat (first | refine Ev.s ?_ | refine Ev.newC fun _ _ _ => ?_ | refine Ev.boxC fun _ _ _ => ?_ | refine Ev.stC fun _ _ => ?_ | refine Ev.sc (by omega) ?_ | refine Ev.scg (by omega) ?_)
  refine Ev.b2 (pages_spec hD hO hS fun x hx => hsub _ (hs x hx)) ?_
  rintro v H1 h
  cases h
  exact Ev.ret rfl
theorem Alloc_loop {pb mb d : Nat} {fv : Value} {Lf Lr : List (Nat × Blk)} {tv rv : Value} {U F : List Int} {m : Nat} [IsCell tv] [IsCell rv] (hF : FR fv F Lf) (hl : F.length < 100000) (hm : m < 100000) : ∀ (q i : Nat), i + q = m → 
    (St H0 B0 B ((pb, ⟨[tv, rv, .map (some mb), ptr d 0, fv, .bool false], 61, .fix⟩) :: (mb, ⟨entI U, 57, .map⟩) :: (Lf ++ Lr)) H) → (∀ j < i, (!decide (((j : Nat) : Int) ∈ U) && !decide ((j : Int) ∈ F)) = false) →
    Ev (fun k K => f9_L0 k (ptr pb 0) (i64 m) (i64 i) K H) (fun o =>
      (∃ n : Nat, (List.range m).find? (fun (n : Nat) => !decide ((n : Int) ∈ U) && !decide ((n : Int) ∈ F)) = some n ∧ ∃ fv' Lf' H', o = (.ret, f9_X_L0 (i64 n) (.int .i64 0), H') ∧ FR fv' (F ++ [(n : Int)]) Lf' ∧
        St H0 B0 B ((pb, ⟨[tv, rv, .map (some mb), ptr d 0, fv', .bool false], 61, .fix⟩) :: (mb, ⟨entI U, 57, .map⟩) :: (Lf' ++ Lr)) H') ∨
      ((List.range m).find? (fun (n : Nat) => !decide ((n : Int) ∈ U) && !decide ((n : Int) ∈ F)) = none ∧ o = (.exit 0, f9_X_L0 unk unk, H))) := by
  intro q
  induction q with
  | zero =>
    intro i hi hS hno
    refine Ev.succ (fun k K => f9_L0_succ k _ _ _ K H) ?_
    repeat (first | refine Ev.s ?_ | refine Ev.newC fun _ _ _ => ?_ | refine Ev.boxC fun _ _ _ => ?_ | refine Ev.stC fun _ _ => ?_ | refine Ev.sc (by omega) ?_ | refine Ev.scg (by omega) ?_)
    rw [decide_eq_false (by omega)]
    repeat (first | refine Ev.s ?_ | refine Ev.newC fun _ _ _ => ?_ | refine Ev.boxC fun _ _ _ => ?_ | refine Ev.stC fun _ _ => ?_ | refine Ev.sc (by omega) ?_ | refine Ev.scg (by omega) ?_)
    refine Ev.ret (.inr ⟨?_, rfl⟩)
    rw [List.find?_eq_none]
    intro j hj
    rw [hno j (by have := List.mem_range.1 hj; omega)]
    decide
  | succ q ih =>
    intro i hi hS hno
    have hcell := hF.cell
    refine Ev.succ (fun k K => f9_L0_succ k _ _ _ K H) ?_
    repeat (first | refine Ev.s ?_ | refine Ev.newC fun _ _ _ => ?_ | refine Ev.boxC fun _ _ _ => ?_ | refine Ev.stC fun _ _ => ?_ | refine Ev.sc (by omega) ?_ | refine Ev.scg (by omega) ?_)
    rw [decide_eq_true (by omega)]
    repeat (first | refine Ev.s ?_ | refine Ev.newC fun _ _ _ => ?_ | refine Ev.boxC fun _ _ _ => ?_ | refine Ev.stC fun _ _ => ?_ | refine Ev.sc (by omega) ?_ | refine Ev.scg (by omega) ?_)
    refine Ev.prim (lkI (kt := 3) (et := 4) (Und.eq (P := Tryd.prog) (t := 57)) (Und.eq (P := Tryd.prog) (t := 3)) (by kernel_rfl) hS (.tail _ (.head _))) ?_
    have next : (!decide ((i : Int) ∈ U) && !decide ((i : Int) ∈ F)) = false → ∀ j < i + 1, (!decide (((j : Nat) : Int) ∈ U) && !decide ((j : Int) ∈ F)) = false := fun h j hj => by
      by_cases he : j = i
      · subst he; exact h
      · exact hno j (by omega)
    by_cases hu : (i : Int) ∈ U
    · rw [decide_eq_true hu]
      repeat (first | (first | refine Ev.s ?_ | refine Ev.newC fun _ _ _ => ?_ | refine Ev.boxC fun _ _ _ => ?_ | refine Ev.stC fun _ _ => ?_ | refine Ev.sc (by omega) ?_ | refine Ev.scg (by omega) ?_) | rw [decide_eq_true (by omega)] | rw [decide_eq_false (by omega)])
      exact ih (i + 1) (by omega) hS (next (by simp [hu]))
    rw [decide_eq_false hu]
    repeat (first | refine Ev.s ?_ | refine Ev.newC fun _ _ _ => ?_ | refine Ev.boxC fun _ _ _ => ?_ | refine Ev.stC fun _ _ => ?_ | refine Ev.sc (by omega) ?_ | refine Ev.scg (by omega) ?_)
    refine Ev.b2 (Contains_spec (i : Int) hF (by omega) hS fun x hx => .tail _ (.tail _ (List.mem_append_left _ hx))) ?_
    rintro v H1 h
    cases h
    by_cases hf : (i : Int) ∈ F
    · rw [decide_eq_true hf]
      repeat (first | (first | refine Ev.s ?_ | refine Ev.newC fun _ _ _ => ?_ | refine Ev.boxC fun _ _ _ => ?_ | refine Ev.stC fun _ _ => ?_ | refine Ev.sc (by omega) ?_ | refine Ev.scg (by omega) ?_) | rw [decide_eq_true (by omega)] | rw [decide_eq_false (by omega)])
      exact ih (i + 1) (by omega) hS (next (by simp [hf]))
    rw [decide_eq_false hf]
    repeat (first | refine Ev.s ?_ | refine Ev.newC fun _ _ _ => ?_ | refine Ev.boxC fun _ _ _ => ?_ | refine Ev.stC fun _ _ => ?_ | refine Ev.sc (by omega) ?_ | refine Ev.scg (by omega) ?_)
    have hS2 : St H0 B0 B (Lf ++ ((pb, _) :: (mb, _) :: Lr)) H := hS.perm (permA [_, _] Lf Lr)
    refine FRS.push eltI hF hS2 (by omega) fun fv' Lf' H' hF' hS' => ?_
    have hcell' := hF'.cell
    have hS3 : St H0 B0 B ((pb, _) :: (mb, _) :: (Lf' ++ Lr)) H' := hS'.perm (permA Lf' [_, _] Lr)
    clear hS hS2 hS'
    repeat (first | refine Ev.s ?_ | refine Ev.newC fun _ _ _ => ?_ | refine Ev.boxC fun _ _ _ => ?_ | refine Ev.stC fun _ _ => ?_ | refine Ev.sc (by omega) ?_ | refine Ev.scg (by omega) ?_)
    refine Ev.ret (.inl ⟨i, ?_, fv', Lf', _, rfl, hF', by assumption⟩)
    rw [List.find?_range_eq_some]
    exact ⟨by simp [hu, hf], List.mem_range.2 (by omega), fun j hj => by rw [hno j hj]; rfl⟩
theorem Alloc_spec {p dv : Value} {G : Pgr} {D : Dsk} {Ls : List (Nat × Blk)} (hP : PK p dv G D Ls) (hO : D.OK) (hl : G.fresh.length < 100000) (hS : St H0 B0 B (Ls ++ L) H) :
    Ev (fun k _ => rn k 9 [p] H) (PgP H0 B0 B L p dv (.tuple #[.int .i64 (G.alloc (D.n / 2)).1, .int .i64 (G.alloc (D.n / 2)).2.1]) (G.alloc (D.n / 2)).2.2 D) := by
  have hP0 := hP
  obtain ⟨pb, mb, fv, Lf, Ld, rfl, hD, hF, rfl⟩ := hP
  obtain ⟨d, rfl⟩ := hD.ptr
  have hcell := hF.cell
  obtain ⟨turn, root, U, F, dn⟩ := G
  dsimp only at hF hl hP0 hS
  refine Ev.fn (fun k => f9_eq k _ H) ?_
  simp only [List.cons_append] at hS
  unfold Pgr.alloc
  dsimp only
  have hn := hO.n2
  cases dn with
  | true =>
    repeat (first | refine Ev.s ?_ | refine Ev.newC fun _ _ _ => ?_ | refine Ev.boxC fun _ _ _ => ?_ | refine Ev.stC fun _ _ => ?_ | refine Ev.sc (by omega) ?_ | refine Ev.scg (by omega) ?_)
    exact Ev.ret ⟨rfl, _, B, ⟨Mo.refl B⟩, hP0, hS⟩
  | false =>
    rw [if_neg (by decide)]
    repeat (first | refine Ev.s ?_ | refine Ev.newC fun _ _ _ => ?_ | refine Ev.boxC fun _ _ _ => ?_ | refine Ev.stC fun _ _ => ?_ | refine Ev.sc (by omega) ?_ | refine Ev.scg (by omega) ?_)
    refine Ev.b2 (Pages_spec hP0 hO hS fun x hx => ?_) ?_
    · rcases List.mem_cons.1 hx with rfl | hx
      · exact .head _
      · rcases List.mem_cons.1 hx with rfl | hx
        · exact .tail _ (.head _)
        · exact .tail _ (.tail _ (List.mem_append_left _ hx))
    rintro v H1 h
    cases h
    have hS2 : St H0 B0 B ((pb, ⟨[i64 turn, .int .i64 root, .map (some mb), ptr d 0, fv, .bool false], 61, .fix⟩) :: (mb, ⟨entI U, 57, .map⟩) :: (Lf ++ (Ld ++ L))) H := by rw [List.append_assoc] at hS; exact hS
    refine Ev.bind (Ev.loop (Alloc_loop hF hl (by omega) (D.n / 2) 0 (by omega) hS2 (fun j hj => by omega))) ?_
    rintro _ (⟨n, hfd, fv', Lf', H', rfl, hF', hS'⟩ | ⟨hfd, rfl⟩)
    · refine Ev.eq (fun k _ => f9_A0_ret k _ _ H') ?_
      rw [hfd]
      refine Ev.ret ⟨rfl, _, B, ⟨Mo.refl B⟩, ⟨pb, mb, fv', Lf', Ld, rfl, hD, hF', rfl⟩, ?_⟩
      show St H0 B0 B ((pb, _) :: (mb, _) :: ((Lf' ++ Ld) ++ L)) H'
      rw [List.append_assoc]
      exact hS'
    · refine Ev.eq (fun k _ => f9_A0_x0 k _ _ H) ?_
      rw [hfd]
      exact Ev.ret ⟨rfl, _, B, ⟨Mo.refl B⟩, hP0, hS⟩
theorem Turn_spec {p dv : Value} {G : Pgr} {D : Dsk} {Ls Lx : List (Nat × Blk)} (hP : PK p dv G D Ls) (hS : St H0 B0 B Lx H) (hsub : ∀ x ∈ Ls, x ∈ Lx) :
    Ev (fun k _ => rn k 16 [p] H) (fun r => r = (i64 G.turn, H)) := by
  obtain ⟨pb, mb, fv, Lf, Ld', rfl, hD', hF, rfl⟩ := hP
  have hi : InL pb _ Lx := ⟨hsub _ (.head _)⟩
  refine Ev.fn (fun k => f16_eq k _ H) ?_
  repeat (first | refine Ev.s ?_ | refine Ev.newC fun _ _ _ => ?_ | refine Ev.boxC fun _ _ _ => ?_ | refine Ev.stC fun _ _ => ?_ | refine Ev.sc (by omega) ?_ | refine Ev.scg (by omega) ?_)
  exact Ev.ret rfl
theorem Root_spec {p dv : Value} {G : Pgr} {D : Dsk} {Ls Lx : List (Nat × Blk)} (hP : PK p dv G D Ls) (hS : St H0 B0 B Lx H) (hsub : ∀ x ∈ Ls, x ∈ Lx) :
    Ev (fun k _ => rn k 24 [p] H) (fun r => r = (.int .i64 G.root, H)) := by
  obtain ⟨pb, mb, fv, Lf, Ld', rfl, hD', hF, rfl⟩ := hP
  have hi : InL pb _ Lx := ⟨hsub _ (.head _)⟩
  refine Ev.fn (fun k => f24_eq k _ H) ?_
  repeat (first | refine Ev.s ?_ | refine Ev.newC fun _ _ _ => ?_ | refine Ev.boxC fun _ _ _ => ?_ | refine Ev.stC fun _ _ => ?_ | refine Ev.sc (by omega) ?_ | refine Ev.scg (by omega) ?_)
  exact Ev.ret rfl
end
end Go.AM.G
set_option linter.unusedVariables false
set_option linter.unusedSimpArgs false
set_option maxRecDepth 100000
namespace Go.AM.G
open Go Go.AM Go.Proofs
attribute [local irreducible] run bin un ld st box newV mkS fldA fld ixA ix slc slc3 build buildS cv cvS ap cpy lenV gOp pickV b2 aIf aChk evalK resume iterD Option.bind

section
variable {B B0 H0 H : AH} {L : List (Nat × Blk)}
theorem st_toD {x y : Nat × Blk} {Lf Ld : List (Nat × Blk)} (h : St H0 B0 B (x :: y :: (Lf ++ Ld ++ L)) H) : St H0 B0 B (Ld ++ (x :: y :: (Lf ++ L))) H := h.perm (by
  have := (permA Ld (x :: y :: Lf) L).symm
  simpa [List.append_assoc] using this)
theorem st_toP {x y : Nat × Blk} {Lf Ld : List (Nat × Blk)} (h : St H0 B0 B (Ld ++ (x :: y :: (Lf ++ L))) H) : St H0 B0 B (x :: y :: (Lf ++ Ld ++ L)) H := h.perm (by
  have := permA Ld (x :: y :: Lf) L
  simpa [List.append_assoc] using this)
theorem Write_specP {p dv : Value} {G : Pgr} {D : Dsk} {Ls : List (Nat × Blk)} {n kind : Int} {t : List UInt8} (hP : PK p dv G D Ls) (hO : D.OK) (hc : D.cache.length + 1 < 1000000000000) (hl : G.fresh.length < 100000) (ht : t.length < 9223372036854775808) (hk : -9223372036854775808 ≤ kind ∧ kind < 9223372036854775808) (hS : St H0 B0 B (Ls ++ L) H) :
    Ev (fun k _ => rn k 14 [p, .int .i64 n, .int .i64 kind, str t] H) (PgP H0 B0 B L p dv (.int .i64 (G.write D n kind t).1) (G.write D n kind t).2.1 (G.write D n kind t).2.2) := by
  have hP0 := hP
  obtain ⟨pb, mb, fv, Lf, Ld, rfl, hD, hF, rfl⟩ := hP
  obtain ⟨d, rfl⟩ := hD.ptr
  have hcell := hF.cell
  obtain ⟨turn, root, U, F, dn⟩ := G
  dsimp only at hF hl hP0 hS
  simp only [List.cons_append] at hS
  refine Ev.fn (fun k => f14_eq k _ _ _ _ H) ?_
  unfold Pgr.write
  dsimp only
  cases dn with
  | true =>
    rw [if_pos rfl]
    repeat (first | refine Ev.s ?_ | refine Ev.newC fun _ _ _ => ?_ | refine Ev.boxC fun _ _ _ => ?_ | refine Ev.stC fun _ _ => ?_ | refine Ev.sc (by omega) ?_ | refine Ev.scg (by omega) ?_)
    exact Ev.ret ⟨rfl, _, B, ⟨Mo.refl B⟩, hP0, hS⟩
  | false =>
    rw [if_neg (by decide)]
    repeat (first | refine Ev.s ?_ | refine Ev.newC fun _ _ _ => ?_ | refine Ev.boxC fun _ _ _ => ?_ | refine Ev.stC fun _ _ => ?_ | refine Ev.sc (by omega) ?_ | refine Ev.scg (by omega) ?_)
    refine Ev.b2 (Contains_spec n hF (by omega) hS fun x hx => .tail _ (.tail _ (List.mem_append_left _ (List.mem_append_left _ hx)))) ?_
    rintro v H1 h
    cases h
    by_cases hf : n ∈ F
    case neg =>
      rw [decide_eq_false hf, if_pos hf]
      repeat (first | refine Ev.s ?_ | refine Ev.newC fun _ _ _ => ?_ | refine Ev.boxC fun _ _ _ => ?_ | refine Ev.stC fun _ _ => ?_ | refine Ev.sc (by omega) ?_ | refine Ev.scg (by omega) ?_)
      exact Ev.ret ⟨rfl, _, B, ⟨Mo.refl B⟩, hP0, hS⟩
    rw [decide_eq_true hf, if_neg (by simpa using hf)]
    repeat (first | refine Ev.s ?_ | refine Ev.newC fun _ _ _ => ?_ | refine Ev.boxC fun _ _ _ => ?_ | refine Ev.stC fun _ _ => ?_ | refine Ev.sc (by omega) ?_ | refine Ev.scg (by omega) ?_)
    refine Ev.b2 (pWrite_spec (n := n) (kind := kind) hD hO hc ht hk (st_toD hS)) ?_
    generalize D.pwrite n kind t = w
    obtain ⟨w1, w2⟩ := w
    dsimp only
    rintro _ H2 ⟨rfl, Ld2, B2, hm2, hD2, hS2⟩
    dsimp only at hS2
    repeat (first | refine Ev.s ?_ | refine Ev.newC fun _ _ _ => ?_ | refine Ev.boxC fun _ _ _ => ?_ | refine Ev.stC fun _ _ => ?_ | refine Ev.sc (by omega) ?_ | refine Ev.scg (by omega) ?_)
    refine Ev.b2 (told_spec (.head _) (.head _) (st_toP hS2)) ?_
    rintro _ H3 ⟨rfl, hS3⟩
    exact Ev.ret ⟨rfl, _, B2, hm2, ⟨pb, mb, fv, Lf, Ld2, rfl, hD2, hF, rfl⟩, hS3⟩
theorem Read_specP {p dv : Value} {G : Pgr} {D : Dsk} {Ls : List (Nat × Blk)} {n : Int} (hP : PK p dv G D Ls) (hO : D.OK) (hc : D.cache.length < 1000000000000) (hS : St H0 B0 B (Ls ++ L) H) :
    Ev (fun k _ => rn k 25 [p, .int .i64 n] H) (PgP H0 B0 B L p dv (OpenV (G.read D n).1) (G.read D n).2 D) := by
  have hP0 := hP
  obtain ⟨pb, mb, fv, Lf, Ld, rfl, hD, hF, rfl⟩ := hP
  obtain ⟨d, rfl⟩ := hD.ptr
  have hcell := hF.cell
  obtain ⟨turn, root, U, F, dn⟩ := G
  dsimp only at hF hP0 hS
  simp only [List.cons_append] at hS
  refine Ev.fn (fun k => f25_eq k _ _ H) ?_
  have hn := hO.n2
  unfold Pgr.read
  dsimp only
  cases dn with
  | true =>
    rw [if_pos rfl]
    repeat (first | refine Ev.s ?_ | refine Ev.newC fun _ _ _ => ?_ | refine Ev.boxC fun _ _ _ => ?_ | refine Ev.stC fun _ _ => ?_ | refine Ev.sc (by omega) ?_ | refine Ev.scg (by omega) ?_)
    exact Ev.ret ⟨rfl, _, B, ⟨Mo.refl B⟩, hP0, hS⟩
  | false =>
    rw [if_neg (by decide)]
    repeat (first | refine Ev.s ?_ | refine Ev.newC fun _ _ _ => ?_ | refine Ev.boxC fun _ _ _ => ?_ | refine Ev.stC fun _ _ => ?_ | refine Ev.sc (by omega) ?_ | refine Ev.scg (by omega) ?_)
    by_cases h0 : n < 0
    · rw [decide_eq_true h0, if_pos (.inl h0)]
      repeat (first | refine Ev.s ?_ | refine Ev.newC fun _ _ _ => ?_ | refine Ev.boxC fun _ _ _ => ?_ | refine Ev.stC fun _ _ => ?_ | refine Ev.sc (by omega) ?_ | refine Ev.scg (by omega) ?_)
      exact Ev.ret ⟨rfl, _, B, ⟨Mo.refl B⟩, hP0, hS⟩
    rw [decide_eq_false h0]
    repeat (first | refine Ev.s ?_ | refine Ev.newC fun _ _ _ => ?_ | refine Ev.boxC fun _ _ _ => ?_ | refine Ev.stC fun _ _ => ?_ | refine Ev.sc (by omega) ?_ | refine Ev.scg (by omega) ?_)
    refine Ev.b2 (Pages_spec hP0 hO hS fun x hx => ?_) ?_
    · rcases List.mem_cons.1 hx with rfl | hx
      · exact .head _
      · rcases List.mem_cons.1 hx with rfl | hx
        · exact .tail _ (.head _)
        · exact .tail _ (.tail _ (List.mem_append_left _ hx))
    rintro v H1 h
    cases h
    repeat (first | refine Ev.s ?_ | refine Ev.newC fun _ _ _ => ?_ | refine Ev.boxC fun _ _ _ => ?_ | refine Ev.stC fun _ _ => ?_ | refine Ev.sc (by omega) ?_ | refine Ev.scg (by omega) ?_)
    by_cases h1 : ((D.n / 2 : Nat) : Int) ≤ n
    · rw [decide_eq_true h1, if_pos (.inr h1)]
      repeat (first | refine Ev.s ?_ | refine Ev.newC fun _ _ _ => ?_ | refine Ev.boxC fun _ _ _ => ?_ | refine Ev.stC fun _ _ => ?_ | refine Ev.sc (by omega) ?_ | refine Ev.scg (by omega) ?_)
      exact Ev.ret ⟨rfl, _, B, ⟨Mo.refl B⟩, hP0, hS⟩
    rw [decide_eq_false h1, if_neg (by omega)]
    repeat (first | refine Ev.s ?_ | refine Ev.newC fun _ _ _ => ?_ | refine Ev.boxC fun _ _ _ => ?_ | refine Ev.stC fun _ _ => ?_ | refine Ev.sc (by omega) ?_ | refine Ev.scg (by omega) ?_)
    refine Ev.b2 (pRead_spec (n := n) hD hO hc (st_toD hS)) ?_
    generalize D.pread n = w
    obtain ⟨w1, w2, w3⟩ := w
    dsimp only
    rintro _ H2 ⟨rfl, B2, hm2, hS2⟩
    try dsimp only at hS2
    unfold OpenV
    dsimp only
    repeat (first | refine Ev.s ?_ | refine Ev.newC fun _ _ _ => ?_ | refine Ev.boxC fun _ _ _ => ?_ | refine Ev.stC fun _ _ => ?_ | refine Ev.sc (by omega) ?_ | refine Ev.scg (by omega) ?_)
    refine Ev.b2 (told_spec (.head _) (.head _) (st_toP hS2)) ?_
    rintro _ H3 ⟨rfl, hS3⟩
    repeat (first | refine Ev.s ?_ | refine Ev.newC fun _ _ _ => ?_ | refine Ev.boxC fun _ _ _ => ?_ | refine Ev.stC fun _ _ => ?_ | refine Ev.sc (by omega) ?_ | refine Ev.scg (by omega) ?_)
    exact Ev.ret ⟨rfl, _, B2, hm2, ⟨pb, mb, fv, Lf, Ld, rfl, hD, hF, rfl⟩, hS3⟩
/-- The pages that are used, in a slice of its own. -/
theorem Used_spec {p dv : Value} {G : Pgr} {D : Dsk} {Ls : List (Nat × Blk)} (hP : PK p dv G D Ls) (hO : D.OK) (hS : St H0 B0 B (Ls ++ L) H) :
    Ev (fun k _ => rn k 13 [p] H) (fun r => ∃ B', MoC B B' ∧ ScN B' r.1 (G.list (D.n / 2)).length 1 (intV (G.list (D.n / 2))) ∧ St H0 B0 B' (Ls ++ L) r.2) := by
  have hP0 := hP
  obtain ⟨pb, mb, fv, Lf, Ld, rfl, hD, hF, rfl⟩ := hP
  obtain ⟨d, rfl⟩ := hD.ptr
  have hcell := hF.cell
  simp only [List.cons_append] at hS
  refine Ev.fn (fun k => f13_eq k _ H) ?_
  refine Ev.b2 (Pages_spec hP0 hO hS fun x hx => ?_) ?_
  · rcases List.mem_cons.1 hx with rfl | hx
    · exact .head _
    · rcases List.mem_cons.1 hx with rfl | hx
      · exact .tail _ (.head _)
      · exact .tail _ (.tail _ (List.mem_append_left _ hx))
  rintro v H1 h
  cases h
  have hn := hO.n2
  have hm : D.n / 2 ≤ 1024 := by omega
  generalize D.n / 2 = m at *
  have key : ∀ (q i : Nat) (v : Value) (B1 H : AH), i + q = m → MoC B B1 → GAcc 3 1 H0 B0 B1 ((pb, ⟨[i64 G.turn, .int .i64 G.root, .map (some mb), ptr d 0, fv, .bool G.down], 61, .fix⟩) :: (mb, ⟨entI G.used, 57, .map⟩) :: (Lf ++ Ld ++ L)) H v (G.list i).length (intV (G.list i)) →
      Ev (fun k K => f13_L0 k (ptr pb 0) v (i64 m) (i64 i) K H) (fun o => ∃ v' B' H', o = (.exit 0, f13_X_L0 v', H') ∧ MoC B B' ∧ GAcc 3 1 H0 B0 B' ((pb, ⟨[i64 G.turn, .int .i64 G.root, .map (some mb), ptr d 0, fv, .bool G.down], 61, .fix⟩) :: (mb, ⟨entI G.used, 57, .map⟩) :: (Lf ++ Ld ++ L)) H' v' (G.list m).length (intV (G.list m))) := by
    intro q
    induction q with
    | zero =>
      intro i v B1 H hi hB1 hG
      have : i = m := by omega
      subst this
      refine Ev.succ (fun k K => f13_L0_succ k _ _ _ _ K H) ?_
      repeat (first | refine Ev.s ?_ | refine Ev.newC fun _ _ _ => ?_ | refine Ev.boxC fun _ _ _ => ?_ | refine Ev.stC fun _ _ => ?_ | refine Ev.sc (by omega) ?_ | refine Ev.scg (by omega) ?_)
      rw [decide_eq_false (by omega)]
      repeat (first | refine Ev.s ?_ | refine Ev.newC fun _ _ _ => ?_ | refine Ev.boxC fun _ _ _ => ?_ | refine Ev.stC fun _ _ => ?_ | refine Ev.sc (by omega) ?_ | refine Ev.scg (by omega) ?_)
      exact Ev.ret ⟨v, B1, H, rfl, hB1, hG⟩
    | succ q ih =>
      intro i v B1 H hi hB1 hG
      have hSt := hG.st
      refine Ev.succ (fun k K => f13_L0_succ k _ _ _ _ K H) ?_
      repeat (first | refine Ev.s ?_ | refine Ev.newC fun _ _ _ => ?_ | refine Ev.boxC fun _ _ _ => ?_ | refine Ev.stC fun _ _ => ?_ | refine Ev.sc (by omega) ?_ | refine Ev.scg (by omega) ?_)
      rw [decide_eq_true (by omega)]
      repeat (first | refine Ev.s ?_ | refine Ev.newC fun _ _ _ => ?_ | refine Ev.boxC fun _ _ _ => ?_ | refine Ev.stC fun _ _ => ?_ | refine Ev.sc (by omega) ?_ | refine Ev.scg (by omega) ?_)
      refine Ev.prim (lkI (kt := 3) (et := 4) (Und.eq (P := Tryd.prog) (t := 57)) (Und.eq (P := Tryd.prog) (t := 3)) (by kernel_rfl) hSt (.tail _ (.head _))) ?_
      have hstep : G.list (i + 1) = G.list i ++ (if (i : Int) ∈ G.used then [(i : Int)] else []) := by
        unfold Pgr.list
        rw [List.range_succ, List.map_append, List.filter_append]
        congr 1
        by_cases hu : (i : Int) ∈ G.used <;> simp [hu]
      have hlen : (G.list i).length ≤ i := by
        unfold Pgr.list
        exact Nat.le_trans (List.length_filter_le _ _) (by simp)
      by_cases hu : (i : Int) ∈ G.used
      · rw [decide_eq_true hu]
        rw [if_pos hu] at hstep
        repeat (first | refine Ev.s ?_ | refine Ev.newC fun _ _ _ => ?_ | refine Ev.boxC fun _ _ _ => ?_ | refine Ev.stC fun _ _ => ?_ | refine Ev.sc (by omega) ?_ | refine Ev.scg (by omega) ?_)
        refine GAcc.push (t := 33) (x := i64 i) (ds := [i64 i]) hG rfl rfl rfl rfl (by decide) (by omega) fun v' B' H' hm' hG' => ?_
        repeat (first | (first | refine Ev.s ?_ | refine Ev.newC fun _ _ _ => ?_ | refine Ev.boxC fun _ _ _ => ?_ | refine Ev.stC fun _ _ => ?_ | refine Ev.sc (by omega) ?_ | refine Ev.scg (by omega) ?_) | rw [decide_eq_true (by omega)] | rw [decide_eq_false (by omega)])
        refine ih (i + 1) v' B' H' (by omega) ⟨hB1.mo.trans hm'.mo⟩ ?_
        rw [hstep, intV_snoc, List.length_append]
        exact hG'
      · rw [decide_eq_false hu]
        rw [if_neg hu, List.append_nil] at hstep
        repeat (first | (first | refine Ev.s ?_ | refine Ev.newC fun _ _ _ => ?_ | refine Ev.boxC fun _ _ _ => ?_ | refine Ev.stC fun _ _ => ?_ | refine Ev.sc (by omega) ?_ | refine Ev.scg (by omega) ?_) | rw [decide_eq_true (by omega)] | rw [decide_eq_false (by omega)])
        refine ih (i + 1) v B1 H (by omega) hB1 ?_
        rw [hstep]
        exact hG
  refine Ev.bind (Ev.loop (key m 0 _ B H (by omega) ⟨Mo.refl B⟩ (.inl ⟨rfl, rfl, .inl rfl, hS⟩))) ?_
  rintro _ ⟨v', B', H', rfl, hm', hG'⟩
  refine Ev.eq (fun k _ => f13_A0_x0 k _ H') ?_
  obtain ⟨B2, hm2, hsc, hS2⟩ := hG'.freeze
  exact Ev.ret ⟨B2, ⟨hm'.mo.trans hm2.mo⟩, hsc, hS2⟩
end
end Go.AM.G
set_option linter.unusedVariables false
set_option linter.unusedSimpArgs false
set_option maxRecDepth 100000
namespace Go.AM.G
open Go Go.AM Go.Proofs
attribute [local irreducible] run bin un ld st box newV mkS fldA fld ixA ix slc slc3 build buildS cv cvS ap cpy lenV gOp pickV b2 aIf aChk evalK resume iterD Option.bind

section
theorem barrier_cache (D : Dsk) : D.barrier.2.cache.length ≤ D.cache.length := by
  unfold Dsk.barrier
  split
  · exact Nat.le_refl _
  · unfold Dsk.act
    split
    · exact Nat.le_refl _
    · exact Nat.zero_le _
variable {B B0 H0 H : AH} {L : List (Nat × Blk)}
theorem st_err {x y z p m n : Nat × Blk} {Ld Lf : List (Nat × Blk)} (h : St H0 B0 B (x :: y :: z :: p :: m :: n :: (Ld ++ (Lf ++ L))) H) : St H0 B0 B (p :: m :: (Lf ++ Ld ++ L)) H := by
  have h1 := h.drop1.drop1.drop1
  have h2 : St H0 B0 B (p :: m :: (Ld ++ (Lf ++ L))) H := h1.drop (.cons_cons _ (.cons_cons _ (.cons _ (List.Sublist.refl _))))
  refine h2.perm ?_
  refine ((List.Perm.cons _ (List.Perm.cons _ ?_)))
  rw [List.append_assoc]
  exact permA Ld Lf L
theorem st_fin {x y z p m n : Nat × Blk} {Ld Lf : List (Nat × Blk)} (h : St H0 B0 B (x :: y :: z :: p :: m :: n :: (Ld ++ (Lf ++ L))) H) : St H0 B0 B (p :: n :: ([] ++ Ld ++ L)) H := by
  have h1 := h.drop1.drop1.drop1
  exact h1.drop (.cons_cons _ (.cons _ (.cons_cons _ (List.Sublist.append_left (List.sublist_append_right _ _) _))))
theorem st_six {x y z p m n : Nat × Blk} {Ld Lr : List (Nat × Blk)} (h : St H0 B0 B (Ld ++ (x :: y :: z :: p :: m :: n :: Lr)) H) : St H0 B0 B (x :: y :: z :: p :: m :: n :: (Ld ++ Lr)) H := h.perm (permA Ld [x, y, z, p, m, n] Lr)
theorem st_six' {x y z p m n : Nat × Blk} {Ld Lr : List (Nat × Blk)} (h : St H0 B0 B (x :: y :: z :: p :: m :: n :: (Ld ++ Lr)) H) : St H0 B0 B (Ld ++ (x :: y :: z :: p :: m :: n :: Lr)) H := h.perm (permA [x, y, z, p, m, n] Ld Lr)
instance : Elt Tryd.prog 81 63 .nilFunc 8 := ⟨by kernel_rfl, by kernel_rfl, by kernel_rfl, by kernel_rfl, by kernel_rfl, by kernel_rfl, by kernel_rfl, by kernel_rfl, by kernel_rfl⟩
theorem lay1_spec {b1 b2 pb mb d t r : Nat} {tv rv mv fv dn : Value} {U : List Int} {D : Dsk} {Ld : List (Nat × Blk)} (hD : DK (ptr d 0) D Ld) (hO : D.OK) (hc : D.cache.length + 1 < 1000000000000) (ht : t < 281474976710656) (hr : r < 65536) (hU : ∀ n ∈ U, 0 ≤ n ∧ n < 512)
    (i1 : (b1, ⟨[ptr pb 0], 27, .fix⟩) ∈ L) (i2 : (b2, ⟨[i64 t, i64 r, .map (some mb)], 59, .fix⟩) ∈ L) (i3 : (pb, ⟨[tv, rv, mv, ptr d 0, fv, dn], 61, .fix⟩) ∈ L) (i4 : (mb, ⟨entI U, 57, .map⟩) ∈ L) (hS : St H0 B0 B (Ld ++ L) H) :
    Ev (fun k _ => rn k 46 [ptr b2 0, ptr b1 0] H) (DkP H0 B0 B L (ptr d 0) (.int .i64 (hwrite D t (r : Int) U).1) (hwrite D t (r : Int) U).2) := by
  refine Ev.fn (fun k => f46_eq k _ _ H) ?_
  have j1 : InL b1 _ (Ld ++ L) := ⟨List.mem_append_right _ i1⟩
  have j2 : InL b2 _ (Ld ++ L) := ⟨List.mem_append_right _ i2⟩
  have j3 : InL pb _ (Ld ++ L) := ⟨List.mem_append_right _ i3⟩
  repeat (first | refine Ev.s ?_ | refine Ev.newC fun _ _ _ => ?_ | refine Ev.boxC fun _ _ _ => ?_ | refine Ev.stC fun _ _ => ?_ | refine Ev.sc (by omega) ?_ | refine Ev.scg (by omega) ?_)
  rw [show (fun k n : Nat => AM.b2 (rn k 27 [.agg (List.toArray [i64 t, i64 r, .map (some mb)]), ptr d 0] H) fun v6 h6 => some (v6, h6)) = fun k n => rn k 27 [.agg #[i64 t, i64 r, .map (some mb)], ptr d 0] H from funext fun k => funext fun _ => b2_id _]
  exact hwrite_spec hD hO hc ht hr hU i4 hS
theorem lay_specP {p dv t0 : Value} {G : Pgr} {D : Dsk} {Ls : List (Nat × Blk)} {r mb2 : Nat} {U : List Int} (hP : PK p dv G D Ls) (hO : D.OK) (hc : D.cache.length + 4 < 1000000000000) (ht : G.turn + 1 < 281474976710656) (hr : r < 65536) (hU : ∀ n ∈ U, 0 ≤ n ∧ n < 512) [IsCell t0]
    (hS : St H0 B0 B (Ls ++ ((mb2, ⟨entI U, 57, .map⟩) :: L)) H) :
    Ev (fun k _ => rn k 33 [p, .agg #[t0, i64 r, .map (some mb2)]] H) (PgP H0 B0 B L p dv (.int .i64 (G.lay D (r : Int) U).1) (G.lay D (r : Int) U).2.1 (G.lay D (r : Int) U).2.2) := by
  obtain ⟨pb, mb, fv, Lf, Ld, rfl, hD, hF, rfl⟩ := hP
  obtain ⟨d, rfl⟩ := hD.ptr
  have hcell := hF.cell
  obtain ⟨turn, root, U0, F, dn⟩ := G
  dsimp only at hF hS ht
  refine Ev.fn (fun k => f33_eq k _ _ H) ?_
  have hSa : St H0 B0 B ((pb, ⟨[i64 turn, .int .i64 root, .map (some mb), ptr d 0, fv, .bool dn], 61, .fix⟩) :: (mb, ⟨entI U0, 57, .map⟩) :: (mb2, ⟨entI U, 57, .map⟩) :: (Ld ++ (Lf ++ L))) H := by
    refine hS.perm ?_
    simp only [List.cons_append]
    refine List.Perm.cons _ (List.Perm.cons _ ?_)
    refine List.Perm.trans ?_ (List.perm_middle).symm
    refine List.Perm.cons _ ?_
    rw [List.append_assoc]
    exact permA Lf Ld L
  clear hS
  repeat (first | refine Ev.s ?_ | refine Ev.newC fun _ _ _ => ?_ | refine Ev.boxC fun _ _ _ => ?_ | refine Ev.stC fun _ _ => ?_ | refine Ev.sc (by omega) ?_ | refine Ev.scg (by omega) ?_)
  rename_i b1 H1 hS1 b2 H2 hS2 H3 hS3
  clear hSa hS1 hS2
  refine Ev.bsC (by decide) fun b3 H4 hS4 => ?_
  clear hS3
  repeat (first | refine Ev.s ?_ | refine Ev.newC fun _ _ _ => ?_ | refine Ev.boxC fun _ _ _ => ?_ | refine Ev.stC fun _ _ => ?_ | refine Ev.sc (by omega) ?_ | refine Ev.scg (by omega) ?_)
  have hO1 := hO.barrier
  have hc1 : D.barrier.2.cache.length ≤ D.cache.length := barrier_cache D
  have hO2 := pwrite_ok hO1 (((turn + 1) % 2 : Nat) : Int) 1 (textH (turn + 1) (r : Int) U)
  have hc2 := pwrite_cache D.barrier.2 (((turn + 1) % 2 : Nat) : Int) 1 (textH (turn + 1) (r : Int) U)
  change (hwrite D.barrier.2 (turn + 1) (r : Int) U).2.OK at hO2
  change (hwrite D.barrier.2 (turn + 1) (r : Int) U).2.cache.length ≤ _ at hc2
  have hO3 := hO2.barrier
  have key : Ev (fun k K => f33_L0 k (ptr b1 0) (ptr b2 0) (sl b3 0 3 3) (i64 3) (i64 0) K H4) (fun o => ∃ B' H' Ld' D' dn', MoC B B' ∧ DK (ptr d 0) D' Ld' ∧
      St H0 B0 B' ((b3, ⟨[.func (.func 28) #[ptr d 0] #[], .func (.func 46) #[] #[ptr b2 0, ptr b1 0], .func (.func 28) #[ptr d 0] #[]], 63, .fix⟩) :: (b2, ⟨[i64 (turn + 1), i64 r, .map (some mb2)], 59, .fix⟩) :: (b1, ⟨[ptr pb 0], 27, .fix⟩) ::
        (pb, ⟨[i64 turn, .int .i64 root, .map (some mb), ptr d 0, fv, .bool dn'], 61, .fix⟩) :: (mb, ⟨entI U0, 57, .map⟩) :: (mb2, ⟨entI U, 57, .map⟩) :: (Ld' ++ (Lf ++ L))) H' ∧
      ((∃ e, o = (.ret, f33_X_L0 (ptr b1 0) (ptr b2 0) (.int .i64 e), H') ∧ Pgr.lay ⟨turn, root, U0, F, dn⟩ D (r : Int) U = (e, ⟨turn, root, U0, F, dn'⟩, D')) ∨
        (o = (.exit 0, f33_X_L0 (ptr b1 0) (ptr b2 0) unk, H') ∧ dn' = dn ∧ Pgr.lay ⟨turn, root, U0, F, dn⟩ D (r : Int) U = (0, ⟨turn + 1, (r : Int), U, [], dn⟩, D')))) := by
    have hdn : (dn || decide ((0 : Int) = 7)) = dn := by cases dn <;> rfl
    refine Ev.succ (fun k K => f33_L0_succ k _ _ _ _ _ K _) ?_
    repeat (first | (first | refine Ev.s ?_ | refine Ev.newC fun _ _ _ => ?_ | refine Ev.boxC fun _ _ _ => ?_ | refine Ev.stC fun _ _ => ?_ | refine Ev.sc (by omega) ?_ | refine Ev.scg (by omega) ?_) | rw [decide_eq_true (by omega)] | rw [decide_eq_false (by omega)])
    refine Ev.prim (show ixA Tryd.prog 81 (sl b3 0 3 3) (i64 0) = some (ptr b3 0) from ixA_own (i := 0) inferInstance (by decide)) ?_
    repeat (first | refine Ev.s ?_ | refine Ev.newC fun _ _ _ => ?_ | refine Ev.boxC fun _ _ _ => ?_ | refine Ev.stC fun _ _ => ?_ | refine Ev.sc (by omega) ?_ | refine Ev.scg (by omega) ?_)
    simp only [callV_fn (show 28 < yOff by unfold yOff; omega)]
    refine Ev.b2 (Barrier_spec hD hO (by omega) (st_six' hS4)) ?_
    unfold Pgr.lay
    dsimp only
    generalize D.barrier = w at hO1 hc1 hO2 hc2 hO3 ⊢
    obtain ⟨w1, w2⟩ := w
    dsimp only at hO1 hc1 hO2 hc2 hO3 ⊢
    rintro _ H5 ⟨rfl, Ld5, B5, hm5, hD5, hS5⟩
    dsimp only at hS5
    replace hS5 := st_six hS5
    clear hS4
    repeat (first | refine Ev.s ?_ | refine Ev.newC fun _ _ _ => ?_ | refine Ev.boxC fun _ _ _ => ?_ | refine Ev.stC fun _ _ => ?_ | refine Ev.sc (by omega) ?_ | refine Ev.scg (by omega) ?_)
    refine Ev.b2 (told_spec (.tail _ (.tail _ (.tail _ (.head _)))) (.tail _ (.tail _ (.tail _ (.head _)))) hS5) ?_
    rintro _ H6 ⟨rfl, hS6⟩
    dsimp only at hS6
    clear hS5
    by_cases h1 : w1 = 0
    case neg =>
      rw [if_pos h1]
      repeat (first | refine Ev.s ?_ | refine Ev.newC fun _ _ _ => ?_ | refine Ev.boxC fun _ _ _ => ?_ | refine Ev.stC fun _ _ => ?_ | refine Ev.sc (by omega) ?_ | refine Ev.scg (by omega) ?_)
      rw [decide_eq_true h1]
      repeat (first | refine Ev.s ?_ | refine Ev.newC fun _ _ _ => ?_ | refine Ev.boxC fun _ _ _ => ?_ | refine Ev.stC fun _ _ => ?_ | refine Ev.sc (by omega) ?_ | refine Ev.scg (by omega) ?_)
      exact Ev.ret ⟨B5, H6, Ld5, w2, _, hm5, hD5, hS6, .inl ⟨w1, rfl, rfl⟩⟩
    subst h1
    rw [if_neg (by simp)]
    rw [hdn] at hS6
    repeat (first | (first | refine Ev.s ?_ | refine Ev.newC fun _ _ _ => ?_ | refine Ev.boxC fun _ _ _ => ?_ | refine Ev.stC fun _ _ => ?_ | refine Ev.sc (by omega) ?_ | refine Ev.scg (by omega) ?_) | rw [decide_eq_true (by omega)] | rw [decide_eq_false (by omega)])
    refine Ev.succ (fun k K => f33_L0_succ k _ _ _ _ _ K _) ?_
    repeat (first | (first | refine Ev.s ?_ | refine Ev.newC fun _ _ _ => ?_ | refine Ev.boxC fun _ _ _ => ?_ | refine Ev.stC fun _ _ => ?_ | refine Ev.sc (by omega) ?_ | refine Ev.scg (by omega) ?_) | rw [decide_eq_true (by omega)] | rw [decide_eq_false (by omega)])
    refine Ev.prim (show ixA Tryd.prog 81 (sl b3 0 3 3) (i64 1) = some (ptr b3 1) from ixA_own (i := 1) inferInstance (by decide)) ?_
    repeat (first | refine Ev.s ?_ | refine Ev.newC fun _ _ _ => ?_ | refine Ev.boxC fun _ _ _ => ?_ | refine Ev.stC fun _ _ => ?_ | refine Ev.sc (by omega) ?_ | refine Ev.scg (by omega) ?_)
    simp only [callV_fn (show 46 < yOff by unfold yOff; omega)]
    refine Ev.b2 (lay1_spec (t := turn + 1) (r := r) (U := U) hD5 hO1 (by omega) ht hr hU (.tail _ (.tail _ (.head _))) (.tail _ (.head _)) (.tail _ (.tail _ (.tail _ (.head _)))) (.tail _ (.tail _ (.tail _ (.tail _ (.tail _ (.head _)))))) (st_six' hS6)) ?_
    generalize hwrite w2 (turn + 1) (r : Int) U = x at hO2 hc2 hO3 ⊢
    obtain ⟨x1, x2⟩ := x
    dsimp only at hO2 hc2 hO3 ⊢
    rintro _ H7 ⟨rfl, Ld7, B7, hm7, hD7, hS7⟩
    dsimp only at hS7
    replace hS7 := st_six hS7
    clear hS6
    repeat (first | refine Ev.s ?_ | refine Ev.newC fun _ _ _ => ?_ | refine Ev.boxC fun _ _ _ => ?_ | refine Ev.stC fun _ _ => ?_ | refine Ev.sc (by omega) ?_ | refine Ev.scg (by omega) ?_)
    refine Ev.b2 (told_spec (.tail _ (.tail _ (.tail _ (.head _)))) (.tail _ (.tail _ (.tail _ (.head _)))) hS7) ?_
    rintro _ H8 ⟨rfl, hS8⟩
    dsimp only at hS8
    clear hS7
    by_cases h2 : x1 = 0
    case neg =>
      rw [if_pos h2]
      repeat (first | refine Ev.s ?_ | refine Ev.newC fun _ _ _ => ?_ | refine Ev.boxC fun _ _ _ => ?_ | refine Ev.stC fun _ _ => ?_ | refine Ev.sc (by omega) ?_ | refine Ev.scg (by omega) ?_)
      rw [decide_eq_true h2]
      repeat (first | refine Ev.s ?_ | refine Ev.newC fun _ _ _ => ?_ | refine Ev.boxC fun _ _ _ => ?_ | refine Ev.stC fun _ _ => ?_ | refine Ev.sc (by omega) ?_ | refine Ev.scg (by omega) ?_)
      exact Ev.ret ⟨B7, H8, Ld7, x2, _, ⟨hm5.mo.trans hm7.mo⟩, hD7, hS8, .inl ⟨x1, rfl, rfl⟩⟩
    subst h2
    rw [if_neg (by simp)]
    rw [hdn] at hS8
    repeat (first | (first | refine Ev.s ?_ | refine Ev.newC fun _ _ _ => ?_ | refine Ev.boxC fun _ _ _ => ?_ | refine Ev.stC fun _ _ => ?_ | refine Ev.sc (by omega) ?_ | refine Ev.scg (by omega) ?_) | rw [decide_eq_true (by omega)] | rw [decide_eq_false (by omega)])
    refine Ev.succ (fun k K => f33_L0_succ k _ _ _ _ _ K _) ?_
    repeat (first | (first | refine Ev.s ?_ | refine Ev.newC fun _ _ _ => ?_ | refine Ev.boxC fun _ _ _ => ?_ | refine Ev.stC fun _ _ => ?_ | refine Ev.sc (by omega) ?_ | refine Ev.scg (by omega) ?_) | rw [decide_eq_true (by omega)] | rw [decide_eq_false (by omega)])
    refine Ev.prim (show ixA Tryd.prog 81 (sl b3 0 3 3) (i64 2) = some (ptr b3 2) from ixA_own (i := 2) inferInstance (by decide)) ?_
    repeat (first | refine Ev.s ?_ | refine Ev.newC fun _ _ _ => ?_ | refine Ev.boxC fun _ _ _ => ?_ | refine Ev.stC fun _ _ => ?_ | refine Ev.sc (by omega) ?_ | refine Ev.scg (by omega) ?_)
    simp only [callV_fn (show 28 < yOff by unfold yOff; omega)]
    refine Ev.b2 (Barrier_spec hD7 hO2 (by omega) (st_six' hS8)) ?_
    generalize x2.barrier = y at hO3 ⊢
    obtain ⟨y1, y2⟩ := y
    dsimp only at hO3 ⊢
    rintro _ H9 ⟨rfl, Ld9, B9, hm9, hD9, hS9⟩
    dsimp only at hS9
    replace hS9 := st_six hS9
    clear hS8
    repeat (first | refine Ev.s ?_ | refine Ev.newC fun _ _ _ => ?_ | refine Ev.boxC fun _ _ _ => ?_ | refine Ev.stC fun _ _ => ?_ | refine Ev.sc (by omega) ?_ | refine Ev.scg (by omega) ?_)
    refine Ev.b2 (told_spec (.tail _ (.tail _ (.tail _ (.head _)))) (.tail _ (.tail _ (.tail _ (.head _)))) hS9) ?_
    rintro _ H10 ⟨rfl, hS10⟩
    dsimp only at hS10
    clear hS9
    by_cases h3 : y1 = 0
    case neg =>
      rw [if_pos h3]
      repeat (first | refine Ev.s ?_ | refine Ev.newC fun _ _ _ => ?_ | refine Ev.boxC fun _ _ _ => ?_ | refine Ev.stC fun _ _ => ?_ | refine Ev.sc (by omega) ?_ | refine Ev.scg (by omega) ?_)
      rw [decide_eq_true h3]
      repeat (first | refine Ev.s ?_ | refine Ev.newC fun _ _ _ => ?_ | refine Ev.boxC fun _ _ _ => ?_ | refine Ev.stC fun _ _ => ?_ | refine Ev.sc (by omega) ?_ | refine Ev.scg (by omega) ?_)
      exact Ev.ret ⟨B9, H10, Ld9, y2, _, ⟨hm5.mo.trans (hm7.mo.trans hm9.mo)⟩, hD9, hS10, .inl ⟨y1, rfl, rfl⟩⟩
    subst h3
    rw [if_neg (by simp)]
    rw [hdn] at hS10
    repeat (first | (first | refine Ev.s ?_ | refine Ev.newC fun _ _ _ => ?_ | refine Ev.boxC fun _ _ _ => ?_ | refine Ev.stC fun _ _ => ?_ | refine Ev.sc (by omega) ?_ | refine Ev.scg (by omega) ?_) | rw [decide_eq_true (by omega)] | rw [decide_eq_false (by omega)])
    refine Ev.succ (fun k K => f33_L0_succ k _ _ _ _ _ K _) ?_
    repeat (first | (first | refine Ev.s ?_ | refine Ev.newC fun _ _ _ => ?_ | refine Ev.boxC fun _ _ _ => ?_ | refine Ev.stC fun _ _ => ?_ | refine Ev.sc (by omega) ?_ | refine Ev.scg (by omega) ?_) | rw [decide_eq_true (by omega)] | rw [decide_eq_false (by omega)])
    exact Ev.ret ⟨B9, H10, Ld9, y2, dn, ⟨hm5.mo.trans (hm7.mo.trans hm9.mo)⟩, hD9, hS10, .inr ⟨rfl, rfl, rfl⟩⟩
  refine Ev.bind (Ev.loop key) ?_
  clear hS4
  rintro _ ⟨B', H', Ld', D', dn', hm', hD', hS', ⟨e, rfl, hl⟩ | ⟨rfl, rfl, hl⟩⟩
  · refine Ev.eq (fun k _ => f33_A0_ret k _ _ _ H') ?_
    rw [hl]
    exact Ev.ret ⟨rfl, _, B', hm', ⟨pb, mb, fv, Lf, Ld', rfl, hD', hF, rfl⟩, st_err hS'⟩
  · refine Ev.eq (fun k _ => f33_A0_x0 k _ _ _ H') ?_
    rw [hl]
    repeat (first | refine Ev.s ?_ | refine Ev.newC fun _ _ _ => ?_ | refine Ev.boxC fun _ _ _ => ?_ | refine Ev.stC fun _ _ => ?_ | refine Ev.sc (by omega) ?_ | refine Ev.scg (by omega) ?_)
    rename_i hS12
    exact Ev.ret ⟨rfl, _, B', hm', ⟨pb, mb2, _, [], Ld', rfl, hD', FRS.nil, rfl⟩, st_fin hS12⟩
end
end Go.AM.G
set_option linter.unusedVariables false
set_option linter.unusedSimpArgs false
set_option maxRecDepth 100000
namespace Go.AM.G
open Go Go.AM Go.Proofs
attribute [local irreducible] run bin un ld st box newV mkS fldA fld ixA ix slc slc3 build buildS cv cvS ap cpy lenV gOp pickV b2 aIf aChk evalK resume iterD Option.bind

section
variable {B B0 H0 H : AH} {L : List (Nat × Blk)}
theorem Commit_loop {hb mb2 : Nat} {t0 rv s0 : Value} {fv : Value} {U F : List Int} {Lf Lr : List (Nat × Blk)} {s1 : Value} (hF : FR fv F Lf) (hsub : ∀ x ∈ Lf, x ∈ Lr) (hl : F.length < 100000) [IsCell t0] [IsCell rv] : ∀ (q i : Nat) (H : AH), i + q = F.length →
    St H0 B0 B ((hb, ⟨[t0, rv, .map (some mb2)], 59, .fix⟩) :: (mb2, ⟨entI (addAll U (F.take i)), 57, .map⟩) :: Lr) H →
    Ev (fun k K => f12_L0 k s0 s1 (ptr hb 0) fv (i64 F.length) (i64 i) K H) (fun o => ∃ H', o = (.exit 2, f12_X_L0 s0 s1 (ptr hb 0), H') ∧
      St H0 B0 B ((hb, ⟨[t0, rv, .map (some mb2)], 59, .fix⟩) :: (mb2, ⟨entI (addAll U F), 57, .map⟩) :: Lr) H') := by
  intro q
  induction q with
  | zero =>
    intro i H hi hS
    refine Ev.succ (fun k K => f12_L0_succ k _ _ _ _ _ _ K H) ?_
    repeat (first | refine Ev.s ?_ | refine Ev.newC fun _ _ _ => ?_ | refine Ev.boxC fun _ _ _ => ?_ | refine Ev.stC fun _ _ => ?_ | refine Ev.sc (by omega) ?_ | refine Ev.scg (by omega) ?_)
    rw [decide_eq_false (by omega)]
    repeat (first | refine Ev.s ?_ | refine Ev.newC fun _ _ _ => ?_ | refine Ev.boxC fun _ _ _ => ?_ | refine Ev.stC fun _ _ => ?_ | refine Ev.sc (by omega) ?_ | refine Ev.scg (by omega) ?_)
    rw [List.take_of_length_le (by omega)] at hS
    exact Ev.ret ⟨H, rfl, hS⟩
  | succ q ih =>
    intro i H hi hS
    refine Ev.succ (fun k K => f12_L0_succ k _ _ _ _ _ _ K H) ?_
    repeat (first | refine Ev.s ?_ | refine Ev.newC fun _ _ _ => ?_ | refine Ev.boxC fun _ _ _ => ?_ | refine Ev.stC fun _ _ => ?_ | refine Ev.sc (by omega) ?_ | refine Ev.scg (by omega) ?_)
    rw [decide_eq_true (by omega)]
    repeat (first | refine Ev.s ?_ | refine Ev.newC fun _ _ _ => ?_ | refine Ev.boxC fun _ _ _ => ?_ | refine Ev.stC fun _ _ => ?_ | refine Ev.sc (by omega) ?_ | refine Ev.scg (by omega) ?_)
    have hN := hF.now hS fun x hx => .tail _ (.tail _ (hsub x hx))
    have hx : (intV F)[i]? = some (.int .i64 F[i]) := by unfold intV; rw [List.getElem?_map, List.getElem?_eq_getElem (by omega)]; rfl
    refine Ev.ixN (t := 33) hN i rfl (by omega) hx fun p hp => ?_
    refine Ev.prim (hp.eq H (Mo.refl H)) ?_
    repeat (first | refine Ev.s ?_ | refine Ev.newC fun _ _ _ => ?_ | refine Ev.boxC fun _ _ _ => ?_ | refine Ev.stC fun _ _ => ?_ | refine Ev.sc (by omega) ?_ | refine Ev.scg (by omega) ?_)
    refine Ev.mpTrueI (kt := 3) (et := 4) (Und.eq (P := Tryd.prog) (t := 57)) (Und.eq (P := Tryd.prog) (t := 3)) hS (.tail _ (.head _)) (.tail _ (.head _)) fun H' hS' => ?_
    repeat (first | (first | refine Ev.s ?_ | refine Ev.newC fun _ _ _ => ?_ | refine Ev.boxC fun _ _ _ => ?_ | refine Ev.stC fun _ _ => ?_ | refine Ev.sc (by omega) ?_ | refine Ev.scg (by omega) ?_) | rw [decide_eq_true (by omega)] | rw [decide_eq_false (by omega)])
    refine ih (i + 1) H' (by omega) ?_
    have e : addAll U (F.take (i + 1)) = insI (addAll U (F.take i)) F[i] := by
      unfold addAll
      rw [List.take_add_one, List.getElem?_eq_getElem (by omega), List.foldl_append]
      rfl
    rw [e]
    exact hS'
theorem Commit_spec {p dv : Value} {G : Pgr} {D : Dsk} {Ls : List (Nat × Blk)} {root : Int} {m : Nat} (hP : PK p dv G D Ls) (hO : D.OK) (hG : G.OK m) (hc : D.cache.length + 4 < 1000000000000) (hS : St H0 B0 B (Ls ++ L) H) :
    Ev (fun k _ => rn k 12 [p, .int .i64 root] H) (PgP H0 B0 B L p dv (.int .i64 (G.commit D root).1) (G.commit D root).2.1 (G.commit D root).2.2) := by
  have hP0 := hP
  obtain ⟨pb, mb, fv, Lf, Ld, rfl, hD, hF, rfl⟩ := hP
  obtain ⟨d, rfl⟩ := hD.ptr
  have hcell := hF.cell
  obtain ⟨turn, root0, U, F, dn⟩ := G
  have hfl := hG.fl
  have hmm := hG.mm
  have hus := hG.us
  have hfr := hG.fr
  have htu := hG.tu
  have hnd := hG.nd
  dsimp only at hF hP0 hS hfl hus hfr htu hnd
  simp only [List.cons_append] at hS
  refine Ev.fn (fun k => f12_eq k _ _ H) ?_
  unfold Pgr.commit
  dsimp only
  cases dn with
  | true =>
    rw [if_pos rfl]
    repeat (first | refine Ev.s ?_ | refine Ev.newC fun _ _ _ => ?_ | refine Ev.boxC fun _ _ _ => ?_ | refine Ev.stC fun _ _ => ?_ | refine Ev.sc (by omega) ?_ | refine Ev.scg (by omega) ?_)
    exact Ev.ret ⟨rfl, _, B, ⟨Mo.refl B⟩, hP0, hS⟩
  | false =>
    rw [if_neg (by decide)]
    repeat (first | refine Ev.s ?_ | refine Ev.newC fun _ _ _ => ?_ | refine Ev.boxC fun _ _ _ => ?_ | refine Ev.stC fun _ _ => ?_ | refine Ev.sc (by omega) ?_ | refine Ev.scg (by omega) ?_)
    refine Ev.mkMap (P := Tryd.prog) hS fun mb2 H1 hS1 => ?_
    repeat (first | refine Ev.s ?_ | refine Ev.newC fun _ _ _ => ?_ | refine Ev.boxC fun _ _ _ => ?_ | refine Ev.stC fun _ _ => ?_ | refine Ev.sc (by omega) ?_ | refine Ev.scg (by omega) ?_)
    rename_i hb H2 hS2 H3 hS3
    clear hS hS1 hS2
    have hne : mb ≠ mb2 := by
      rintro rfl
      have := hS3.nd
      simp at this
    refine AM.Ev.gCommit hS3 (.tail _ (.tail _ (.head _))) (.tail _ (.tail _ (.tail _ (.head _)))) (.head _) (.tail _ (.head _)) hne hnd (.tail _ (.head _)) fun H4 hS4 => ?_
    clear hS3
    repeat (first | refine Ev.s ?_ | refine Ev.newC fun _ _ _ => ?_ | refine Ev.boxC fun _ _ _ => ?_ | refine Ev.stC fun _ _ => ?_ | refine Ev.sc (by omega) ?_ | refine Ev.scg (by omega) ?_)
    refine Ev.prim (hF.len (Und.eq (P := Tryd.prog) (t := 33))) ?_
    refine Ev.bind (Ev.loop (Commit_loop (U := U) hF (fun x hx => .tail _ (.tail _ (List.mem_append_left _ (List.mem_append_left _ hx)))) (by omega) F.length 0 H4 (by omega) hS4)) ?_
    clear hS4
    rintro _ ⟨H5, rfl, hS5⟩
    refine Ev.eq (fun k _ => f12_A0_x2 k _ _ _ H5) ?_
    repeat (first | refine Ev.s ?_ | refine Ev.newC fun _ _ _ => ?_ | refine Ev.boxC fun _ _ _ => ?_ | refine Ev.stC fun _ _ => ?_ | refine Ev.sc (by omega) ?_ | refine Ev.scg (by omega) ?_)
    refine Ev.b2 (may_spec (U := addAll U F) ⟨.tail _ (.head _)⟩ hS5) ?_
    rintro _ H6 ⟨rfl, b6, c6, hS6⟩
    dsimp only at hS6
    clear hS5
    have hall : ∀ n ∈ addAll U F, 0 ≤ n ∧ n < 512 := fun n hn => by
      rcases (addAll_mem F U n).1 hn with h | h
      · have := hus n h; omega
      · have := hfr n h; omega
    cases hmay : mayR (addAll U F) root with
    | false =>
      rw [if_pos rfl]
      repeat (first | refine Ev.s ?_ | refine Ev.newC fun _ _ _ => ?_ | refine Ev.boxC fun _ _ _ => ?_ | refine Ev.stC fun _ _ => ?_ | refine Ev.sc (by omega) ?_ | refine Ev.scg (by omega) ?_)
      exact Ev.ret ⟨rfl, _, B, ⟨Mo.refl B⟩, hP0, hS6.drop1.drop1.drop1⟩
    | true =>
      rw [if_neg (by decide)]
      repeat (first | refine Ev.s ?_ | refine Ev.newC fun _ _ _ => ?_ | refine Ev.boxC fun _ _ _ => ?_ | refine Ev.stC fun _ _ => ?_ | refine Ev.sc (by omega) ?_ | refine Ev.scg (by omega) ?_)
      obtain ⟨r, rfl, hr⟩ : ∃ r : Nat, root = r ∧ r < 512 := by
        unfold mayR at hmay
        by_cases h0 : root = 0
        · exact ⟨0, h0, by decide⟩
        · have h1 : root ∈ addAll U F := by simp [h0] at hmay; exact hmay.2
          have := hall root h1
          exact ⟨root.toNat, by omega, by omega⟩
      have hS7 : St H0 B0 B (((pb, ⟨[i64 turn, .int .i64 root0, .map (some mb), ptr d 0, fv, .bool false], 61, .fix⟩) :: (mb, ⟨entI U, 57, .map⟩) :: (Lf ++ Ld)) ++ ((mb2, ⟨entI (addAll U F), 57, .map⟩) :: L)) H6 := hS6.drop1.drop1.perm (List.perm_middle)
      rw [show (fun k n : Nat => AM.b2 (rn k 33 [ptr pb 0, .agg (List.toArray [.int .i64 0, i64 r, .map (some mb2)])] H6) fun v24 h24 => some (v24, h24)) = fun k n => rn k 33 [ptr pb 0, .agg #[.int .i64 0, i64 r, .map (some mb2)]] H6 from funext fun k => funext fun _ => b2_id _]
      exact lay_specP (G := ⟨turn, root0, U, F, false⟩) (r := r) hP0 hO hc (by dsimp only; omega) (by omega) hall hS7
end
end Go.AM.G
set_option linter.unusedVariables false
set_option linter.unusedSimpArgs false
namespace Go.AM
section
variable {P : Program} {t : TypeId}
theorem and_bit (a k : Nat) : a &&& 2 ^ k = (a.testBit k).toNat * 2 ^ k := by
  apply Nat.eq_of_testBit_eq
  intro j
  rw [Nat.testBit_and, Nat.testBit_two_pow]
  by_cases hj : k = j
  · subst hj
    cases h : a.testBit k
    · simp
    · simp [Nat.testBit_two_pow]
  · cases h : a.testBit k
    · simp [hj]
    · simp [hj, Nat.testBit_two_pow]
theorem shl8 {a : Nat} {k' : IntKind} (h : a < 36028797018963968) : bin P .shl t (i64 a) (.int k' 8) = some (i64 (a * 256)) := by
  rw [bin_shl (by omega), show min (8 : Int).toNat IntKind.i64.bits = 8 from rfl, show (2 : Int) ^ 8 = 256 from rfl]
  congr 2
  rw [wrap64 (by omega)]
  omega
theorem or8 {a b : Nat} (ha : a < 36028797018963968) (hb : b < 256) : bin P .or t (i64 (a * 256)) (i64 b) = some (i64 (a * 256 + b)) := by
  rw [bin_or]
  congr 2
  rw [BitVec.toNat_or]
  have e1 : (BitVec.ofInt IntKind.i64.bits ((a * 256 : Nat) : Int)).toNat = a * 256 := by
    show (BitVec.ofInt 64 _).toNat = _
    rw [BitVec.toNat_ofInt]; omega
  have e2 : (BitVec.ofInt IntKind.i64.bits (b : Int)).toNat = b := by
    show (BitVec.ofInt 64 _).toNat = _
    rw [BitVec.toNat_ofInt]; omega
  rw [e1, e2]
  have e3 : a * 256 ||| b = a * 256 + b := by
    have := Nat.two_pow_add_eq_or_of_lt (i := 8) (b := b) (by omega) a
    rw [show 2 ^ 8 * a = a * 256 by omega] at this
    exact this.symm
  rw [e3, wrap64 (by omega)]
theorem shl1 {k : Nat} (h : k < 8) : bin P .shl t (.int .u8 1) (i64 k) = some (u8 (2 ^ k)) := by
  have hq8 : k = 0 ∨ k = 1 ∨ k = 2 ∨ k = 3 ∨ k = 4 ∨ k = 5 ∨ k = 6 ∨ k = 7 := by omega
  rcases hq8 with h | h | h | h | h | h | h | h <;> (rw [h]; rfl)
theorem and8 {a k : Nat} (ha : a < 256) (h : k < 8) : bin P .and t (u8 a) (u8 (2 ^ k)) = some (u8 ((a.testBit k).toNat * 2 ^ k)) := by
  have h2 : 2 ^ k < 2 ^ 8 := Nat.pow_lt_pow_right (by decide) h
  have h3 : 2 ^ k < 256 := h2
  rw [bin_and]
  congr 2
  rw [BitVec.toNat_and]
  have e1 : (BitVec.ofInt IntKind.u8.bits (a : Int)).toNat = a := by
    show (BitVec.ofInt 8 _).toNat = _
    rw [BitVec.toNat_ofInt]; omega
  have e2 : (BitVec.ofInt IntKind.u8.bits ((2 ^ k : Nat) : Int)).toNat = 2 ^ k := by
    show (BitVec.ofInt 8 _).toNat = _
    rw [BitVec.toNat_ofInt]
    generalize 2 ^ k = z at h3 ⊢
    omega
  rw [e1, e2, and_bit, wrapu8]
  cases a.testBit k
  · simp
  · simp only [Bool.toNat_true, Nat.one_mul]
    omega
end
def beT (s : List UInt8) (i : Nat) : Nat := (s.take i).foldl (fun t (b : UInt8) => t * 256 + b.toNat) 0
theorem beT_succ {s : List UInt8} {i : Nat} (h : i < s.length) : beT s (i + 1) = beT s i * 256 + (s.getD i 0).toNat := by
  unfold beT
  rw [List.take_add_one, List.getElem?_eq_getElem h, List.foldl_append]
  simp [List.getD, List.getElem?_eq_getElem h]
theorem beT_lt (s : List UInt8) : ∀ i, i ≤ s.length → beT s i < 256 ^ i
  | 0, _ => by simp [beT]
  | i + 1, h => by
    have ih := beT_lt s i (by omega)
    rw [beT_succ (by omega), Nat.pow_succ]
    have := (s.getD i 0).toNat_lt
    omega
def bitsOf (s : List UInt8) (i : Nat) : List Int := ((List.range i).filter fun j => (s.getD (8 + j / 8) 0).toNat.testBit (j % 8)).map fun (j : Nat) => (j : Int)
theorem bitsOf_succ (s : List UInt8) (i : Nat) : bitsOf s (i + 1) = bitsOf s i ++ (if (s.getD (8 + i / 8) 0).toNat.testBit (i % 8) = true then [(i : Int)] else []) := by
  unfold bitsOf
  rw [List.range_succ, List.filter_append, List.map_append]
  congr 1
  rw [List.filter_cons, List.filter_nil]
  split <;> rfl
theorem bitsOf_lt {s : List UInt8} {i : Nat} {x : Int} (h : x ∈ bitsOf s i) : 0 ≤ x ∧ x < i := by
  unfold bitsOf at h
  obtain ⟨j, hj, rfl⟩ := List.mem_map.1 h
  have := List.mem_range.1 (List.mem_filter.1 hj).1
  omega
theorem nodup_map {α β : Type} {f : α → β} {l : List α} (hf : ∀ a b, f a = f b → a = b) (h : l.Nodup) : (l.map f).Nodup := by
  rw [List.Nodup, List.pairwise_map]
  exact h.imp fun {a b} hab e => hab (hf a b e)
theorem bitsOf_nodup (s : List UInt8) (i : Nat) : (bitsOf s i).Nodup := by
  unfold bitsOf
  refine nodup_map (fun a b h => by omega) ?_
  exact List.filter_sublist.nodup List.nodup_range
abbrev HdR := Nat × Int × List Int
def hparse (m n : Nat) (s : List UInt8) : Option HdR :=
  if (bitsOf s 512).all (fun x => decide (x < (m : Int))) = false then none
  else if (decide (0 < beT s 6) && decide (beT s 6 % 2 = n) && decide ((0 : Int) ∈ bitsOf s 512) && decide ((1 : Int) ∈ bitsOf s 512) && mayR (bitsOf s 512) (((s.getD 6 0).toNat * 256 + (s.getD 7 0).toNat : Nat) : Int)) = true then
    some (beT s 6, (((s.getD 6 0).toNat * 256 + (s.getD 7 0).toNat : Nat) : Int), bitsOf s 512) else none
def readH (D : Dsk) (n : Nat) : Option HdR :=
  if (D.pread n).2.2 ≠ 0 ∨ (D.pread n).1 ≠ 1 ∨ (D.pread n).2.1.length ≠ 72 then none else hparse (D.n / 2) n (D.pread n).2.1
def better : Option HdR → Option HdR → Option HdR
  | none, y => y
  | some x, none => some x
  | some x, some y => if x.1 < y.1 then some y else some x
def openD (D : Dsk) : Int × Option HdR :=
  if D.n / 2 < 4 then (1, none) else if D.down = true then (7, none) else
  match better (readH D 0) (readH D 1) with
  | none => (5, none)
  | some h => (0, some h)
theorem hparse_ok {m n : Nat} {s : List UInt8} {t : Nat} {r : Int} {U : List Int} (h : hparse m n s = some (t, r, U)) (hs : s.length = 72) : 0 < t ∧ t < 281474976710656 ∧ U.Nodup ∧ (∀ x ∈ U, 0 ≤ x ∧ x < m) ∧ (0 ≤ r ∧ r < 65536) ∧ mayR U r = true ∧ ∃ rn : Nat, r = rn ∧ rn < 65536 := by
  unfold hparse at h
  split at h
  · cases h
  · rename_i h1
    split at h
    · rename_i h2
      cases h
      simp only [Bool.and_eq_true, decide_eq_true_eq] at h2
      have h3 : ∀ x ∈ bitsOf s 512, x < (m : Int) := fun x hx => by
        rw [Bool.not_eq_false] at h1
        have := List.all_eq_true.1 h1 x hx
        simpa using this
      have a1 := (s.getD 6 0).toNat_lt
      have a2 := (s.getD 7 0).toNat_lt
      refine ⟨h2.1.1.1.1, beT_lt s 6 (by omega), bitsOf_nodup _ _, fun x hx => ⟨(bitsOf_lt hx).1, h3 x hx⟩, by omega, h2.2, _, rfl, by omega⟩
    · cases h
theorem beT_turn {t : Nat} (h : t < 281474976710656) (l : List UInt8) : beT (turnB t ++ l) 6 = t := by
  have e : (turnB t ++ l).take 6 = turnB t := List.take_left' (by simp [turnB])
  unfold beT
  rw [e]
  show (((((0 * 256 + (UInt8.ofNat (t / 256 ^ 5)).toNat) * 256 + (UInt8.ofNat (t / 256 ^ 4)).toNat) * 256 + (UInt8.ofNat (t / 256 ^ 3)).toNat) * 256 + (UInt8.ofNat (t / 256 ^ 2)).toNat) * 256 + (UInt8.ofNat (t / 256 ^ 1)).toNat) * 256 + (UInt8.ofNat (t / 256 ^ 0)).toNat = t
  simp only [UInt8.toNat_ofNat']
  omega
theorem textH_get6 (t r : Nat) (U : List Int) : (textH t (r : Int) U).getD 6 0 = UInt8.ofNat (r / 256) := by
  unfold textH
  rw [List.getD, List.getElem?_append_right (by simp [turnB])]
  simp [turnB]
theorem textH_get7 (t r : Nat) (U : List Int) : (textH t (r : Int) U).getD 7 0 = UInt8.ofNat r := by
  unfold textH
  rw [List.getD, List.getElem?_append_right (by simp [turnB])]
  simp [turnB]
theorem textH_get8 (t r : Nat) (U : List Int) {j : Nat} (h : j < 64) : (textH t (r : Int) U).getD (8 + j) 0 = UInt8.ofNat (bm U j) := by
  have e : textH t (r : Int) U = (turnB t ++ [UInt8.ofNat ((r : Int).toNat / 256), UInt8.ofNat (r : Int).toNat]) ++ bmL U := by unfold textH; simp
  have hl : (turnB t ++ [UInt8.ofNat ((r : Int).toNat / 256), UInt8.ofNat (r : Int).toNat]).length = 8 := by simp [turnB]
  rw [e, List.getD, List.getElem?_append_right (by omega), hl, Nat.add_sub_cancel_left]
  unfold bmL
  rw [List.getElem?_map, List.getElem?_range h]; rfl
theorem bitsOf_mem {t r : Nat} {U : List Int} (hU : ∀ n ∈ U, 0 ≤ n ∧ n < 512) (x : Int) : x ∈ bitsOf (textH t (r : Int) U) 512 ↔ x ∈ U := by
  unfold bitsOf
  constructor
  · intro h
    obtain ⟨j, hj, rfl⟩ := List.mem_map.1 h
    obtain ⟨h1, h2⟩ := List.mem_filter.1 hj
    have h3 := List.mem_range.1 h1
    rw [textH_get8 _ _ _ (by omega), UInt8.toNat_ofNat_of_lt' (bm_lt U _), bm_has (fun n hn => (hU n hn).1)] at h2
    simpa using h2
  · intro h
    have := hU x h
    refine List.mem_map.2 ⟨x.toNat, List.mem_filter.2 ⟨List.mem_range.2 (by omega), ?_⟩, by omega⟩
    rw [textH_get8 _ _ _ (by omega), UInt8.toNat_ofNat_of_lt' (bm_lt U _), bm_has (fun n hn => (hU n hn).1)]
    rw [show ((x.toNat : Nat) : Int) = x by omega]
    simpa using h
theorem mayR_congr {S T : List Int} (h : ∀ x, x ∈ S ↔ x ∈ T) (r : Int) : mayR S r = mayR T r := by
  unfold mayR
  simp only [h]
/-- A head that was written may count. -/
theorem hparse_text {m n t r : Nat} {U : List Int} (ht : 0 < t ∧ t < 281474976710656) (hn : t % 2 = n) (hr : r < 65536) (hm : m ≤ 512) (hU : ∀ x ∈ U, 0 ≤ x ∧ x < m) (h0 : (0 : Int) ∈ U) (h1 : (1 : Int) ∈ U) (hmay : mayR U r = true) :
    ∃ V, hparse m n (textH t (r : Int) U) = some (t, (r : Int), V) ∧ (∀ x, x ∈ V ↔ x ∈ U) := by
  have hb : ∀ x, x ∈ bitsOf (textH t (r : Int) U) 512 ↔ x ∈ U := bitsOf_mem fun x hx => by have := hU x hx; omega
  refine ⟨bitsOf (textH t (r : Int) U) 512, ?_, hb⟩
  have e6 : beT (textH t (r : Int) U) 6 = t := beT_turn ht.2 _
  have e7 : (((textH t (r : Int) U).getD 6 0).toNat * 256 + ((textH t (r : Int) U).getD 7 0).toNat : Nat) = r := by
    rw [textH_get6, textH_get7]
    simp only [UInt8.toNat_ofNat']
    omega
  unfold hparse
  rw [e6, e7, if_neg, if_pos]
  · simp only [Bool.and_eq_true, decide_eq_true_eq]
    exact ⟨⟨⟨⟨ht.1, hn⟩, (hb 0).2 h0⟩, (hb 1).2 h1⟩, by rw [mayR_congr hb]; exact hmay⟩
  · rw [Bool.not_eq_false, List.all_eq_true]
    intro x hx
    have := hU x ((hb x).1 hx)
    simpa using this.2
end Go.AM
set_option linter.unusedVariables false
set_option linter.unusedSimpArgs false
set_option maxRecDepth 100000
namespace Go.AM.G
open Go Go.AM Go.Proofs
attribute [local irreducible] run bin un ld st box newV mkS fldA fld ixA ix slc slc3 build buildS cv cvS ap cpy lenV gOp pickV b2 aIf aChk evalK resume iterD Option.bind

section
variable {B B0 H0 H : AH} {L : List (Nat × Blk)}
theorem read_loop0 {hb : Nat} {rv mv s0 s1 s4 : Value} {s : List UInt8} {Lr : List (Nat × Blk)} (hs : s.length = 72) [IsCell rv] [IsCell mv] : ∀ (q i : Nat) (H : AH), i + q = 6 →
    St H0 B0 B ((hb, ⟨[i64 (beT s i), rv, mv], 59, .fix⟩) :: Lr) H →
    Ev (fun k K => f39_L0 k s0 s1 s4 (str s) (ptr hb 0) (i64 i) K H) (fun o => ∃ H', o = (.exit 0, f39_X_L0 s0 s1 s4 (str s) (ptr hb 0), H') ∧
      St H0 B0 B ((hb, ⟨[i64 (beT s 6), rv, mv], 59, .fix⟩) :: Lr) H') := by
  intro q
  induction q with
  | zero =>
    intro i H hi hS
    have : i = 6 := by omega
    subst this
    refine Ev.succ (fun k K => f39_L0_succ k _ _ _ _ _ _ K H) ?_
    repeat (first | (first | refine Ev.s ?_ | refine Ev.newC fun _ _ _ => ?_ | refine Ev.boxC fun _ _ _ => ?_ | refine Ev.stC fun _ _ => ?_ | refine Ev.sc (by omega) ?_ | refine Ev.scg (by omega) ?_) | rw [decide_eq_true (by omega)] | rw [decide_eq_false (by omega)])
    exact Ev.ret ⟨H, rfl, hS⟩
  | succ q ih =>
    intro i H hi hS
    have h6 := beT_lt s i (by omega)
    have h7 : 256 ^ i ≤ 256 ^ 5 := Nat.pow_le_pow_right (by decide) (by omega)
    have h8 : beT s i < 36028797018963968 := by have : 256 ^ 5 = 1099511627776 := by decide
                                                omega
    refine Ev.succ (fun k K => f39_L0_succ k _ _ _ _ _ _ K H) ?_
    repeat (first | (first | refine Ev.s ?_ | refine Ev.newC fun _ _ _ => ?_ | refine Ev.boxC fun _ _ _ => ?_ | refine Ev.stC fun _ _ => ?_ | refine Ev.sc (by omega) ?_ | refine Ev.scg (by omega) ?_) | rw [decide_eq_true (by omega)] | rw [decide_eq_false (by omega)])
    refine Ev.prim (shl8 h8) ?_
    have hb := (s.getD i 0).toNat_lt
    refine Ev.prim (ix_str i rfl (by omega)) ?_
    repeat (first | refine Ev.s ?_ | refine Ev.newC fun _ _ _ => ?_ | refine Ev.boxC fun _ _ _ => ?_ | refine Ev.stC fun _ _ => ?_ | refine Ev.sc (by omega) ?_ | refine Ev.scg (by omega) ?_)
    refine Ev.prim (or8 h8 hb) ?_
    rw [← beT_succ (by omega)]
    repeat (first | (first | refine Ev.s ?_ | refine Ev.newC fun _ _ _ => ?_ | refine Ev.boxC fun _ _ _ => ?_ | refine Ev.stC fun _ _ => ?_ | refine Ev.sc (by omega) ?_ | refine Ev.scg (by omega) ?_) | rw [decide_eq_true (by omega)] | rw [decide_eq_false (by omega)])
    exact ih (i + 1) _ (by omega) (by assumption)
theorem read_loop1 {hb mb r4 n m : Nat} {tv rv dv c1 c2 c3 : Value} {s : List UInt8} {D : Dsk} {Ls : List (Nat × Blk)} (hD : DK dv D Ls) (hO : D.OK) (hm : D.n / 2 = m) (hs : s.length = 72) [IsCell tv] [IsCell rv] [IsCell c1] [IsCell c2] [IsCell c3] : ∀ (q i : Nat) (H : AH), i + q = 512 → (∀ x ∈ bitsOf s i, x < (m : Int)) →
    St H0 B0 B ((hb, ⟨[tv, rv, .map (some mb)], 59, .fix⟩) :: (mb, ⟨entI (bitsOf s i), 57, .map⟩) :: (r4, ⟨[c1, c2, c3], 59, .fix⟩) :: (Ls ++ L)) H →
    Ev (fun k K => f39_L1 k dv (i64 n) (ptr r4 0) (str s) (ptr hb 0) (i64 i) K H) (fun o =>
      ((∀ x ∈ bitsOf s 512, x < (m : Int)) ∧ ∃ H', o = (.exit 2, f39_X_L1 (i64 n) (ptr r4 0) unk (ptr hb 0), H') ∧
        St H0 B0 B ((hb, ⟨[tv, rv, .map (some mb)], 59, .fix⟩) :: (mb, ⟨entI (bitsOf s 512), 57, .map⟩) :: (r4, ⟨[c1, c2, c3], 59, .fix⟩) :: (Ls ++ L)) H') ∨
      (¬ (∀ x ∈ bitsOf s 512, x < (m : Int)) ∧ ∃ H', o = (.ret, f39_X_L1 (i64 n) (ptr r4 0) (.bool false) (ptr hb 0), H') ∧
        St H0 B0 B ((r4, ⟨[.int .i64 0, .int .i64 0, .map none], 59, .fix⟩) :: (Ls ++ L)) H')) := by
  intro q
  induction q with
  | zero =>
    intro i H hi hx hS
    have : i = 512 := by omega
    subst this
    refine Ev.succ (fun k K => f39_L1_succ k _ _ _ _ _ _ K H) ?_
    repeat (first | (first | refine Ev.s ?_ | refine Ev.newC fun _ _ _ => ?_ | refine Ev.boxC fun _ _ _ => ?_ | refine Ev.stC fun _ _ => ?_ | refine Ev.sc (by omega) ?_ | refine Ev.scg (by omega) ?_) | rw [decide_eq_true (by omega)] | rw [decide_eq_false (by omega)])
    exact Ev.ret (.inl ⟨hx, H, rfl, hS⟩)
  | succ q ih =>
    intro i H hi hx hS
    have hm8 := Nat.mod_lt i (show 0 < 8 by decide)
    refine Ev.succ (fun k K => f39_L1_succ k _ _ _ _ _ _ K H) ?_
    repeat (first | (first | refine Ev.s ?_ | refine Ev.newC fun _ _ _ => ?_ | refine Ev.boxC fun _ _ _ => ?_ | refine Ev.stC fun _ _ => ?_ | refine Ev.sc (by omega) ?_ | refine Ev.scg (by omega) ?_) | rw [decide_eq_true (by omega)] | rw [decide_eq_false (by omega)])
    refine Ev.prim (ix_str (8 + i / 8) rfl (by omega)) ?_
    repeat (first | refine Ev.s ?_ | refine Ev.newC fun _ _ _ => ?_ | refine Ev.boxC fun _ _ _ => ?_ | refine Ev.stC fun _ _ => ?_ | refine Ev.sc (by omega) ?_ | refine Ev.scg (by omega) ?_)
    refine Ev.prim (shl1 hm8) ?_
    refine Ev.prim (and8 (s.getD (8 + i / 8) 0).toNat_lt hm8) ?_
    have hsucc := bitsOf_succ s i
    cases hb : (s.getD (8 + i / 8) 0).toNat.testBit (i % 8) with
    | false =>
      rw [hb] at hsucc
      rw [if_neg (by decide), List.append_nil] at hsucc
      rw [show (false.toNat * 2 ^ (i % 8)) = 0 by simp]
      repeat (first | (first | refine Ev.s ?_ | refine Ev.newC fun _ _ _ => ?_ | refine Ev.boxC fun _ _ _ => ?_ | refine Ev.stC fun _ _ => ?_ | refine Ev.sc (by omega) ?_ | refine Ev.scg (by omega) ?_) | rw [decide_eq_true (by omega)] | rw [decide_eq_false (by omega)])
      refine ih (i + 1) H (by omega) (by rw [hsucc]; exact hx) ?_
      rw [hsucc]
      exact hS
    | true =>
      rw [hb, if_pos rfl] at hsucc
      rw [show (true.toNat * 2 ^ (i % 8)) = 2 ^ (i % 8) by simp]
      have hpos : 0 < 2 ^ (i % 8) := Nat.two_pow_pos _
      generalize 2 ^ (i % 8) = z at hpos
      repeat (first | (first | refine Ev.s ?_ | refine Ev.newC fun _ _ _ => ?_ | refine Ev.boxC fun _ _ _ => ?_ | refine Ev.stC fun _ _ => ?_ | refine Ev.sc (by omega) ?_ | refine Ev.scg (by omega) ?_) | rw [decide_eq_true (by omega)] | rw [decide_eq_false (by omega)])
      refine Ev.b2 (pages_spec hD hO hS fun x hx => .tail _ (.tail _ (.tail _ (List.mem_append_left _ hx)))) ?_
      rintro v H1 h
      cases h
      rw [hm]
      repeat (first | refine Ev.s ?_ | refine Ev.newC fun _ _ _ => ?_ | refine Ev.boxC fun _ _ _ => ?_ | refine Ev.stC fun _ _ => ?_ | refine Ev.sc (by omega) ?_ | refine Ev.scg (by omega) ?_)
      by_cases hi2 : m ≤ i
      · rw [decide_eq_true hi2]
        repeat (first | refine Ev.s ?_ | refine Ev.newC fun _ _ _ => ?_ | refine Ev.boxC fun _ _ _ => ?_ | refine Ev.stC fun _ _ => ?_ | refine Ev.sc (by omega) ?_ | refine Ev.scg (by omega) ?_)
        refine Ev.ret (.inr ⟨fun hall => ?_, _, rfl, by rename_i hS9; exact hS9.drop1.drop1⟩)
        have h512 : (i : Int) ∈ bitsOf s 512 := by
          unfold bitsOf
          exact List.mem_map.2 ⟨i, List.mem_filter.2 ⟨List.mem_range.2 (by omega), hb⟩, rfl⟩
        have := hall _ h512
        omega
      rw [decide_eq_false hi2]
      repeat (first | refine Ev.s ?_ | refine Ev.newC fun _ _ _ => ?_ | refine Ev.boxC fun _ _ _ => ?_ | refine Ev.stC fun _ _ => ?_ | refine Ev.sc (by omega) ?_ | refine Ev.scg (by omega) ?_)
      refine Ev.mpTrueI (kt := 3) (et := 4) (Und.eq (P := Tryd.prog) (t := 57)) (Und.eq (P := Tryd.prog) (t := 3)) hS (.tail _ (.head _)) (.tail _ (.head _)) fun H' hS' => ?_
      repeat (first | (first | refine Ev.s ?_ | refine Ev.newC fun _ _ _ => ?_ | refine Ev.boxC fun _ _ _ => ?_ | refine Ev.stC fun _ _ => ?_ | refine Ev.sc (by omega) ?_ | refine Ev.scg (by omega) ?_) | rw [decide_eq_true (by omega)] | rw [decide_eq_false (by omega)])
      have e : insI (bitsOf s i) (i : Int) = bitsOf s (i + 1) := by
        rw [hsucc]
        exact if_neg fun h => by have := (bitsOf_lt h).2; omega
      rw [e] at hS'
      refine ih (i + 1) H' (by omega) (fun x hx2 => ?_) hS'
      rw [hsucc] at hx2
      rcases List.mem_append.1 hx2 with h | h
      · exact hx x h
      · simp at h; omega
theorem read_spec {dv : Value} {D : Dsk} {Ls : List (Nat × Blk)} {n : Nat} (hn : n < 1000) (hD : DK dv D Ls) (hO : D.OK) (hc : D.cache.length < 1000000000000) (hS : St H0 B0 B (Ls ++ L) H) :
    Ev (fun k _ => rn k 39 [dv, i64 n] H) (fun r => (readH D n = none ∧ ∃ c1 c2 c3 B', r.1 = .tuple #[.agg #[c1, c2, c3], .bool false] ∧ IsCell c1 ∧ IsCell c2 ∧ IsCell c3 ∧ MoC B B' ∧ St H0 B0 B' (Ls ++ L) r.2) ∨
      (∃ t rt U mb B', readH D n = some (t, rt, U) ∧ r.1 = .tuple #[.agg #[i64 t, .int .i64 rt, .map (some mb)], .bool true] ∧ MoC B B' ∧ St H0 B0 B' ((mb, ⟨entI U, 57, .map⟩) :: (Ls ++ L)) r.2)) := by
  refine Ev.fn (fun k => f39_eq k _ _ H) ?_
  obtain ⟨d, rfl⟩ := hD.ptr
  repeat (first | refine Ev.s ?_ | refine Ev.newC fun _ _ _ => ?_ | refine Ev.boxC fun _ _ _ => ?_ | refine Ev.stC fun _ _ => ?_ | refine Ev.sc (by omega) ?_ | refine Ev.scg (by omega) ?_)
  rename_i r4 H1 hS1
  clear hS
  have hS2 : St H0 B0 B (Ls ++ ((r4, _) :: L)) H1 := hS1.perm (List.perm_middle)
  refine Ev.b2 (pRead_spec (n := (n : Int)) hD hO hc hS2) ?_
  clear hS1 hS2
  unfold readH
  generalize D.pread (n : Int) = w
  obtain ⟨w1, w2, w3⟩ := w
  dsimp only
  rintro _ H2 ⟨rfl, B2, hm2, hS2⟩
  try dsimp only at hS2
  unfold OpenV
  dsimp only
  have hS3 : St H0 B0 B2 ((r4, _) :: (Ls ++ L)) H2 := hS2.perm (List.perm_middle).symm
  clear hS2
  repeat (first | refine Ev.s ?_ | refine Ev.newC fun _ _ _ => ?_ | refine Ev.boxC fun _ _ _ => ?_ | refine Ev.stC fun _ _ => ?_ | refine Ev.sc (by omega) ?_ | refine Ev.scg (by omega) ?_)
  have fail : ∀ Lz, St H0 B0 B2 Lz H2 → True := fun _ _ => trivial
  by_cases h3 : w3 = 0
  case neg =>
    rw [if_pos (.inl h3), decide_eq_true h3]
    repeat (first | refine Ev.s ?_ | refine Ev.newC fun _ _ _ => ?_ | refine Ev.boxC fun _ _ _ => ?_ | refine Ev.stC fun _ _ => ?_ | refine Ev.sc (by omega) ?_ | refine Ev.scg (by omega) ?_)
    refine Ev.ret (.inl ⟨rfl, _, _, _, B2, rfl, inferInstance, inferInstance, inferInstance, hm2, ?_⟩)
    rename_i hS9
    exact hS9.drop1
  rw [decide_eq_false (by simpa using h3)]
  repeat (first | refine Ev.s ?_ | refine Ev.newC fun _ _ _ => ?_ | refine Ev.boxC fun _ _ _ => ?_ | refine Ev.stC fun _ _ => ?_ | refine Ev.sc (by omega) ?_ | refine Ev.scg (by omega) ?_)
  by_cases h1 : w1 = 1
  case neg =>
    rw [if_pos (.inr (.inl h1)), decide_eq_true h1]
    repeat (first | refine Ev.s ?_ | refine Ev.newC fun _ _ _ => ?_ | refine Ev.boxC fun _ _ _ => ?_ | refine Ev.stC fun _ _ => ?_ | refine Ev.sc (by omega) ?_ | refine Ev.scg (by omega) ?_)
    refine Ev.ret (.inl ⟨rfl, _, _, _, B2, rfl, inferInstance, inferInstance, inferInstance, hm2, ?_⟩)
    rename_i hS9
    exact hS9.drop1
  rw [decide_eq_false (by simpa using h1)]
  repeat (first | refine Ev.s ?_ | refine Ev.newC fun _ _ _ => ?_ | refine Ev.boxC fun _ _ _ => ?_ | refine Ev.stC fun _ _ => ?_ | refine Ev.sc (by omega) ?_ | refine Ev.scg (by omega) ?_)
  by_cases h2 : w2.length = 72
  case neg =>
    rw [if_pos (.inr (.inr h2)), decide_eq_true h2]
    repeat (first | refine Ev.s ?_ | refine Ev.newC fun _ _ _ => ?_ | refine Ev.boxC fun _ _ _ => ?_ | refine Ev.stC fun _ _ => ?_ | refine Ev.sc (by omega) ?_ | refine Ev.scg (by omega) ?_)
    refine Ev.ret (.inl ⟨rfl, _, _, _, B2, rfl, inferInstance, inferInstance, inferInstance, hm2, ?_⟩)
    rename_i hS9
    exact hS9.drop1
  rw [decide_eq_false (by simpa using h2), if_neg (by simp [h1, h2, h3])]
  repeat (first | refine Ev.s ?_ | refine Ev.newC fun _ _ _ => ?_ | refine Ev.boxC fun _ _ _ => ?_ | refine Ev.stC fun _ _ => ?_ | refine Ev.sc (by omega) ?_ | refine Ev.scg (by omega) ?_)
  have a1 := (w2.getD 6 0).toNat_lt
  have a2 := (w2.getD 7 0).toNat_lt
  refine Ev.prim (ix_str 6 rfl (by omega)) ?_
  repeat (first | refine Ev.s ?_ | refine Ev.newC fun _ _ _ => ?_ | refine Ev.boxC fun _ _ _ => ?_ | refine Ev.stC fun _ _ => ?_ | refine Ev.sc (by omega) ?_ | refine Ev.scg (by omega) ?_)
  refine Ev.prim (shl8 (by omega)) ?_
  refine Ev.prim (ix_str 7 rfl (by omega)) ?_
  repeat (first | refine Ev.s ?_ | refine Ev.newC fun _ _ _ => ?_ | refine Ev.boxC fun _ _ _ => ?_ | refine Ev.stC fun _ _ => ?_ | refine Ev.sc (by omega) ?_ | refine Ev.scg (by omega) ?_)
  refine Ev.prim (or8 (by omega) a2) ?_
  refine Ev.mkMap (P := Tryd.prog) hS3 fun mb H4 hS4 => ?_
  repeat (first | refine Ev.s ?_ | refine Ev.newC fun _ _ _ => ?_ | refine Ev.boxC fun _ _ _ => ?_ | refine Ev.stC fun _ _ => ?_ | refine Ev.sc (by omega) ?_ | refine Ev.scg (by omega) ?_)
  rename_i hb H5 hS5 H6 hS6
  clear hS3 hS4 hS5
  refine Ev.bind (Ev.loop (read_loop0 h2 6 0 H6 (by omega) hS6)) ?_
  clear hS6
  rintro _ ⟨H7, rfl, hS7⟩
  refine Ev.eq (fun k _ => f39_A0_x0 k _ _ _ _ _ H7) ?_
  refine Ev.bind (Ev.loop (read_loop1 hD hO rfl h2 512 0 H7 (by omega) (fun x hx => by cases hx) hS7)) ?_
  clear hS7
  unfold hparse
  rintro _ (⟨hall, H8, rfl, hS8⟩ | ⟨hall, H8, rfl, hS8⟩)
  case inr =>
    refine Ev.eq (fun k _ => f39_A1_ret k _ _ _ _ H8) ?_
    rw [if_pos (by
      rw [List.all_eq_false]
      simp only [Classical.not_forall] at hall
      obtain ⟨x, hx, h⟩ := hall
      exact ⟨x, hx, by simpa using h⟩)]
    repeat (first | refine Ev.s ?_ | refine Ev.newC fun _ _ _ => ?_ | refine Ev.boxC fun _ _ _ => ?_ | refine Ev.stC fun _ _ => ?_ | refine Ev.sc (by omega) ?_ | refine Ev.scg (by omega) ?_)
    exact Ev.ret (.inl ⟨rfl, _, _, _, B2, rfl, inferInstance, inferInstance, inferInstance, hm2, hS8.drop1⟩)
  refine Ev.eq (fun k _ => f39_A1_x2 k _ _ _ _ H8) ?_
  rw [if_neg (by rw [Bool.not_eq_false, List.all_eq_true]; intro x hx; simpa using hall x hx)]
  generalize hU : bitsOf w2 512 = U at hS8 hall ⊢
  generalize ht : beT w2 6 = t at hS8 ⊢
  generalize hr : (w2.getD 6 0).toNat * 256 + (w2.getD 7 0).toNat = rt at hS8 ⊢
  by_cases c1 : 0 < t
  case neg =>
    rw [if_neg (by simp [c1])]
    repeat (first | refine Ev.s ?_ | refine Ev.newC fun _ _ _ => ?_ | refine Ev.boxC fun _ _ _ => ?_ | refine Ev.stC fun _ _ => ?_ | refine Ev.sc (by omega) ?_ | refine Ev.scg (by omega) ?_)
    rw [decide_eq_false c1]
    repeat (first | refine Ev.s ?_ | refine Ev.newC fun _ _ _ => ?_ | refine Ev.boxC fun _ _ _ => ?_ | refine Ev.stC fun _ _ => ?_ | refine Ev.sc (by omega) ?_ | refine Ev.scg (by omega) ?_)
    rename_i hS9
    exact Ev.ret (.inl ⟨rfl, _, _, _, B2, rfl, inferInstance, inferInstance, inferInstance, hm2, hS9.drop1.drop1.drop1⟩)
  by_cases c2 : t % 2 = n
  case neg =>
    rw [if_neg (by simp [c2])]
    repeat (first | refine Ev.s ?_ | refine Ev.newC fun _ _ _ => ?_ | refine Ev.boxC fun _ _ _ => ?_ | refine Ev.stC fun _ _ => ?_ | refine Ev.sc (by omega) ?_ | refine Ev.scg (by omega) ?_)
    rw [decide_eq_true c1]
    repeat (first | refine Ev.s ?_ | refine Ev.newC fun _ _ _ => ?_ | refine Ev.boxC fun _ _ _ => ?_ | refine Ev.stC fun _ _ => ?_ | refine Ev.sc (by omega) ?_ | refine Ev.scg (by omega) ?_)
    rw [decide_eq_false c2]
    repeat (first | refine Ev.s ?_ | refine Ev.newC fun _ _ _ => ?_ | refine Ev.boxC fun _ _ _ => ?_ | refine Ev.stC fun _ _ => ?_ | refine Ev.sc (by omega) ?_ | refine Ev.scg (by omega) ?_)
    rename_i hS9
    exact Ev.ret (.inl ⟨rfl, _, _, _, B2, rfl, inferInstance, inferInstance, inferInstance, hm2, hS9.drop1.drop1.drop1⟩)
  repeat (first | refine Ev.s ?_ | refine Ev.newC fun _ _ _ => ?_ | refine Ev.boxC fun _ _ _ => ?_ | refine Ev.stC fun _ _ => ?_ | refine Ev.sc (by omega) ?_ | refine Ev.scg (by omega) ?_)
  rw [decide_eq_true c1]
  repeat (first | refine Ev.s ?_ | refine Ev.newC fun _ _ _ => ?_ | refine Ev.boxC fun _ _ _ => ?_ | refine Ev.stC fun _ _ => ?_ | refine Ev.sc (by omega) ?_ | refine Ev.scg (by omega) ?_)
  rw [decide_eq_true c2]
  repeat (first | refine Ev.s ?_ | refine Ev.newC fun _ _ _ => ?_ | refine Ev.boxC fun _ _ _ => ?_ | refine Ev.stC fun _ _ => ?_ | refine Ev.sc (by omega) ?_ | refine Ev.scg (by omega) ?_)
  refine Ev.gPrim (lkI (kt := 3) (et := 4) (Und.eq (P := Tryd.prog) (t := 57)) (Und.eq (P := Tryd.prog) (t := 3)) (by kernel_rfl) hS8 (.tail _ (.head _))) rfl ?_
  by_cases c3 : (0 : Int) ∈ U
  case neg =>
    rw [if_neg (by simp [c3]), decide_eq_false c3]
    repeat (first | refine Ev.s ?_ | refine Ev.newC fun _ _ _ => ?_ | refine Ev.boxC fun _ _ _ => ?_ | refine Ev.stC fun _ _ => ?_ | refine Ev.sc (by omega) ?_ | refine Ev.scg (by omega) ?_)
    rename_i hS9
    exact Ev.ret (.inl ⟨rfl, _, _, _, B2, rfl, inferInstance, inferInstance, inferInstance, hm2, hS9.drop1.drop1.drop1⟩)
  rw [decide_eq_true c3]
  repeat (first | refine Ev.s ?_ | refine Ev.newC fun _ _ _ => ?_ | refine Ev.boxC fun _ _ _ => ?_ | refine Ev.stC fun _ _ => ?_ | refine Ev.sc (by omega) ?_ | refine Ev.scg (by omega) ?_)
  refine Ev.gPrim (lkI (kt := 3) (et := 4) (Und.eq (P := Tryd.prog) (t := 57)) (Und.eq (P := Tryd.prog) (t := 3)) (by kernel_rfl) hS8 (.tail _ (.head _))) rfl ?_
  by_cases c4 : (1 : Int) ∈ U
  case neg =>
    rw [if_neg (by simp [c4]), decide_eq_false c4]
    repeat (first | refine Ev.s ?_ | refine Ev.newC fun _ _ _ => ?_ | refine Ev.boxC fun _ _ _ => ?_ | refine Ev.stC fun _ _ => ?_ | refine Ev.sc (by omega) ?_ | refine Ev.scg (by omega) ?_)
    rename_i hS9
    exact Ev.ret (.inl ⟨rfl, _, _, _, B2, rfl, inferInstance, inferInstance, inferInstance, hm2, hS9.drop1.drop1.drop1⟩)
  rw [decide_eq_true c4]
  repeat (first | refine Ev.s ?_ | refine Ev.newC fun _ _ _ => ?_ | refine Ev.boxC fun _ _ _ => ?_ | refine Ev.stC fun _ _ => ?_ | refine Ev.sc (by omega) ?_ | refine Ev.scg (by omega) ?_)
  refine Ev.b2 (may_spec (U := U) (root := (rt : Int)) (x := (rt : Int)) ⟨.tail _ (.head _)⟩ hS8) ?_
  rintro _ H9 ⟨rfl, b9, c9, hS9⟩
  dsimp only at hS9
  clear hS8
  simp only [c1, c2, c3, c4, decide_true, Bool.true_and]
  cases hmay : mayR U (rt : Int) with
  | false =>
    rw [if_neg (by decide)]
    repeat (first | refine Ev.s ?_ | refine Ev.newC fun _ _ _ => ?_ | refine Ev.boxC fun _ _ _ => ?_ | refine Ev.stC fun _ _ => ?_ | refine Ev.sc (by omega) ?_ | refine Ev.scg (by omega) ?_)
    rename_i hS10
    exact Ev.ret (.inl ⟨rfl, _, _, _, B2, rfl, inferInstance, inferInstance, inferInstance, hm2, hS10.drop1.drop1.drop1.drop1⟩)
  | true =>
    rw [if_pos rfl]
    repeat (first | refine Ev.s ?_ | refine Ev.newC fun _ _ _ => ?_ | refine Ev.boxC fun _ _ _ => ?_ | refine Ev.stC fun _ _ => ?_ | refine Ev.sc (by omega) ?_ | refine Ev.scg (by omega) ?_)
    rename_i hS10
    refine Ev.ret (.inr ⟨t, _, U, mb, B2, rfl, rfl, hm2, ?_⟩)
    exact hS10.drop1.drop1.drop (.cons_cons _ (.cons _ (List.Sublist.refl _)))
def BestOK (best : Option HdR) (t : Nat) (r : Int) (mv : Value) (Lm : List (Nat × Blk)) : Prop :=
  (best = none ∧ t = 0 ∧ Lm = []) ∨ (∃ U mb, best = some (t, r, U) ∧ mv = .map (some mb) ∧ Lm = [(mb, ⟨entI U, 57, .map⟩)])
theorem Open_round {dv mv : Value} {D : Dsk} {Ls Lm : List (Nat × Blk)} {i bb t : Nat} {r : Int} {best : Option HdR} {Q : Out → Prop} (hi : i < 2) (hD : DK dv D Ls) (hO : D.OK) (hc : D.cache.length < 1000000000000) (hb : BestOK best t r mv Lm) [IsCell mv] (hS : St H0 B0 B (Ls ++ ((bb, ⟨[i64 t, .int .i64 r, mv], 59, .fix⟩) :: (Lm ++ L))) H)
    (hk : ∀ t' r' mv' Lm' B' H', MoC B B' → IsCell mv' → BestOK (better best (readH D i)) t' r' mv' Lm' → St H0 B0 B' (Ls ++ ((bb, ⟨[i64 t', .int .i64 r', mv'], 59, .fix⟩) :: (Lm' ++ L))) H' → Ev (fun k K => f23_L0 k dv (ptr bb 0) (i64 (i + 1)) K H') Q) :
    Ev (fun k K => f23_L0 k dv (ptr bb 0) (i64 i) K H) Q := by
  refine Ev.succ (fun k K => f23_L0_succ k _ _ _ K H) ?_
  repeat (first | (first | refine Ev.s ?_ | refine Ev.newC fun _ _ _ => ?_ | refine Ev.boxC fun _ _ _ => ?_ | refine Ev.stC fun _ _ => ?_ | refine Ev.sc (by omega) ?_ | refine Ev.scg (by omega) ?_) | rw [decide_eq_true (by omega)] | rw [decide_eq_false (by omega)])
  refine Ev.b2 (read_spec (n := i) (by omega) hD hO hc hS) ?_
  clear hS
  rintro _ H1 (⟨hr, c1, c2, c3, B1, rfl, i1, i2, i3, hm1, hS1⟩ | ⟨t1, r1, U1, mb1, B1, hr, rfl, hm1, hS1⟩)
  · dsimp only at hS1
    repeat (first | (first | refine Ev.s ?_ | refine Ev.newC fun _ _ _ => ?_ | refine Ev.boxC fun _ _ _ => ?_ | refine Ev.stC fun _ _ => ?_ | refine Ev.sc (by omega) ?_ | refine Ev.scg (by omega) ?_) | rw [decide_eq_true (by omega)] | rw [decide_eq_false (by omega)])
    rename_i hS3
    refine hk t r mv Lm B1 _ hm1 inferInstance ?_ hS3.drop1
    rw [hr]
    cases best <;> exact hb
  · dsimp only at hS1
    have hpos : 0 < t1 := by
      unfold readH at hr
      split at hr
      · cases hr
      · rename_i hn
        exact (hparse_ok hr (by simpa using fun h => hn (.inr (.inr h)))).1
    have hS2 : St H0 B0 B1 ((bb, ⟨[i64 t, .int .i64 r, mv], 59, .fix⟩) :: (mb1, ⟨entI U1, 57, .map⟩) :: (Ls ++ (Lm ++ L))) H1 := by
      refine hS1.perm ?_
      refine List.Perm.trans (List.Perm.swap _ _ _) (List.Perm.cons _ ?_)
      exact (List.perm_middle).symm
    clear hS1
    repeat (first | refine Ev.s ?_ | refine Ev.newC fun _ _ _ => ?_ | refine Ev.boxC fun _ _ _ => ?_ | refine Ev.stC fun _ _ => ?_ | refine Ev.sc (by omega) ?_ | refine Ev.scg (by omega) ?_)
    rename_i hS3
    by_cases hlt : t < t1
    · rw [decide_eq_true hlt]
      repeat (first | (first | refine Ev.s ?_ | refine Ev.newC fun _ _ _ => ?_ | refine Ev.boxC fun _ _ _ => ?_ | refine Ev.stC fun _ _ => ?_ | refine Ev.sc (by omega) ?_ | refine Ev.scg (by omega) ?_) | rw [decide_eq_true (by omega)] | rw [decide_eq_false (by omega)])
      rename_i hS4
      refine hk t1 r1 (.map (some mb1)) [(mb1, ⟨entI U1, 57, .map⟩)] B1 _ hm1 inferInstance (.inr ⟨U1, mb1, ?_, rfl, rfl⟩) ?_
      · rw [hr]
        rcases hb with ⟨rfl, _, _⟩ | ⟨U, mb, rfl, _, _⟩
        · rfl
        · show (if t < t1 then _ else _) = _
          rw [if_pos hlt]
      · have h5 : St H0 B0 B1 ((bb, ⟨[i64 t1, .int .i64 r1, .map (some mb1)], 59, .fix⟩) :: (mb1, ⟨entI U1, 57, .map⟩) :: (Ls ++ L)) _ := hS4.drop1.drop (.cons_cons _ (.cons_cons _ (List.Sublist.append_left (List.sublist_append_right _ _) _)))
        exact h5.perm (permA [_, _] Ls L)
    · rw [decide_eq_false hlt]
      repeat (first | (first | refine Ev.s ?_ | refine Ev.newC fun _ _ _ => ?_ | refine Ev.boxC fun _ _ _ => ?_ | refine Ev.stC fun _ _ => ?_ | refine Ev.sc (by omega) ?_ | refine Ev.scg (by omega) ?_) | rw [decide_eq_true (by omega)] | rw [decide_eq_false (by omega)])
      refine hk t r mv Lm B1 _ hm1 inferInstance ?_ ?_
      · rw [hr]
        rcases hb with ⟨rfl, rfl, _⟩ | ⟨U, mb, rfl, h1, h2⟩
        · omega
        · refine .inr ⟨U, mb, ?_, h1, h2⟩
          show (if t < t1 then _ else _) = _
          rw [if_neg hlt]
      · have h5 : St H0 B0 B1 ((bb, ⟨[i64 t, .int .i64 r, mv], 59, .fix⟩) :: (Ls ++ (Lm ++ L))) _ := hS3.drop1.drop (.cons_cons _ (.cons _ (List.Sublist.refl _)))
        exact h5.perm (List.perm_middle)
theorem pgOpen_spec {dv : Value} {D : Dsk} {Ls : List (Nat × Blk)} (hD : DK dv D Ls) (hO : D.OK) (hc : D.cache.length < 1000000000000) (hS : St H0 B0 B (Ls ++ L) H) :
    Ev (fun k _ => rn k 23 [dv] H) (fun r => ((openD D).2 = none ∧ DkP H0 B0 B L dv (.tuple #[.pointer none, .int .i64 (openD D).1]) D r) ∨
      (∃ t rt U p, openD D = (0, some (t, rt, U)) ∧ PgP H0 B0 B L p dv (.tuple #[p, .int .i64 0]) ⟨t, rt, U, [], false⟩ D r)) := by
  obtain ⟨d, rfl⟩ := hD.ptr
  refine Ev.fn (fun k => f23_eq k _ H) ?_
  refine Ev.b2 (pages_spec hD hO hS fun x hx => List.mem_append_left _ hx) ?_
  rintro v H1 h
  cases h
  unfold openD
  have hn := hO.n2
  by_cases h4 : D.n / 2 < 4
  · rw [if_pos h4]
    repeat (first | (first | refine Ev.s ?_ | refine Ev.newC fun _ _ _ => ?_ | refine Ev.boxC fun _ _ _ => ?_ | refine Ev.stC fun _ _ => ?_ | refine Ev.sc (by omega) ?_ | refine Ev.scg (by omega) ?_) | rw [decide_eq_true (by omega)] | rw [decide_eq_false (by omega)])
    exact Ev.ret (.inl ⟨rfl, rfl, Ls, B, ⟨Mo.refl B⟩, hD, hS⟩)
  rw [if_neg h4]
  repeat (first | (first | refine Ev.s ?_ | refine Ev.newC fun _ _ _ => ?_ | refine Ev.boxC fun _ _ _ => ?_ | refine Ev.stC fun _ _ => ?_ | refine Ev.sc (by omega) ?_ | refine Ev.scg (by omega) ?_) | rw [decide_eq_true (by omega)] | rw [decide_eq_false (by omega)])
  refine Ev.b2 (Down_spec hD hS fun x hx => List.mem_append_left _ hx) ?_
  rintro v H1 h
  cases h
  cases hd : D.down with
  | true =>
    rw [if_pos rfl]
    repeat (first | refine Ev.s ?_ | refine Ev.newC fun _ _ _ => ?_ | refine Ev.boxC fun _ _ _ => ?_ | refine Ev.stC fun _ _ => ?_ | refine Ev.sc (by omega) ?_ | refine Ev.scg (by omega) ?_)
    exact Ev.ret (.inl ⟨rfl, rfl, Ls, B, ⟨Mo.refl B⟩, hD, hS⟩)
  | false =>
    rw [if_neg (by decide)]
    repeat (first | refine Ev.s ?_ | refine Ev.newC fun _ _ _ => ?_ | refine Ev.boxC fun _ _ _ => ?_ | refine Ev.stC fun _ _ => ?_ | refine Ev.sc (by omega) ?_ | refine Ev.scg (by omega) ?_)
    rename_i bb H1 hS1
    have hS2 : St H0 B0 B (Ls ++ ((bb, ⟨[i64 0, .int .i64 0, .map none], 59, .fix⟩) :: ([] ++ L))) H1 := hS1.perm (List.perm_middle)
    clear hS hS1
    have key : Ev (fun k K => f23_L0 k (ptr d 0) (ptr bb 0) (i64 0) K H1) (fun o => ∃ t r mv Lm B' H', o = (.exit 1, f23_X_L0 (ptr d 0) (ptr bb 0), H') ∧ MoC B B' ∧ IsCell mv ∧ BestOK (better (readH D 0) (readH D 1)) t r mv Lm ∧
        St H0 B0 B' (Ls ++ ((bb, ⟨[i64 t, .int .i64 r, mv], 59, .fix⟩) :: (Lm ++ L))) H') := by
      refine Open_round (best := none) (by decide) hD hO hc (.inl ⟨rfl, rfl, rfl⟩) hS2 fun t1 r1 mv1 Lm1 B1 H2 hm1 i1 hb1 hS3 => ?_
      refine Open_round (best := better none (readH D 0)) (i := 1) (by decide) hD hO hc hb1 hS3 fun t2 r2 mv2 Lm2 B2 H3 hm2 i2 hb2 hS4 => ?_
      refine Ev.succ (fun k K => f23_L0_succ k _ _ _ K _) ?_
      repeat (first | (first | refine Ev.s ?_ | refine Ev.newC fun _ _ _ => ?_ | refine Ev.boxC fun _ _ _ => ?_ | refine Ev.stC fun _ _ => ?_ | refine Ev.sc (by omega) ?_ | refine Ev.scg (by omega) ?_) | rw [decide_eq_true (by omega)] | rw [decide_eq_false (by omega)])
      exact Ev.ret ⟨t2, r2, mv2, Lm2, B2, H3, rfl, ⟨hm1.mo.trans hm2.mo⟩, i2, hb2, hS4⟩
    refine Ev.bind (Ev.loop key) ?_
    clear hS2
    rintro _ ⟨t, r, mv, Lm, B', H', rfl, hm', im, hb, hS3⟩
    refine Ev.eq (fun k _ => f23_A0_x1 k _ _ H') ?_
    have hS4 : St H0 B0 B' ((bb, ⟨[i64 t, .int .i64 r, mv], 59, .fix⟩) :: (Ls ++ (Lm ++ L))) H' := hS3.perm (List.perm_middle).symm
    clear hS3
    repeat (first | refine Ev.s ?_ | refine Ev.newC fun _ _ _ => ?_ | refine Ev.boxC fun _ _ _ => ?_ | refine Ev.stC fun _ _ => ?_ | refine Ev.sc (by omega) ?_ | refine Ev.scg (by omega) ?_)
    rcases hb with ⟨hb, rfl, rfl⟩ | ⟨U, mb, hb, rfl, rfl⟩
    · rw [hb]
      rw [decide_eq_true rfl]
      repeat (first | refine Ev.s ?_ | refine Ev.newC fun _ _ _ => ?_ | refine Ev.boxC fun _ _ _ => ?_ | refine Ev.stC fun _ _ => ?_ | refine Ev.sc (by omega) ?_ | refine Ev.scg (by omega) ?_)
      exact Ev.ret (.inl ⟨rfl, rfl, Ls, B', hm', hD, hS4.drop1⟩)
    · rw [hb]
      have hpos : 0 < t := by
        have one : ∀ n h, readH D n = some h → 0 < h.1 := fun n h hr => by
          unfold readH at hr
          split at hr
          · cases hr
          · rename_i hn
            obtain ⟨t, r, U⟩ := h
            exact (hparse_ok hr (by simpa using fun h => hn (.inr (.inr h)))).1
        cases h0 : readH D 0 with
        | none =>
          rw [h0] at hb
          exact one 1 _ hb
        | some x =>
          cases h1 : readH D 1 with
          | none => rw [h0, h1] at hb; exact one 0 _ (h0.trans hb)
          | some y =>
            rw [h0, h1] at hb
            have hx := one 0 _ h0
            have hy := one 1 _ h1
            have : (if x.1 < y.1 then some y else some x) = some (t, r, U) := hb
            split at this
            · cases this; exact hy
            · cases this; exact hx
      rw [decide_eq_false (by omega)]
      repeat (first | refine Ev.s ?_ | refine Ev.newC fun _ _ _ => ?_ | refine Ev.boxC fun _ _ _ => ?_ | refine Ev.stC fun _ _ => ?_ | refine Ev.sc (by omega) ?_ | refine Ev.scg (by omega) ?_)
      rename_i pb H5 hS5
      refine Ev.ret (.inr ⟨t, r, U, ptr pb 0, rfl, rfl, _, B', hm', ⟨pb, mb, _, [], Ls, rfl, hD, FRS.nil, rfl⟩, ?_⟩)
      have h6 : St H0 B0 B' ((pb, _) :: (Ls ++ ((mb, ⟨entI U, 57, .map⟩) :: L))) H5 := hS5.drop (.cons_cons _ (.cons _ (List.Sublist.refl _)))
      exact h6.perm (List.Perm.cons _ (List.perm_middle).symm)
end
end Go.AM.G
set_option linter.unusedVariables false
set_option linter.unusedSimpArgs false
namespace Go.AM
def Dsk.pg (D : Dsk) (n : Nat) : List UInt8 := D.look (2 * n) ++ D.look (2 * n + 1)
theorem Dsk.Up.hwrite {D : Dsk} {m t r : Nat} {U : List Int} (h : D.Up (2 * m)) (hm : 2 ≤ m) (hm2 : m ≤ 512) : ∃ D', hwrite D t (r : Int) U = (0, D') ∧ D'.Up (2 * m) ∧ D'.cache.length = D.cache.length + 2 ∧ ∀ n, D'.pg n = if n = t % 2 then sealL 1 (textH t (r : Int) U) else D.pg n := by
  have hl : (textH t (r : Int) U).length ≤ 120 := by rw [textH_len]; decide
  have h2 : t % 2 < m := by omega
  refine ⟨_, h.pwrite (n := t % 2) (k := 1) h2 (by omega) (by decide) (by decide) hl, h.pput h2 hl, ?_, fun n => ?_⟩
  · show ((D.cache ++ [_]) ++ [_]).length = _
    simp
  · unfold Dsk.pg
    rw [look_put, look_put, look_put, look_put]
    by_cases hn : n = t % 2
    · rw [if_pos hn, if_neg (by omega), if_pos (by omega), if_pos (by omega), List.take_append_drop]
    · rw [if_neg hn, if_neg (by omega), if_neg (by omega), if_neg (by omega), if_neg (by omega)]
theorem Dsk.Up.write2 {D : Dsk} {m n k : Nat} {t : List UInt8} (h : D.Up (2 * m)) (hn : n < m) (hm2 : m ≤ 512) (hk : 1 ≤ k) (hk9 : k ≤ 9) (ht : t.length ≤ 120) : ∃ D', D.pwrite (n : Int) (k : Int) t = (0, D') ∧ D'.Up (2 * m) ∧ D'.cache.length = D.cache.length + 2 ∧ ∀ i, D'.pg i = if i = n then sealL k t else D.pg i := by
  refine ⟨_, h.pwrite (n := n) (k := k) hn (by omega) hk hk9 ht, h.pput hn ht, ?_, fun i => ?_⟩
  · show ((D.cache ++ [_]) ++ [_]).length = _
    simp
  · unfold Dsk.pg
    rw [look_put, look_put, look_put, look_put]
    by_cases hi : i = n
    · rw [if_pos hi, if_neg (by omega), if_pos (by omega), if_pos (by omega), List.take_append_drop]
    · rw [if_neg hi, if_neg (by omega), if_neg (by omega), if_neg (by omega), if_neg (by omega)]
theorem Dsk.Up.barrier2 {D : Dsk} {m : Nat} (h : D.Up (2 * m)) : ∃ D', D.barrier = (0, D') ∧ D'.Up (2 * m) ∧ D'.cache = [] ∧ ∀ n, n < m → D'.pg n = D.pg n := by
  refine ⟨_, h.barrier, h.flush, rfl, fun n hn => ?_⟩
  unfold Dsk.pg
  rw [look_flush h.ok (by rw [h.n]; omega), look_flush h.ok (by rw [h.n]; omega)]
theorem Dsk.Up.lay {D : Dsk} {G : Pgr} {m r : Nat} {U : List Int} (h : D.Up (2 * m)) (hm : 2 ≤ m) (hm2 : m ≤ 512) : ∃ D', G.lay D (r : Int) U = (0, ⟨G.turn + 1, (r : Int), U, [], G.down⟩, D') ∧ D'.Up (2 * m) ∧ D'.cache = [] ∧ ∀ n, n < m → D'.pg n = if n = (G.turn + 1) % 2 then sealL 1 (textH (G.turn + 1) (r : Int) U) else D.pg n := by
  obtain ⟨D1, e1, u1, c1, p1⟩ := h.barrier2
  obtain ⟨D2, e2, u2, c2, p2⟩ := u1.hwrite (t := G.turn + 1) (r := r) (U := U) hm hm2
  obtain ⟨D3, e3, u3, c3, p3⟩ := u2.barrier2
  refine ⟨D3, ?_, u3, c3, fun n hn => ?_⟩
  · unfold Pgr.lay
    rw [e1]
    dsimp only
    rw [e2]
    dsimp only
    rw [e3, if_neg (by simp), if_neg (by simp), if_neg (by simp)]
  · rw [p3 n hn, p2 n]
    by_cases h2 : n = (G.turn + 1) % 2
    · rw [if_pos h2, if_pos h2]
    · rw [if_neg h2, if_neg h2, p1 n hn]
theorem Dsk.Up.format {D : Dsk} {m : Nat} (h : D.Up (2 * m)) (hm : 4 ≤ m) (hm2 : m ≤ 512) : ∃ D', D.format = (0, D') ∧ D'.Up (2 * m) ∧ D'.cache = [] ∧ ∀ n, n < m → D'.pg n = if n = 1 then sealL 1 (textH 1 0 [0, 1]) else D.pg n := by
  obtain ⟨D2, e2, u2, c2, p2⟩ := h.hwrite (t := 1) (r := 0) (U := [0, 1]) (by omega) hm2
  obtain ⟨D3, e3, u3, c3, p3⟩ := u2.barrier2
  refine ⟨D3, ?_, u3, c3, fun n hn => ?_⟩
  · unfold Dsk.format
    have hn := h.n
    rw [show ((0 : Nat) : Int) = 0 from rfl] at e2
    rw [if_neg (by omega), e2]
    dsimp only
    rw [if_neg (by simp), e3]
  · rw [p3 n hn, p2 n]
    rfl
theorem ilen_eq {A S : List Int} (hA : A.Nodup) (hS : S.Nodup) (h : ∀ x, x ∈ A ↔ x ∈ S) : A.length = S.length :=
  Nat.le_antisymm (hA.length_le_of_subset fun x hx => (h x).1 hx) (hS.length_le_of_subset fun x hx => (h x).2 hx)
def pagesI (m : Nat) : List Int := (List.range m).map fun (n : Nat) => (n : Int)
theorem pagesI_mem {m : Nat} {x : Int} : x ∈ pagesI m ↔ 0 ≤ x ∧ x < m := by
  unfold pagesI
  constructor
  · intro h
    obtain ⟨j, hj, rfl⟩ := List.mem_map.1 h
    have := List.mem_range.1 hj
    omega
  · intro h
    exact List.mem_map.2 ⟨x.toNat, List.mem_range.2 (by omega), by omega⟩
theorem pagesI_nodup (m : Nat) : (pagesI m).Nodup := nodup_map (fun a b h => by omega) List.nodup_range
theorem list_len {G : Pgr} {m : Nat} (hn : G.used.Nodup) (hu : ∀ x ∈ G.used, 0 ≤ x ∧ x < m) : (G.list m).length = G.used.length := by
  refine ilen_eq ((List.filter_sublist.nodup (pagesI_nodup m))) hn fun x => ?_
  show x ∈ (pagesI m).filter _ ↔ _
  rw [List.mem_filter, pagesI_mem]
  constructor
  · rintro ⟨_, h⟩; simpa using h
  · intro h; exact ⟨hu x h, by simpa using h⟩
/-- The first ones that are handed out. -/
def frs (j : Nat) : List Int := (List.range j).map fun (n : Nat) => ((n + 2 : Nat) : Int)
theorem frs_succ (j : Nat) : frs (j + 1) = frs j ++ [((j + 2 : Nat) : Int)] := by
  unfold frs
  rw [List.range_succ, List.map_append]; rfl
/-- How many are left. -/
def Pgr.left (G : Pgr) (m : Nat) : Nat := ((pagesI m).filter fun x => !decide (x ∈ G.used) && !decide (x ∈ G.fresh)).length
theorem told0 {G : Pgr} : G.told 0 = G := by
  unfold Pgr.told
  cases G
  simp
theorem Dsk.Up.gwrite {D : Dsk} {G : Pgr} {m n k : Nat} {t : List UInt8} (h : D.Up (2 * m)) (hd : G.down = false) (hn : n < m) (hf : (n : Int) ∈ G.fresh) (hm2 : m ≤ 512) (hk : 1 ≤ k) (hk9 : k ≤ 9) (ht : t.length ≤ 120) :
    ∃ D', G.write D (n : Int) (k : Int) t = (0, G, D') ∧ D'.Up (2 * m) ∧ D'.cache.length = D.cache.length + 2 ∧ ∀ i, D'.pg i = if i = n then sealL k t else D.pg i := by
  obtain ⟨D', e, u, c, p⟩ := h.write2 (n := n) (k := k) hn hm2 hk hk9 ht
  refine ⟨D', ?_, u, c, p⟩
  unfold Pgr.write
  rw [if_neg (by rw [hd]; decide), if_neg (by simpa using hf), e]
  dsimp only
  rw [told0]
theorem Dsk.Up.gcommit {D : Dsk} {G : Pgr} {m r : Nat} (h : D.Up (2 * m)) (hd : G.down = false) (hm : 2 ≤ m) (hm2 : m ≤ 512) (hr : mayR (addAll G.used G.fresh) (r : Int) = true) :
    ∃ D', G.commit D (r : Int) = (0, ⟨G.turn + 1, (r : Int), addAll G.used G.fresh, [], false⟩, D') ∧ D'.Up (2 * m) ∧ D'.cache = [] ∧ ∀ n, n < m → D'.pg n = if n = (G.turn + 1) % 2 then sealL 1 (textH (G.turn + 1) (r : Int) (addAll G.used G.fresh)) else D.pg n := by
  obtain ⟨D', e, u, c, p⟩ := h.lay (G := G) (r := r) (U := addAll G.used G.fresh) hm hm2
  refine ⟨D', ?_, u, c, p⟩
  unfold Pgr.commit
  rw [if_neg (by rw [hd]; decide), if_neg (by rw [hr]; decide), e, hd]
theorem Dsk.Up.readH {D : Dsk} {m n t r : Nat} {U : List Int} (h : D.Up (2 * m)) (hp : D.pg n = sealL 1 (textH t (r : Int) U)) (hn2 : n < 2) (hm : 2 ≤ m) (ht : 0 < t ∧ t < 281474976710656) (hn : t % 2 = n) (hr : r < 65536) (hm2 : m ≤ 512) (hU : ∀ x ∈ U, 0 ≤ x ∧ x < m) (h0 : (0 : Int) ∈ U) (h1 : (1 : Int) ∈ U) (hmay : mayR U r = true) :
    ∃ V, readH D n = some (t, (r : Int), V) ∧ (∀ x, x ∈ V ↔ x ∈ U) := by
  obtain ⟨V, e, hV⟩ := hparse_text (n := n) ht hn hr hm2 hU h0 h1 hmay
  refine ⟨V, ?_, hV⟩
  have hdn : D.n / 2 = m := by have := h.n; omega
  have e2 : D.pread (n : Int) = (1, textH t (r : Int) U, 0) := by
    rw [h.pread (by omega) (by omega)]
    show openR (D.pg n) = _
    rw [hp]
    exact open_seal (k := 1) (by decide) (by decide) (by rw [textH_len]; decide)
  unfold AM.readH
  rw [e2, hdn, if_neg (by simp [textH_len])]
  exact e
end Go.AM
set_option linter.unusedVariables false
set_option linter.unusedSimpArgs false
set_option maxRecDepth 100000
namespace Go.AM.G
open Go Go.AM Go.Proofs
attribute [local irreducible] run bin un ld st box newV mkS fldA fld ixA ix slc slc3 build buildS cv cvS ap cpy lenV gOp pickV b2 aIf aChk evalK resume iterD Option.bind

section
variable {B B0 H0 H : AH} {L : List (Nat × Blk)}
theorem PK.ptr {p dv : Value} {G : Pgr} {D : Dsk} {Ls : List (Nat × Blk)} (h : PK p dv G D Ls) : ∃ b, p = ptr b 0 := by obtain ⟨pb, mb, fv, Lf, Ld, hp, _⟩ := h; exact ⟨pb, hp⟩
/-- A new disk with a pager. -/
theorem Format_up {dv : Value} {D : Dsk} {Ls : List (Nat × Blk)} {m : Nat} (hD : DK dv D Ls) (hU : D.Up (2 * m)) (hm : 4 ≤ m) (hm2 : m ≤ 512) (hc : D.cache.length < 100000) (hS : St H0 B0 B (Ls ++ L) H) :
    Ev (fun k _ => rn k 8 [dv] H) (fun r => ∃ b D', PgP H0 B0 B L (ptr b 0) dv (.tuple #[ptr b 0, .int .i64 0]) ⟨1, 0, [0, 1], [], false⟩ D' r ∧ D'.Up (2 * m) ∧ D'.cache = [] ∧ ∀ n, n < m → D'.pg n = if n = 1 then sealL 1 (textH 1 0 [0, 1]) else D.pg n) := by
  obtain ⟨D', e, u, c, pg⟩ := hU.format hm hm2
  refine (Format_spec hD hU.ok (by omega) hS).mono ?_
  rintro r (⟨h, _⟩ | ⟨_, p, hp⟩)
  · rw [e] at h; exact (h rfl).elim
  · rw [e] at hp
    obtain ⟨hv, Ls', B', hm', hP, hS'⟩ := hp
    obtain ⟨b, rfl⟩ := hP.ptr
    exact ⟨b, D', ⟨hv, Ls', B', hm', hP, hS'⟩, u, c, pg⟩
theorem examples_spec (hS : St H0 B0 B L H) : Ev (fun k _ => rn k 6 [] H) (fun r => r.1 = .bool true ∧ ∃ B', MoC B B' ∧ St H0 B0 B' L r.2) := by
  refine Ev.fn (fun k => f6_eq k H) ?_
  refine Ev.b2 (New_spec (n := 8) (by decide) (by decide) hS) ?_
  rintro _ H1 ⟨p1, Ls1, B1, rfl, hm1, hD1, hS1⟩
  obtain ⟨d1, rfl⟩ := hD1.ptr
  dsimp only at hS1
  clear hS
  repeat (first | refine Ev.s ?_ | refine Ev.newC fun _ _ _ => ?_ | refine Ev.boxC fun _ _ _ => ?_ | refine Ev.stC fun _ _ => ?_ | refine Ev.sc (by omega) ?_ | refine Ev.scg (by omega) ?_)
  refine Ev.b2 (New_spec (n := 6) (by decide) (by decide) hS1) ?_
  rintro _ H2 ⟨p2, Ls2, B2, rfl, hm2, hD2, hS2⟩
  obtain ⟨d2, rfl⟩ := hD2.ptr
  dsimp only at hS2
  clear hS1
  repeat (first | refine Ev.s ?_ | refine Ev.newC fun _ _ _ => ?_ | refine Ev.boxC fun _ _ _ => ?_ | refine Ev.stC fun _ _ => ?_ | refine Ev.sc (by omega) ?_ | refine Ev.scg (by omega) ?_)
  refine Ev.b2 (Format_spec hD2 (Dsk.ok_new (by decide) (by decide)) (by decide) hS2) ?_
  have e6 : (Dsk.new 6).format = (1, Dsk.new 6) := rfl
  rw [e6]
  clear hS2
  rintro _ H3 (⟨_, rfl, Ls3, B3, hm3, hD3, hS3⟩ | ⟨h, _⟩)
  case inr => cases h
  dsimp only at hS3
  repeat (first | refine Ev.s ?_ | refine Ev.newC fun _ _ _ => ?_ | refine Ev.boxC fun _ _ _ => ?_ | refine Ev.stC fun _ _ => ?_ | refine Ev.sc (by omega) ?_ | refine Ev.scg (by omega) ?_)
  have hS4 : St H0 B0 B3 (Ls1 ++ (Ls3 ++ L)) H3 := hS3.perm (permA Ls3 Ls1 L)
  clear hS3
  refine Ev.b2 (Format_up (m := 4) hD1 (Dsk.up_new (by decide) (by decide)) (by decide) (by decide) (by decide) hS4) ?_
  clear hS4
  rintro _ H5 ⟨b, D5, ⟨rfl, Ls5, B5, hm5, hP5, hS5⟩, u5, c5, pg5⟩
  dsimp only at hS5
  repeat (first | refine Ev.s ?_ | refine Ev.newC fun _ _ _ => ?_ | refine Ev.boxC fun _ _ _ => ?_ | refine Ev.stC fun _ _ => ?_ | refine Ev.sc (by omega) ?_ | refine Ev.scg (by omega) ?_)
  refine Ev.b2 (Alloc_spec hP5 u5.ok (by decide) hS5) ?_
  clear hS5
  rw [show D5.n / 2 = 4 by rw [u5.n], show Pgr.alloc ⟨1, 0, [0, 1], [], false⟩ 4 = (2, 0, ⟨1, 0, [0, 1], [2], false⟩) from rfl]
  rintro _ H6 ⟨rfl, Ls6, B6, hm6, hP6, hS6⟩
  dsimp only at hS6
  repeat (first | refine Ev.s ?_ | refine Ev.newC fun _ _ _ => ?_ | refine Ev.boxC fun _ _ _ => ?_ | refine Ev.stC fun _ _ => ?_ | refine Ev.sc (by omega) ?_ | refine Ev.scg (by omega) ?_)
  obtain ⟨D7, e7, u7, c7, pg7⟩ := u5.gwrite (G := ⟨1, 0, [0, 1], [2], false⟩) (n := 2) (k := 2) (t := [120]) rfl (by decide) (by decide) (by decide) (by decide) (by decide) (by decide)
  refine Ev.b2 (Write_specP (n := 2) (kind := 2) (t := [120]) hP6 u5.ok (by rw [c5]; decide) (by decide) (by decide) (by decide) hS6) ?_
  clear hS6
  rw [show Pgr.write ⟨1, 0, [0, 1], [2], false⟩ D5 2 2 [120] = _ from e7]
  rintro _ H7 ⟨rfl, Ls7, B7, hm7, hP7, hS7⟩
  dsimp only at hS7
  obtain ⟨D8, e8, u8, c8, pg8⟩ := u7.gcommit (G := ⟨1, 0, [0, 1], [2], false⟩) (r := 2) rfl (by decide) (by decide) (by decide)
  refine Ev.b2 (Commit_spec (root := 2) (m := 4) hP7 u7.ok (show Pgr.OK ⟨1, 0, [0, 1], [2], false⟩ 4 from ⟨by decide, by decide, by decide, by decide, by decide, by decide, by decide⟩) (by rw [c7, c5]; decide) hS7) ?_
  clear hS7
  rw [show Pgr.commit ⟨1, 0, [0, 1], [2], false⟩ D7 2 = _ from e8]
  rintro _ H8 ⟨rfl, Ls8, B8, hm8, hP8, hS8⟩
  dsimp only at hS8
  have hpg1 : D8.pg 1 = sealL 1 (textH 1 ((0 : Nat) : Int) [0, 1]) := by
    rw [pg8 1 (by decide), if_neg (by decide), pg7 1, if_neg (by decide), pg5 1 (by decide), if_pos rfl]; rfl
  have hpg0 : D8.pg 0 = sealL 1 (textH 2 ((2 : Nat) : Int) [0, 1, 2]) := by
    rw [pg8 0 (by decide), if_pos (by decide)]; rfl
  obtain ⟨V0, r0, hV0⟩ := u8.readH hpg0 (by decide) (by decide) (by decide) (by decide) (by decide) (by decide) (by decide) (by decide) (by decide) (by decide)
  obtain ⟨V1, r1, hV1⟩ := u8.readH hpg1 (by decide) (by decide) (by decide) (by decide) (by decide) (by decide) (by decide) (by decide) (by decide) (by decide)
  have ho : openD D8 = (0, some (2, ((2 : Nat) : Int), V0)) := by
    unfold openD
    have h8n := u8.n
    rw [if_neg (by omega), if_neg (by rw [u8.dn]; decide), r0, r1]
    rfl
  obtain ⟨pb8, mb8, fv8, Lf8, Ld8, hp8, hD8, hF8, rfl⟩ := hP8
  have hS9 : St H0 B0 B8 (Ld8 ++ (((pb8, _) :: (mb8, _) :: (Lf8 ++ (Ls3 ++ L))))) H8 := st_toD hS8
  clear hS8
  refine Ev.b2 (pgOpen_spec hD8 u8.ok (by rw [c8]; decide) hS9) ?_
  clear hS9
  rw [ho]
  rintro _ H10 (⟨h, _⟩ | ⟨t, rt, U, q, h, rfl, Ls10, B10, hm10, hP10, hS10⟩)
  · cases h
  cases h
  dsimp only at hS10
  obtain ⟨qb, rfl⟩ := hP10.ptr
  repeat (first | refine Ev.s ?_ | refine Ev.newC fun _ _ _ => ?_ | refine Ev.boxC fun _ _ _ => ?_ | refine Ev.stC fun _ _ => ?_ | refine Ev.sc (by omega) ?_ | refine Ev.scg (by omega) ?_)
  dsimp only
  have en : bin Tryd.prog .eql 27 (.pointer none) (.pointer none) = some (.bool true) := by kernel_rfl
  refine Ev.prim en ?_
  repeat (first | refine Ev.s ?_ | refine Ev.newC fun _ _ _ => ?_ | refine Ev.boxC fun _ _ _ => ?_ | refine Ev.stC fun _ _ => ?_ | refine Ev.sc (by omega) ?_ | refine Ev.scg (by omega) ?_)
  refine Ev.b2 (Root_spec hP10 hS10 fun x hx => List.mem_append_left _ hx) ?_
  rintro _ _ h
  cases h
  repeat (first | refine Ev.s ?_ | refine Ev.newC fun _ _ _ => ?_ | refine Ev.boxC fun _ _ _ => ?_ | refine Ev.stC fun _ _ => ?_ | refine Ev.sc (by omega) ?_ | refine Ev.scg (by omega) ?_)
  refine Ev.b2 (Turn_spec hP10 hS10 fun x hx => List.mem_append_left _ hx) ?_
  rintro _ _ h
  cases h
  repeat (first | refine Ev.s ?_ | refine Ev.newC fun _ _ _ => ?_ | refine Ev.boxC fun _ _ _ => ?_ | refine Ev.stC fun _ _ => ?_ | refine Ev.sc (by omega) ?_ | refine Ev.scg (by omega) ?_)
  refine Ev.ret ⟨rfl, B10, ⟨hm1.mo.trans (hm2.mo.trans (hm3.mo.trans (hm5.mo.trans (hm6.mo.trans (hm7.mo.trans (hm8.mo.trans hm10.mo))))))⟩, ?_⟩
  have h11 := hS10.drop (List.sublist_append_right Ls10 _)
  have h12 := h11.drop1.drop1
  exact (h12.drop (List.sublist_append_right Lf8 _)).drop (List.sublist_append_right Ls3 _)
end
end Go.AM.G
