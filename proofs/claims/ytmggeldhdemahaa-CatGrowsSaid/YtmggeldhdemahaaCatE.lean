/-
  A version's place in a list, a list with one more and a list without one: what the program's own functions say, in plain words.
-/
import Derived.Test.YtmggeldhdemahaaCatB
import Derived.Test.YtmggeldhdemahaaPCatx4
import Derived.Test.YtmggeldhdemahaaPCatx5
import Derived.Test.YtmggeldhdemahaaPCatx12
import Derived.Test.YtmggeldhdemahaaPCatx13
namespace Go.Proofs.Ytmggeldhdemahaa.PCat
open Go.RowKit Go.Proofs.YtmggeldhdemahaaW.PrintWords Go.Proofs.YtmggeldhdemahaaW.PrintLast Go.Proofs.YtmggeldhdemahaaW.PrintMore
set_option linter.unusedVariables false

def findE (l : List V) (a : Int) : Int × Bool := if a = 0 then (mx ((l.length : Int) - 1) 0, decide ((l.length : Int) > 0)) else (mx (cat_Find.ix l a 0) 0, decide (cat_Find.ix l a 0 ≥ 0))
theorem mx_pos {x : Int} (h : 0 ≤ x) : mx x 0 = x := by unfold mx; split <;> omega
theorem find_is (n : Int) (l : List V) (a : Int) (hl : l.length ≤ 15) : cat_Find.f n l a = some (findE l a) := by
  unfold cat_Find.f findE
  split
  · rw [w64 (by omega) (by omega)]
  · rfl
theorem ix_range (a : Int) : ∀ (l : List V) (i : Nat), cat_Find.ix l a i = -1 ∨ ((i : Int) ≤ cat_Find.ix l a i ∧ cat_Find.ix l a i < (i : Int) + (l.length : Int)) := by
  intro l
  induction l with
  | nil => intro i; exact .inl rfl
  | cons v r ih =>
    intro i
    simp only [cat_Find.ix, List.length_cons]
    split
    · right; omega
    · rcases ih (i + 1) with h | h
      · exact .inl h
      · right; omega
def withB (n : Int) (l : List V) (tg : Int) : Bool := rightB n l && (decide (l.length ≠ 12) && (decide (n ≠ 16777216) && rootB tg))
theorem with_is (n : Int) (l : List V) (tg : Int) (hl : l.length ≤ 15) : Ev (fun k => cat_With.f k n l tg) (if withB n l tg = true then (n + 1, l ++ [⟨n, tg⟩], true) else (0, [], false)) := by
  unfold cat_With.f withB
  refine Ev.bind (right_is n l (by omega)) ?_
  cases hb : rightB n l with
  | false => exact Ev.ifn (by decide) (Ev.now _)
  | true =>
    have hp := rightB_parts hb
    refine Ev.ifp rfl ?_
    rw [Bool.true_and]
    by_cases h1 : (l.length : Int) = 12
    · rw [decide_eq_false (show ¬ l.length ≠ 12 by omega), Bool.false_and]
      exact Ev.ifp h1 (Ev.now _)
    · refine Ev.ifn h1 ?_
      rw [decide_eq_true (show l.length ≠ 12 by omega), Bool.true_and]
      by_cases h2 : n = 16777216
      · rw [decide_eq_false (show ¬ n ≠ 16777216 by omega), Bool.false_and]
        exact Ev.ifp h2 (Ev.now _)
      · refine Ev.ifn h2 ?_
        rw [decide_eq_true h2, Bool.true_and]
        refine Ev.bindc (root_is tg) ?_
        cases rootB tg with
        | false => exact Ev.ifn (by decide) (Ev.now _)
        | true =>
          refine Ev.ifp rfl ?_
          refine Ev.bindc (a := l) (by unfold cat_Version_32.f; rw [if_pos (by omega)]) ?_
          refine Ev.bindc (a := [⟨n, tg⟩]) rfl ?_
          refine Ev.ifp (by simp only [List.length_cons, List.length_nil]; omega) ?_
          rw [w64 (by omega) (by omega), if_pos rfl]
          exact Ev.now _
def withoutB (n : Int) (l : List V) (a : Int) : Bool := rightB n l && ((findE l a).2 && (decide (a ≠ 0) && decide ((findE l a).1 ≠ (l.length : Int) - 1)))
theorem findE_range {l : List V} {a : Int} (h : (findE l a).2 = true) : 0 ≤ (findE l a).1 ∧ (findE l a).1 < (l.length : Int) := by
  revert h
  unfold findE
  split
  · intro h
    have h := of_decide_eq_true h
    show 0 ≤ mx _ 0 ∧ mx _ 0 < _
    rw [mx_pos (by omega)]
    omega
  · intro h
    have h := of_decide_eq_true h
    show 0 ≤ mx _ 0 ∧ mx _ 0 < _
    rw [mx_pos (by omega)]
    have := ix_range a l 0
    omega
theorem without_is (n : Int) (l : List V) (a : Int) (hl : l.length ≤ 15) : Ev (fun k => cat_Without.f k n l a) (if withoutB n l a = true then (n, l.eraseIdx (findE l a).1.toNat, true) else (0, [], false)) := by
  have out : ∀ i, Ev (fun k => cat_Without.j0 k i true n l) (0, [], false) := fun i => Ev.step (f := fun _ => some (0, [], false)) (fun k => by simp only [cat_Without.j0, if_true]) (Ev.now _)
  unfold cat_Without.f
  refine Ev.bindc (find_is n l a hl) (Ev.bind (right_is n l (by omega)) ?_)
  unfold withoutB
  cases hb : rightB n l with
  | false => exact Ev.ifn (by decide) (out _)
  | true =>
    refine Ev.ifp rfl ?_
    rw [Bool.true_and]
    cases hf : (findE l a).2 with
    | false => exact Ev.ifn (by decide) (out _)
    | true =>
      have hr := findE_range hf
      refine Ev.ifp rfl ?_
      rw [Bool.true_and]
      by_cases h0 : a = 0
      · rw [decide_eq_false (show ¬ a ≠ 0 by omega), Bool.false_and]
        exact Ev.ifp h0 (out _)
      · refine Ev.ifn h0 ?_
        rw [decide_eq_true h0, Bool.true_and, w64 (show -9223372036854775808 ≤ (l.length : Int) - 1 by omega) (by omega)]
        by_cases h1 : (findE l a).1 = (l.length : Int) - 1
        · rw [beq_iff_eq.mpr h1, decide_eq_false (show ¬ (findE l a).1 ≠ (l.length : Int) - 1 by omega)]
          exact out _
        · rw [beq_eq_false_iff_ne.mpr h1, decide_eq_true h1, if_pos rfl]
          refine Ev.step (f := fun k => (cat_Version_32.f l).bind fun t297 => ((cat_Version_33.f t297 (findE l a).1 (wrap64 ((findE l a).1 + 1))).bind fun t300 => (some (n, t300, true)))) (fun k => ?_) ?_
          · simp only [cat_Without.j0, reduceCtorEq, if_false]
          · refine Ev.bindc (a := l) (by unfold cat_Version_32.f; rw [if_pos (by omega)]) ?_
            refine Ev.bindc (a := l.eraseIdx (findE l a).1.toNat) (by unfold cat_Version_33.f; rw [if_pos hr.1, if_pos hr.2, if_pos rfl]) (Ev.now _)
end Go.Proofs.Ytmggeldhdemahaa.PCat
