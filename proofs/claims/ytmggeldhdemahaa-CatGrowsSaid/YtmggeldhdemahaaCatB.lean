/-
  The chapter's examples, a list cut at 15 versions, and what follows for a right list's numbers.
-/
import Derived.Test.YtmggeldhdemahaaCatA
import Derived.Test.YtmggeldhdemahaaPCatx5
namespace Go.Proofs.Ytmggeldhdemahaa.PCat
open Go.RowKit Go.Proofs.YtmggeldhdemahaaW.PrintWords Go.Proofs.YtmggeldhdemahaaW.PrintLast Go.Proofs.YtmggeldhdemahaaW.PrintMore
set_option linter.unusedVariables false

theorem examples_is : Ev (fun k => astrolabelaw23_examples.f k) true := Ev.of astrolabelaw23_examples.mono (k := 40) (by decide +kernel)
theorem few_is (n : Int) (l : List V) : astrolabelaw23_few.f n l = some (n, l.take 15) := by
  unfold astrolabelaw23_few.f
  have e : mn (l.length : Int) 15 = ((min l.length 15 : Nat) : Int) := by unfold mn; split <;> omega
  rw [e, if_pos (by omega), if_pos (by omega), Int.toNat_natCast, Option.bind_some]
  have ht : l.take (min l.length 15) = l.take 15 := by
    rcases Nat.le_total l.length 15 with h | h
    · rw [Nat.min_eq_left h, List.take_of_length_le h, List.take_length]
    · rw [Nat.min_eq_right h]
  rw [ht, if_pos (by rw [List.length_take]; simp only [List.length_nil]; omega), List.nil_append]
theorem goodL_root : ∀ (l : List V) (a n : Int), goodL a n l = true → ∀ v ∈ l, rootB v.f1 = true
  | [], _, _, _, v, h => by cases h
  | v :: r, a, n, hg, u, h => by
    simp only [goodL, Bool.and_eq_true] at hg
    rcases List.mem_cons.1 h with h | h
    · rw [h]; exact hg.2.2.1
    · exact goodL_root r _ _ hg.2.2.2 u h
theorem goodL_num : ∀ (l : List V) (a n : Int), goodL a n l = true → ∀ v ∈ l, a < v.f0 ∧ v.f0 < n
  | [], _, _, _, v, h => by cases h
  | v :: r, a, n, hg, u, h => by
    simp only [goodL, Bool.and_eq_true, decide_eq_true_eq] at hg
    rcases List.mem_cons.1 h with h | h
    · rw [h]; exact ⟨hg.1, hg.2.1⟩
    · have := goodL_num r _ _ hg.2.2.2 u h
      exact ⟨by omega, this.2⟩
theorem rightB_parts {n : Int} {l : List V} (h : rightB n l = true) : 1 ≤ n ∧ n ≤ 16777216 ∧ l.length ≤ 12 ∧ goodL 0 n l = true := by
  simp only [rightB, Bool.and_eq_true, decide_eq_true_eq] at h
  exact h
theorem rootB_range {r : Int} (h : rootB r = true) : 0 ≤ r ∧ r ≤ 511 := by
  simp only [rootB, decide_eq_true_eq] at h
  omega
theorem rd_nat (a : List Int) (i : Nat) (x : Int) (h : a[i]? = some x) : rd a (i : Int) = x := by
  unfold rd
  rw [Int.toNat_natCast, List.getD_eq_getElem?_getD, h, Option.getD_some]
end Go.Proofs.Ytmggeldhdemahaa.PCat
