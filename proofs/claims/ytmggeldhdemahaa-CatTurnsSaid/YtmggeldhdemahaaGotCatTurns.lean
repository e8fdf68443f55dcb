/-
  The law CatTurns holds of every list, number and root: its walk, out of the printed contract and the plain law.
-/
import Derived.Test.YtmggeldhdemahaaCatC
import Derived.Test.YtmggeldhdemahaaCatE
import Derived.Test.YtmggeldhdemahaaPCatx14
import Derived.Test.YtmggeldhdemahaaOpenPCat
namespace Go.Proofs.Ytmggeldhdemahaa.PCat
open Go.RowKit Go.Proofs.YtmggeldhdemahaaW.PrintWords Go.Proofs.YtmggeldhdemahaaW.PrintLast Go.Proofs.YtmggeldhdemahaaW.PrintMore
set_option linter.unusedVariables false

/-! ### find -/
theorem rfind_loop (l : List V) (hl : l.length ≤ 15) (n a : Int) (ha : a ≠ 0) : ∀ (r : List V) (i : Nat), l.drop i = r → Ev (fun k => astrolaberef23_Find.l0 k a (i : Int) n (l.map cv)) (mx (cat_Find.ix r a i) 0, decide (cat_Find.ix r a i ≥ 0)) := by
  intro r
  induction r with
  | nil =>
    intro i h
    have hi := drop_end h
    refine Ev.step (f := fun k => astrolaberef23_Find.j2 k a (i : Int) false n (l.map cv)) (fun k => ?_) ?_
    · simp only [astrolaberef23_Find.l0, List.length_map]
      rw [if_neg (by omega)]
    · refine Ev.step (f := fun _ => some (0, false)) (fun k => ?_) (Ev.now _)
      simp only [astrolaberef23_Find.j2, reduceCtorEq, if_false]
  | cons v r ih =>
    intro i h
    obtain ⟨hi, hv, hr⟩ := rd_at h
    have hvc : rd_T58 (l.map cv) (i : Int) = cv v := by rw [rd_cv l i hi, hv]
    have e1 : wrap64 ((i : Int) + 1) = ((i + 1 : Nat) : Int) := by rw [w64 (by omega) (by omega)]; rfl
    refine Ev.step (f := fun k => astrolaberef23_Find.j2 k a (i : Int) true n (l.map cv)) (fun k => ?_) ?_
    · simp only [astrolaberef23_Find.l0, List.length_map]
      rw [if_pos (by omega), bne_iff_ne.mpr ha]
    · refine Ev.step (f := fun k => if v.f0 = a then some ((i : Int), true) else astrolaberef23_Find.l0 k a ((i + 1 : Nat) : Int) n (l.map cv)) (fun k => ?_) ?_
      · simp only [astrolaberef23_Find.j2, List.length_map, if_true, e1]
        rw [if_pos (by omega), if_pos (by omega), hvc]
        rfl
      · simp only [cat_Find.ix]
        by_cases hva : v.f0 = a
        · simp only [if_pos hva]
          rw [mx_pos (by omega), decide_eq_true (by omega)]
          exact Ev.now _
        · simp only [if_neg hva]
          exact ih (i + 1) hr
theorem rfind_is (n : Int) (l : List V) (a : Int) (hl : l.length ≤ 15) : Ev (fun k => astrolaberef23_Find.f k n (l.map cv) a) (findE l a) := by
  unfold astrolaberef23_Find.f
  rw [List.length_map]
  by_cases ha : a = 0
  · subst ha
    refine Ev.ifp rfl ?_
    unfold findE
    rw [if_pos rfl]
    by_cases h : (l.length : Int) > 0
    · rw [decide_eq_true h, mx_pos (by omega)]
      refine Ev.step (f := fun _ => some ((l.length : Int) - 1, true)) (fun k => ?_) (Ev.now _)
      simp only [astrolaberef23_Find.j0, if_true, List.length_map]
      rw [w64 (by omega) (by omega)]
    · obtain rfl : l = [] := List.eq_nil_of_length_eq_zero (by omega)
      exact Ev.of (astrolaberef23_Find.mono_l · |>.1 _ _ _ _) (k := 3) rfl
  · refine Ev.ifn ha ?_
    have := rfind_loop l hl n a ha l 0 rfl
    unfold findE
    rw [if_neg ha]
    refine Ev.step (f := fun k => astrolaberef23_Find.l0 k a 0 n (l.map cv)) (fun k => ?_) this
    simp only [astrolaberef23_Find.j0, reduceCtorEq, if_false]

/-! ### with -/
theorem rwith_is (n : Int) (l : List V) (tg : Int) (hl : l.length ≤ 15) : Ev (fun k => astrolaberef23_With.f k n (l.map cv) tg) (if withB n l tg = true then (n + 1, (l ++ [(⟨n, tg⟩ : V)]).map cv, true) else (0, [], false)) := by
  unfold astrolaberef23_With.f withB
  refine Ev.bind (rright_is n l (by omega)) ?_
  cases hb : rightB n l with
  | false => exact Ev.ifn (by decide) (Ev.now _)
  | true =>
    have hp := rightB_parts hb
    refine Ev.ifp rfl ?_
    rw [Bool.true_and, List.length_map]
    by_cases h1 : (l.length : Int) = 12
    · rw [decide_eq_false (show ¬ l.length ≠ 12 by omega), Bool.false_and]
      exact Ev.ifp h1 (Ev.now _)
    · refine Ev.ifn h1 ?_
      rw [decide_eq_true (show l.length ≠ 12 by omega), Bool.true_and]
      by_cases h2 : n = 16777216
      · rw [decide_eq_false (show ¬ n ≠ 16777216 by omega), Bool.false_and]
        exact Ev.ifp h2 (Ev.now _)
      · refine Ev.ifn h2 ?_
        rw [decide_eq_true h2, Bool.true_and]
        refine Ev.bindc (rroot_is tg) ?_
        cases rootB tg with
        | false => exact Ev.ifn (by decide) (Ev.now _)
        | true =>
          refine Ev.ifp rfl (Ev.ifp (by simp only [List.length_nil]; omega) ?_)
          refine Ev.bindc (a := l.map cv) rfl ?_
          refine Ev.ifp (by rw [List.length_map]; omega) ?_
          rw [w64 (by omega) (by omega), if_pos rfl, List.map_append]
          exact Ev.now _

/-! ### without -/
theorem rwithout_is (n : Int) (l : List V) (a : Int) (hl : l.length ≤ 15) : Ev (fun k => astrolaberef23_Without.f k n (l.map cv) a) (if withoutB n l a = true then (n, (l.eraseIdx (findE l a).1.toNat).map cv, true) else (0, [], false)) := by
  unfold astrolaberef23_Without.f
  refine Ev.bind (rfind_is n l a hl) (Ev.bind (rright_is n l (by omega)) ?_)
  unfold withoutB
  cases hb : rightB n l with
  | false => exact Ev.ifn (by decide) (Ev.now _)
  | true =>
    refine Ev.ifp rfl ?_
    rw [Bool.true_and]
    cases hf : (findE l a).2 with
    | false => exact Ev.ifn (by decide) (Ev.now _)
    | true =>
      have hr := findE_range hf
      refine Ev.ifp rfl ?_
      rw [Bool.true_and, List.length_map]
      by_cases h0 : a = 0
      · rw [decide_eq_false (show ¬ a ≠ 0 by omega), Bool.false_and]
        exact Ev.ifp h0 (Ev.now _)
      · refine Ev.ifn h0 ?_
        rw [decide_eq_true h0, Bool.true_and, w64 (show -9223372036854775808 ≤ (l.length : Int) - 1 by omega) (by omega)]
        by_cases h1 : (findE l a).1 = (l.length : Int) - 1
        · rw [decide_eq_false (show ¬ (findE l a).1 ≠ (l.length : Int) - 1 by omega)]
          exact Ev.ifp h1 (Ev.now _)
        · rw [decide_eq_true h1, if_pos rfl, w64 (show -9223372036854775808 ≤ (findE l a).1 + 1 by omega) (by omega)]
          refine Ev.ifn h1 (Ev.ifp hr.1 (Ev.ifp (by omega) ?_))
          refine Ev.bindc rfl (Ev.ifp (by simp only [List.length_nil, List.length_take, List.length_map]; omega) ?_)
          refine Ev.bindc rfl (Ev.ifp (by omega) (Ev.ifp (by omega) ?_))
          refine Ev.bindc rfl (Ev.ifp (by simp only [List.nil_append, List.length_take, List.length_drop, List.length_map]; omega) ?_)
          rw [List.nil_append, ← List.map_take, ← List.map_drop, ← List.map_append, List.eraseIdx_eq_take_drop_succ, show ((findE l a).1 + 1).toNat = (findE l a).1.toNat + 1 by omega]
          exact Ev.now _

theorem turns_pure (n : Int) (l : List V) (a tg : Int) : ∃ k, astrolabelaw23_CatTurns.f k n l a tg = some true := by
  apply Ev.rounds
  unfold astrolabelaw23_CatTurns.f
  refine Ev.bind examples_is (Ev.ifp rfl (Ev.bindc (few_is n l) ?_))
  have hl : (l.take 15).length ≤ 15 := by rw [List.length_take]; omega
  revert hl
  generalize l.take 15 = l
  intro hl
  refine Ev.bind (ref_is n l (by omega)) (Ev.bindc (find_is n l a hl) (Ev.bind (rfind_is n l a hl) (Ev.bind (with_is n l tg hl) (Ev.bind (rwith_is n l tg hl) (Ev.bind (without_is n l a hl) (Ev.bind (rwithout_is n l a hl) ?_))))))
  have h1 : Ev (fun k => astrolabelaw23_lists.f k (if withB n l tg = true then (n + 1, l ++ [(⟨n, tg⟩ : V)], true) else ((0 : Int), [], false)).1 (if withB n l tg = true then (n + 1, l ++ [(⟨n, tg⟩ : V)], true) else ((0 : Int), [], false)).2.1
      (if withB n l tg = true then (n + 1, (l ++ [(⟨n, tg⟩ : V)]).map cv, true) else ((0 : Int), [], false)).1 (if withB n l tg = true then (n + 1, (l ++ [(⟨n, tg⟩ : V)]).map cv, true) else ((0 : Int), [], false)).2.1) true := by
    cases withB n l tg with
    | true => exact lists_is (n + 1) (l ++ [(⟨n, tg⟩ : V)]) (by rw [List.length_append]; simp only [List.length_cons, List.length_nil]; omega)
    | false => exact lists_is 0 [] (by simp)
  have h2 : Ev (fun k => astrolabelaw23_lists.f k (if withoutB n l a = true then (n, l.eraseIdx (findE l a).1.toNat, true) else ((0 : Int), [], false)).1 (if withoutB n l a = true then (n, l.eraseIdx (findE l a).1.toNat, true) else ((0 : Int), [], false)).2.1
      (if withoutB n l a = true then (n, (l.eraseIdx (findE l a).1.toNat).map cv, true) else ((0 : Int), [], false)).1 (if withoutB n l a = true then (n, (l.eraseIdx (findE l a).1.toNat).map cv, true) else ((0 : Int), [], false)).2.1) true := by
    cases withoutB n l a with
    | true => exact lists_is n (l.eraseIdx (findE l a).1.toNat) (by have := List.length_eraseIdx_le l (findE l a).1.toNat; omega)
    | false => exact lists_is 0 [] (by simp)
  refine Ev.bind h1 (Ev.bind h2 (Ev.bind (lists_is n l (by omega)) ?_))
  refine Ev.ifp rfl (Ev.ifp (beq_self_eq_true _) (Ev.ifp rfl (Ev.ifp ?_ (Ev.ifp rfl (Ev.ifp ?_ (Ev.now _))))))
  · cases withB n l tg <;> rfl
  · cases withoutB n l a <;> rfl
end Go.Proofs.Ytmggeldhdemahaa.PCat
namespace Go.Proofs.Ytmggeldhdemahaa.GotCatTurns
set_option linter.unusedVariables false
open Go.RowKit Go.Proofs.Ytmggeldhdemahaa.PCat Go.Proofs.YtmggeldhdemahaaW.PrintWords
theorem walk (w : World) (x0 : S24) (A0_1 : Option Addr) (c0_1 : Nat) (hr0_1 : Kd.C k46 w A0_1 x0.f1.length x0.f1) (hc0_1 : x0.f1.length ≤ c0_1) (g0 : gT24 x0) (a1 : Int) (w1 : (Lit.int .i64 a1).wf = true) (a2 : Int) (w2 : (Lit.int .i64 a2).wf = true) :
    Calls Try.prog 5 #[.agg #[.int .i64 x0.f0, .slice A0_1 x0.f1.length c0_1], .int .i64 a1, .int .i64 a2] w fun e w' => e = .returned (.bool true) ∧ Below w.heap.size w w' := by
  obtain ⟨k, h⟩ := turns_pure x0.f0 x0.f1 a1 a2
  exact astrolabelaw23_CatTurns.calls k x0.f0 A0_1 c0_1 x0.f1 a1 a2 true w hr0_1 hc0_1 rfl h
end Go.Proofs.Ytmggeldhdemahaa.GotCatTurns
