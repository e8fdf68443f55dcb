/-
  The law CatGrows holds of every list of roots and every number: its walk, out of the printed contract and the plain law.
-/
import Derived.Test.YtmggeldhdemahaaCatE
import Derived.Test.YtmggeldhdemahaaPCatx15
namespace Go.Proofs.Ytmggeldhdemahaa.PCat
open Go.RowKit Go.Proofs.YtmggeldhdemahaaW.PrintWords Go.Proofs.YtmggeldhdemahaaW.PrintLast Go.Proofs.YtmggeldhdemahaaW.PrintMore
set_option linter.unusedVariables false

/-! ### versions in a row -/
def seqL : Int → List V → Prop
  | _, [] => True
  | a, v :: r => v.f0 = a + 1 ∧ rootB v.f1 = true ∧ seqL (a + 1) r
theorem seqL_good : ∀ (l : List V) (a n : Int), seqL a l → a + (l.length : Int) < n → goodL a n l = true := by
  intro l
  induction l with
  | nil => intro a n _ _; rfl
  | cons v r ih =>
    intro a n h hn
    obtain ⟨h1, h2, h3⟩ := h
    rw [List.length_cons] at hn
    unfold goodL
    rw [decide_eq_true (show a < v.f0 by omega), decide_eq_true (show v.f0 < n by omega), h2, Bool.true_and, Bool.true_and, Bool.true_and, h1]
    exact ih (a + 1) n h3 (by omega)
theorem seqL_snoc : ∀ (l : List V) (a : Int) (x : Int), seqL a l → rootB x = true → seqL a (l ++ [(⟨a + (l.length : Int) + 1, x⟩ : V)]) := by
  intro l
  induction l with
  | nil => intro a x _ hx; exact ⟨by show a + 0 + 1 = a + 1; omega, hx, trivial⟩
  | cons v r ih =>
    intro a x h hx
    obtain ⟨h1, h2, h3⟩ := h
    refine ⟨h1, h2, ?_⟩
    have := ih (a + 1) x h3 hx
    rw [show a + ((v :: r).length : Int) + 1 = a + 1 + (r.length : Int) + 1 by rw [List.length_cons]; omega]
    exact this
theorem seqL_ix : ∀ (l : List V) (a t : Int) (i : Nat), seqL a l → cat_Find.ix l t i = if a < t ∧ t ≤ a + (l.length : Int) then (i : Int) + (t - a - 1) else -1 := by
  intro l
  induction l with
  | nil => intro a t i _; rw [if_neg (by simp only [List.length_nil]; omega)]; rfl
  | cons v r ih =>
    intro a t i h
    obtain ⟨h1, h2, h3⟩ := h
    simp only [cat_Find.ix, List.length_cons]
    by_cases hv : v.f0 = t
    · rw [if_pos hv, if_pos (by omega)]
      omega
    · rw [if_neg hv, ih (a + 1) t (i + 1) h3]
      by_cases hc : a + 1 < t ∧ t ≤ a + 1 + (r.length : Int)
      · rw [if_pos hc, if_pos (by omega)]
        omega
      · rw [if_neg hc, if_neg (by omega)]
theorem seqL_gone : ∀ (l : List V) (a : Int) (k i : Nat), seqL a l → k < l.length → cat_Find.ix (l.eraseIdx k) (a + (k : Int) + 1) i = -1 := by
  intro l
  induction l with
  | nil => intro a k i _ hk; simp at hk
  | cons v r ih =>
    intro a k i h hk
    obtain ⟨h1, h2, h3⟩ := h
    rw [List.length_cons] at hk
    cases k with
    | zero =>
      rw [List.eraseIdx_cons_zero, seqL_ix r (a + 1) _ i h3, if_neg (by omega)]
    | succ k =>
      rw [List.eraseIdx_cons_succ]
      simp only [cat_Find.ix]
      rw [if_neg (by omega), show a + ((k + 1 : Nat) : Int) + 1 = a + 1 + (k : Int) + 1 by omega]
      exact ih (a + 1) k (i + 1) h3 (by omega)
theorem goodL_weak : ∀ (l : List V) (a b n : Int), b ≤ a → goodL a n l = true → goodL b n l = true := by
  intro l
  cases l with
  | nil => intro a b n _ _; rfl
  | cons v r =>
    intro a b n hb h
    simp only [goodL, Bool.and_eq_true, decide_eq_true_eq] at h ⊢
    exact ⟨by omega, h.2⟩
theorem goodL_erase : ∀ (l : List V) (a n : Int) (k : Nat), goodL a n l = true → goodL a n (l.eraseIdx k) = true := by
  intro l
  induction l with
  | nil => intro a n k _; rfl
  | cons v r ih =>
    intro a n k h
    simp only [goodL, Bool.and_eq_true, decide_eq_true_eq] at h
    cases k with
    | zero =>
      rw [List.eraseIdx_cons_zero]
      exact goodL_weak r v.f0 a n (by omega) h.2.2.2
    | succ k =>
      rw [List.eraseIdx_cons_succ]
      simp only [goodL, Bool.and_eq_true, decide_eq_true_eq]
      exact ⟨h.1, h.2.1, h.2.2.1, ih v.f0 n k h.2.2.2⟩
theorem seqL_right {l : List V} (h : seqL 0 l) (hl : l.length ≤ 12) : rightB ((l.length : Int) + 1) l = true := by
  unfold rightB
  rw [decide_eq_true (by omega), decide_eq_true (by omega), decide_eq_true hl, seqL_good l 0 _ h (by omega)]
  rfl
theorem seqL_findE {l : List V} (h : seqL 0 l) (t : Int) (ht : t ≠ 0) : findE l t = if 0 < t ∧ t ≤ (l.length : Int) then (t - 1, true) else (0, false) := by
  unfold findE
  rw [if_neg ht, seqL_ix l 0 t 0 h]
  by_cases hc : 0 < t ∧ t ≤ (l.length : Int)
  · simp only [if_pos hc, if_pos (show 0 < t ∧ t ≤ 0 + (l.length : Int) by omega)]
    rw [mx_pos (by omega), decide_eq_true (by omega)]
    simp only [Prod.mk.injEq, and_true]
    omega
  · simp only [if_neg hc, if_neg (show ¬ (0 < t ∧ t ≤ 0 + (l.length : Int)) by omega)]
    rfl

/-! ### the end of it -/
theorem grows_end (l : List V) (hl : l.length ≤ 12) (hs : seqL 0 l) (a : Int) (ha : -9223372036854775808 ≤ a ∧ a ≤ 9223372036854775807) (m : Int) (hm : m = (l.length : Int)) (n : Int) (hn : n = (l.length : Int) + 1) :
    Ev (fun k => (cat_Without.f k n l a).bind fun bt376 => (if a < 1 then (astrolabelaw23_CatGrows.j6 k a true m bt376.2.2 true n l bt376.1 bt376.2.1) else (astrolabelaw23_CatGrows.j6 k a true m bt376.2.2 (decide (a ≥ m)) n l bt376.1 bt376.2.1))) true := by
  subst hm hn
  refine Ev.bind (without_is _ l a (by omega)) ?_
  have stop : withoutB ((l.length : Int) + 1) l a = false → ∀ b, b = true → Ev (fun k => astrolabelaw23_CatGrows.j6 k a true (l.length : Int) (if withoutB ((l.length : Int) + 1) l a = true then ((l.length : Int) + 1, l.eraseIdx (findE l a).1.toNat, true) else (0, [], false)).2.2 b ((l.length : Int) + 1) l (if withoutB ((l.length : Int) + 1) l a = true then ((l.length : Int) + 1, l.eraseIdx (findE l a).1.toNat, true) else (0, [], false)).1 (if withoutB ((l.length : Int) + 1) l a = true then ((l.length : Int) + 1, l.eraseIdx (findE l a).1.toNat, true) else (0, [], false)).2.1) true := by
    intro hw b hb
    subst hb
    rw [hw]
    refine Ev.step (f := fun _ => some true) (fun k => ?_) (Ev.now _)
    simp only [astrolabelaw23_CatGrows.j6, if_true, reduceCtorEq, if_false, Bool.not_false]
  have hb := seqL_right hs hl
  by_cases h1 : a < 1
  · refine Ev.ifp h1 (stop ?_ true rfl)
    unfold withoutB
    rw [hb, Bool.true_and]
    by_cases h0 : a = 0
    · rw [decide_eq_false (show ¬ a ≠ 0 by omega), Bool.false_and, Bool.and_false]
    · rw [seqL_findE hs a h0, if_neg (by omega)]
      rfl
  · refine Ev.ifn h1 ?_
    have h0 : a ≠ 0 := by omega
    by_cases h2 : a ≥ (l.length : Int)
    · refine stop ?_ _ (decide_eq_true h2)
      unfold withoutB
      rw [hb, Bool.true_and, seqL_findE hs a h0]
      by_cases h3 : a ≤ (l.length : Int)
      · rw [if_pos (by omega), decide_eq_false (show ¬ (a - 1, true).1 ≠ (l.length : Int) - 1 by show ¬ a - 1 ≠ (l.length : Int) - 1; omega), Bool.and_false, Bool.and_false]
      · rw [if_neg (by omega)]
        rfl
    · have hw : withoutB ((l.length : Int) + 1) l a = true := by
        unfold withoutB
        rw [hb, Bool.true_and, seqL_findE hs a h0, if_pos (by omega), decide_eq_true h0, decide_eq_true (show (a - 1, true).1 ≠ (l.length : Int) - 1 by show a - 1 ≠ (l.length : Int) - 1; omega)]
        rfl
      rw [decide_eq_false h2]
      simp only [if_pos hw]
      have hf : findE l a = (a - 1, true) := by rw [seqL_findE hs a h0, if_pos (by omega)]
      obtain ⟨j, hj⟩ : ∃ j : Nat, a = (j : Int) + 1 := ⟨(a - 1).toNat, by omega⟩
      have hk : (findE l a).1.toNat = j := by rw [hf, hj]; show ((j : Int) + 1 - 1).toNat = j; omega
      rw [hk]
      have hjl : j + 1 < l.length := by omega
      have hel : (l.eraseIdx j).length = l.length - 1 := List.length_eraseIdx_of_lt (by omega)
      have hg := seqL_gone l 0 j 0 hs (by omega)
      rw [Int.zero_add, ← hj] at hg
      have he1 : findE (l.eraseIdx j) a = (0, false) := by
        unfold findE
        rw [if_neg h0, hg]
        rfl
      have he2 : findE (l.eraseIdx j) 0 = ((l.length : Int) - 2, true) := by
        unfold findE
        rw [if_pos rfl, hel, mx_pos (by omega), decide_eq_true (by omega)]
        simp only [Prod.mk.injEq, and_true]
        omega
      have hrd : rd_T46 (l.eraseIdx j) ((l.length : Int) - 2) = rd_T46 l ((l.length : Int) - 1) := by
        have e1 : ((l.length : Int) - 2).toNat = l.length - 2 := by omega
        have e2 : ((l.length : Int) - 1).toNat = l.length - 1 := by omega
        unfold rd_T46
        rw [e1, e2, List.getD_eq_getElem?_getD, List.getD_eq_getElem?_getD, List.getElem?_eraseIdx_of_ge (by omega), show l.length - 2 + 1 = l.length - 1 by omega]
      have hgood : rightB ((l.length : Int) + 1) (l.eraseIdx j) = true := by
        obtain ⟨r1, r2, r3, r4⟩ := rightB_parts hb
        unfold rightB
        rw [decide_eq_true r1, decide_eq_true r2, decide_eq_true (by omega), goodL_erase l 0 _ j r4]
        rfl
      refine Ev.step (f := fun k => (cat_Right.f k ((l.length : Int) + 1) (l.eraseIdx j)).bind fun t388 => (some t388)) (fun k => ?_) ?_
      · simp only [astrolabelaw23_CatGrows.j6, find_is _ (l.eraseIdx j) _ (show (l.eraseIdx j).length ≤ 15 by omega), Option.bind_some, he1, he2, reduceCtorEq, if_false, if_true]
        rw [w64 (by omega) (by omega), w64 (by omega) (by omega), if_pos rfl, if_pos (by omega), if_pos (by rw [hel]; omega), if_pos (by omega), if_pos (by omega), hrd]
        simp only [beq_self_eq_true, Bool.and_self, if_true]
      · refine Ev.bind (right_is _ _ (by omega)) ?_
        rw [hgood]
        exact Ev.now _

/-! ### each is found -/
theorem grows_find (l : List V) (hl : l.length ≤ 12) (hs : seqL 0 l) (a : Int) (ha : -9223372036854775808 ≤ a ∧ a ≤ 9223372036854775807) (m : Int) (hm : m = (l.length : Int)) (n : Int) (hn : n = (l.length : Int) + 1) : ∀ (d i : Nat), l.length = i + d → Ev (fun k => astrolabelaw23_CatGrows.l1 k a true m (i : Int) n l) true := by
  intro d
  induction d with
  | zero =>
    intro i h
    refine Ev.step (fun k => ?_) (grows_end l hl hs a ha m hm n hn)
    simp only [astrolabelaw23_CatGrows.l1]
    rw [if_neg (by omega)]
  | succ d ih =>
    intro i h
    refine Ev.step (f := fun k => astrolabelaw23_CatGrows.l1 k a true m ((i + 1 : Nat) : Int) n l) (fun k => ?_) (ih (i + 1) (by omega))
    simp only [astrolabelaw23_CatGrows.l1]
    rw [if_pos (by omega), w64 (by omega) (by omega), find_is _ _ _ (by omega), seqL_findE hs _ (by omega), if_pos (by omega)]
    simp only [Option.bind_some]
    rw [if_pos (by omega), if_pos trivial]
    rfl

/-! ### the loop -/
theorem rd_wf (x : List Int) (g : ∀ y ∈ x, (Lit.int .i64 y).wf = true) (i : Nat) (hi : i < x.length) : -9223372036854775808 ≤ rd x (i : Int) ∧ rd x (i : Int) ≤ 9223372036854775807 := by
  have h : rd x (i : Int) = x[i] := by
    unfold rd
    rw [Int.toNat_natCast, List.getD_eq_getElem?_getD, List.getElem?_eq_getElem hi, Option.getD_some]
  rw [h]
  exact wf64 (g _ (List.getElem_mem hi))
theorem rootB_mod (r : Int) (h0 : 0 ≤ r) : -9223372036854775808 ≤ 2 + Int.tmod r 510 ∧ 2 + Int.tmod r 510 ≤ 511 ∧ rootB (2 + Int.tmod r 510) = true := by
  rw [Int.tmod_eq_emod_of_nonneg h0]
  have h1 := Int.emod_nonneg r (show (510 : Int) ≠ 0 by decide)
  have h2 := Int.emod_lt_of_pos r (show (0 : Int) < 510 by decide)
  exact ⟨by omega, by omega, by unfold rootB; exact decide_eq_true (by omega)⟩
theorem grows_turn (x : List Int) (a : Int) (i : Nat) (hi : i < 20) (r : Int) (h0 : 0 ≤ r) (l : List V) (hs : seqL 0 l) (hl : l.length = min i 12)
    (ih : ∀ l2 : List V, seqL 0 l2 → l2.length = min (i + 1) 12 → Ev (fun k => astrolabelaw23_CatGrows.l0 k x a true ((i + 1 : Nat) : Int) ((l2.length : Int) + 1) l2) true) :
    Ev (fun k => astrolabelaw23_CatGrows.j2 k x a true (i : Int) r ((l.length : Int) + 1) l) true := by
  obtain ⟨q1, q2, q3⟩ := rootB_mod r h0
  have e1 : wrap64 ((i : Int) + 1) = ((i + 1 : Nat) : Int) := by rw [w64 (by omega) (by omega)]; rfl
  refine Ev.step (f := fun k => (cat_With.f k ((l.length : Int) + 1) l (2 + Int.tmod r 510)).bind fun bt368 => (if (bt368.2.2 != (decide ((i : Int) < 12))) = true then (astrolabelaw23_CatGrows.j3 k x a true (i : Int) bt368.2.2 true ((l.length : Int) + 1) l bt368.1 bt368.2.1) else (if bt368.2.2 = true then (astrolabelaw23_CatGrows.j3 k x a true (i : Int) bt368.2.2 false ((l.length : Int) + 1) l bt368.1 bt368.2.1) else (if bt368.1 = 0 then (astrolabelaw23_CatGrows.j3 k x a true (i : Int) bt368.2.2 ((bt368.2.1.length : Int) != 0) ((l.length : Int) + 1) l bt368.1 bt368.2.1) else (astrolabelaw23_CatGrows.j3 k x a true (i : Int) bt368.2.2 true ((l.length : Int) + 1) l bt368.1 bt368.2.1))))) (fun k => ?_) ?_
  · simp only [astrolabelaw23_CatGrows.j2]
    rw [w64 q1 (by omega)]
  · refine Ev.bind (with_is _ l _ (by omega)) ?_
    unfold withB
    rw [seqL_right hs (by omega), q3, decide_eq_true (show (l.length : Int) + 1 ≠ 16777216 by omega)]
    by_cases h12 : i < 12
    · rw [decide_eq_true (show l.length ≠ 12 by omega), decide_eq_true (show (i : Int) < 12 by omega)]
      refine Ev.ifn (by simp) (Ev.ifp rfl ?_)
      refine Ev.step (f := fun k => astrolabelaw23_CatGrows.l0 k x a true ((i + 1 : Nat) : Int) ((l.length : Int) + 1 + 1) (l ++ [(⟨(l.length : Int) + 1, 2 + Int.tmod r 510⟩ : V)])) (fun k => ?_) ?_
      · simp only [astrolabelaw23_CatGrows.j3, reduceCtorEq, if_false, if_true, e1, Bool.and_self]
      · have hs2 := seqL_snoc l 0 _ hs q3
        rw [Int.zero_add] at hs2
        have hlen : (l ++ [(⟨(l.length : Int) + 1, 2 + Int.tmod r 510⟩ : V)]).length = l.length + 1 := by rw [List.length_append]; rfl
        have := ih _ hs2 (by omega)
        rw [hlen] at this
        exact this
    · rw [decide_eq_false (show ¬ l.length ≠ 12 by omega), decide_eq_false (show ¬ (i : Int) < 12 by omega)]
      refine Ev.ifn (by simp) (Ev.ifn (by simp) (Ev.ifp rfl ?_))
      refine Ev.step (f := fun k => astrolabelaw23_CatGrows.l0 k x a true ((i + 1 : Nat) : Int) ((l.length : Int) + 1) l) (fun k => ?_) (ih l hs (by omega))
      simp only [astrolabelaw23_CatGrows.j3, e1, Bool.true_and, Bool.false_and, reduceCtorEq, if_false, List.length_nil, Int.ofNat_zero, bne_self_eq_false]
theorem grows_loop (x : List Int) (g : ∀ y ∈ x, (Lit.int .i64 y).wf = true) (a : Int) (ha : -9223372036854775808 ≤ a ∧ a ≤ 9223372036854775807) : ∀ (d i : Nat), min x.length 20 = i + d → ∀ (l : List V), seqL 0 l → l.length = min i 12 → Ev (fun k => astrolabelaw23_CatGrows.l0 k x a true (i : Int) ((l.length : Int) + 1) l) true := by
  intro d
  induction d with
  | zero =>
    intro i h l hs hl
    have hm : mn (x.length : Int) 12 = (l.length : Int) := by unfold mn; split <;> omega
    refine Ev.step (f := fun k => astrolabelaw23_CatGrows.j1 k x a true (i : Int) false ((l.length : Int) + 1) l) (fun k => ?_) ?_
    · simp only [astrolabelaw23_CatGrows.l0]
      by_cases hx : (i : Int) < (x.length : Int)
      · rw [if_pos hx, decide_eq_false (by omega)]
      · rw [if_neg hx]
    · refine Ev.step (f := fun k => astrolabelaw23_CatGrows.j4 k a true (l.length : Int) false ((l.length : Int) + 1) l) (fun k => ?_) ?_
      · simp only [astrolabelaw23_CatGrows.j1, reduceCtorEq, if_false]
        rw [hm, if_pos rfl, bne_self_eq_false]
      · refine Ev.step (f := fun k => astrolabelaw23_CatGrows.l1 k a true (l.length : Int) 0 ((l.length : Int) + 1) l) (fun k => ?_) (grows_find l (by omega) hs a ha _ rfl _ rfl l.length 0 (by omega))
        simp only [astrolabelaw23_CatGrows.j4, reduceCtorEq, if_false]
  | succ d ih =>
    intro i h l hs hl
    refine Ev.step (f := fun k => astrolabelaw23_CatGrows.j1 k x a true (i : Int) true ((l.length : Int) + 1) l) (fun k => ?_) ?_
    · simp only [astrolabelaw23_CatGrows.l0]
      rw [if_pos (by omega), decide_eq_true (by omega)]
    · obtain ⟨w1, w2⟩ := rd_wf x g i (by omega)
      have turn := fun r h0 => grows_turn x a i (by omega) r h0 l hs hl (fun l2 h2 h3 => ih (i + 1) (by omega) l2 h2 h3)
      by_cases hneg : rd x (i : Int) < 0
      · refine Ev.step (f := fun k => astrolabelaw23_CatGrows.j2 k x a true (i : Int) (-(rd x (i : Int) + 1)) ((l.length : Int) + 1) l) (fun k => ?_) (turn _ (by omega))
        simp only [astrolabelaw23_CatGrows.j1, if_true]
        rw [if_pos (by omega), if_pos (by omega), if_pos hneg, w64 (show -9223372036854775808 ≤ rd x (i : Int) + 1 by omega) (by omega), w64 (by omega) (by omega)]
      · refine Ev.step (f := fun k => astrolabelaw23_CatGrows.j2 k x a true (i : Int) (rd x (i : Int)) ((l.length : Int) + 1) l) (fun k => ?_) (turn _ (by omega))
        simp only [astrolabelaw23_CatGrows.j1, if_true]
        rw [if_pos (by omega), if_pos (by omega), if_neg hneg]
theorem grows_pure (x : List Int) (g : ∀ y ∈ x, (Lit.int .i64 y).wf = true) (a : Int) (ha : -9223372036854775808 ≤ a ∧ a ≤ 9223372036854775807) : ∃ k, astrolabelaw23_CatGrows.f k x a = some true := by
  apply Ev.rounds
  unfold astrolabelaw23_CatGrows.f
  refine Ev.bind examples_is (Ev.ifp rfl ?_)
  exact grows_loop x g a ha (min x.length 20) 0 (by omega) [] trivial rfl
end Go.Proofs.Ytmggeldhdemahaa.PCat
namespace Go.Proofs.Ytmggeldhdemahaa.GotCatGrows
set_option linter.unusedVariables false
open Go.RowKit Go.Proofs.Ytmggeldhdemahaa.PCat Go.Proofs.YtmggeldhdemahaaW.PrintWords
theorem walk (w : World) (A0 : Option Addr) (c0 : Nat) (x0 : List Int) (hr0 : Kd.C (Kd.int .i64) w A0 x0.length x0) (hc0 : x0.length ≤ c0) (g0 : ∀ y_ ∈ x0, (Lit.int .i64 y_).wf = true) (a1 : Int) (w1 : (Lit.int .i64 a1).wf = true) :
    Calls Try.prog 6 #[.slice A0 x0.length c0, .int .i64 a1] w fun e w' => e = .returned (.bool true) ∧ Below w.heap.size w w' := by
  obtain ⟨k, h⟩ := grows_pure x0 g0 a1 (wf64 w1)
  exact astrolabelaw23_CatGrows.calls k A0 c0 x0 a1 true w hr0 hc0 rfl h
end Go.Proofs.Ytmggeldhdemahaa.GotCatGrows
