/-
  The reference's lists: as the program's; what is right, and the bytes of one; the lists of bytes.
-/
import Derived.Test.YtmggeldhdemahaaCatB
import Derived.Test.YtmggeldhdemahaaPCatx6
import Derived.Test.YtmggeldhdemahaaPCatx7
import Derived.Test.YtmggeldhdemahaaPCatx8
import Derived.Test.YtmggeldhdemahaaPCatx9
import Derived.Test.YtmggeldhdemahaaPCatx10
namespace Go.Proofs.Ytmggeldhdemahaa.PCat
open Go.RowKit Go.Proofs.YtmggeldhdemahaaW.PrintWords Go.Proofs.YtmggeldhdemahaaW.PrintLast Go.Proofs.YtmggeldhdemahaaW.PrintMore
set_option linter.unusedVariables false

abbrev U := S58
def cv (v : V) : U := ⟨v.f0, v.f1⟩
theorem rd_cv (l : List V) (i : Nat) (hi : i < l.length) : rd_T58 (l.map cv) (i : Int) = cv (rd_T46 l (i : Int)) := by
  unfold rd_T58 rd_T46
  rw [Int.toNat_natCast, List.getD_eq_getElem?_getD, List.getD_eq_getElem?_getD, List.getElem?_map, List.getElem?_eq_getElem hi]
  rfl
theorem rd_nth (l : List V) (i : Nat) (hi : i < l.length) : rd_T46 l (i : Int) = l[i] := by
  unfold rd_T46
  rw [Int.toNat_natCast, List.getD_eq_getElem?_getD, List.getElem?_eq_getElem hi, Option.getD_some]

/-! ### the list as the document's -/
theorem ref_loop (l : List V) (hl : l.length < 8796093022208) (n m : Int) : ∀ (r : List V) (i : Nat) (out : List U), l.drop i = r → out.length = i → Ev (fun k => astrolabelaw23_ref.l0 k (i : Int) m l n out) (n, out ++ r.map cv) := by
  intro r
  induction r with
  | nil =>
    intro i out h ho
    have hi := drop_end h
    exact Ev.step (f := fun _ => some (n, out ++ [].map cv)) (fun k => by simp only [astrolabelaw23_ref.l0]; rw [if_neg (by omega), List.map_nil, List.append_nil]) (Ev.now _)
  | cons v r ih =>
    intro i out h ho
    obtain ⟨hi, hv, hr⟩ := rd_at h
    refine Ev.step (f := fun k => astrolabelaw23_ref.l0 k ((i + 1 : Nat) : Int) m l n (out ++ [cv v])) (fun k => ?_) ?_
    · simp only [astrolabelaw23_ref.l0]
      rw [if_pos (by omega), if_pos (by omega), if_pos (by omega), hv, w64 (by omega) (by omega)]
      rfl
    · have := ih (i + 1) (out ++ [cv v]) hr (by rw [List.length_append, ho]; rfl)
      rw [List.append_assoc] at this
      exact this
theorem ref_is (n : Int) (l : List V) (hl : l.length < 8796093022208) : Ev (fun k => astrolabelaw23_ref.f k n l) (n, l.map cv) := ref_loop l hl n n l 0 [] rfl rfl
theorem same_loop (a b : List U) (n m : Int) (hl : a.length ≤ 4611686018427387904) (hab : a = b) : ∀ (d i : Nat), a.length - i = d → Ev (fun k => astrolaberef23_Same.l0 k (i : Int) n a m b) true := by
  subst hab
  intro d
  induction d with
  | zero =>
    intro i h
    exact Ev.step (f := fun _ => some true) (fun k => by simp only [astrolaberef23_Same.l0]; rw [if_neg (by omega)]) (Ev.now _)
  | succ d ih =>
    intro i h
    refine Ev.step (f := fun k => astrolaberef23_Same.l0 k ((i + 1 : Nat) : Int) n a m a) (fun k => ?_) (ih (i + 1) (by omega))
    simp only [astrolaberef23_Same.l0]
    rw [if_pos (by omega), if_pos (by omega), if_pos (by omega), if_neg (by simp), w64 (by omega) (by omega)]
    rfl
theorem same_is (n : Int) (a : List U) (hl : a.length ≤ 4611686018427387904) : Ev (fun k => astrolaberef23_Same.f k n a n a) true := by
  unfold astrolaberef23_Same.f
  refine Ev.ifp rfl ?_
  refine Ev.step (f := fun k => astrolaberef23_Same.l0 k 0 n a n a) (fun k => ?_) (same_loop a a n n hl rfl a.length 0 (by omega))
  simp only [astrolaberef23_Same.j0]
  rw [if_neg (by simp)]
theorem lists_is (n : Int) (l : List V) (hl : l.length < 8796093022208) : Ev (fun k => astrolabelaw23_lists.f k n l n (l.map cv)) true := by
  unfold astrolabelaw23_lists.f
  refine Ev.bind (ref_is n l hl) ?_
  exact Ev.bind (same_is n _ (by rw [List.length_map]; omega)) (Ev.now _)

/-! ### right -/
theorem rroot_is (r : Int) : astrolaberef23_root.f r = some (rootB r) := by
  have := root_is r
  exact this
theorem rright_loop (l : List V) (hl : l.length ≤ 4611686018427387904) (n : Int) : ∀ (r : List V) (i : Nat) (last : Int), l.drop i = r → (i = 0 → last = 0) → (∀ j, i = j + 1 → last = (rd_T46 l (j : Int)).f0 ∧ 1 ≤ last) → Ev (fun k => astrolaberef23_Right.l0 k (i : Int) n (l.map cv)) (goodL last n r) := by
  intro r
  induction r with
  | nil =>
    intro i last h _ _
    have hi := drop_end h
    exact Ev.step (f := fun _ => some true) (fun k => by simp only [astrolaberef23_Right.l0, List.length_map]; rw [if_neg (by omega)]) (Ev.now _)
  | cons v r ih =>
    intro i last h h0 hs
    obtain ⟨hi, hv, hr⟩ := rd_at h
    have hvc : rd_T58 (l.map cv) (i : Int) = cv v := by rw [rd_cv l i hi, hv]
    have e1 : wrap64 ((i : Int) + 1) = ((i + 1 : Nat) : Int) := by rw [w64 (by omega) (by omega)]; rfl
    refine Ev.step (f := fun k => if v.f0 < 1 then some false else if v.f0 ≥ n then some false else (astrolaberef23_root.f v.f1).bind fun t => if t = true then
        (if (i : Int) > 0 then (if 0 ≤ wrap64 ((i : Int) - 1) then (if wrap64 ((i : Int) - 1) < (l.length : Int) then (if (rd_T58 (l.map cv) (wrap64 ((i : Int) - 1))).f0 ≥ v.f0 then some false else astrolaberef23_Right.l0 k ((i + 1 : Nat) : Int) n (l.map cv)) else none) else none) else astrolaberef23_Right.l0 k ((i + 1 : Nat) : Int) n (l.map cv)) else some false)
      (fun k => by simp only [astrolaberef23_Right.l0, List.length_map, e1]; rw [if_pos (by omega), if_pos (by omega), hvc]; rfl) ?_
    have next : 1 ≤ v.f0 → Ev (fun k => astrolaberef23_Right.l0 k ((i + 1 : Nat) : Int) n (l.map cv)) (goodL v.f0 n r) := fun h1 =>
      ih (i + 1) v.f0 hr (fun h => by omega) (fun j hj => by obtain rfl : j = i := by omega
                                                             exact ⟨by rw [hv], h1⟩)
    unfold goodL
    by_cases h1 : v.f0 < 1
    · have hf : ¬ last < v.f0 := by
        rcases Nat.eq_zero_or_pos i with hz | hz
        · have := h0 hz; omega
        · have := (hs (i - 1) (by omega)).2; omega
      refine Ev.ifp h1 ?_
      rw [decide_eq_false hf, Bool.false_and]
      exact Ev.now _
    · refine Ev.ifn h1 ?_
      by_cases h2 : v.f0 ≥ n
      · refine Ev.ifp h2 ?_
        rw [decide_eq_false (show ¬ v.f0 < n by omega), Bool.false_and, Bool.and_false]
        exact Ev.now _
      · refine Ev.ifn h2 ?_
        rw [decide_eq_true (show v.f0 < n by omega), Bool.true_and]
        refine Ev.bindc (rroot_is _) ?_
        cases hb : rootB v.f1 with
        | false => rw [Bool.false_and, Bool.and_false]; exact Ev.ifn (by decide) (Ev.now _)
        | true =>
          rw [Bool.true_and]
          refine Ev.ifp rfl ?_
          rcases Nat.eq_zero_or_pos i with hz | hz
          · refine Ev.ifn (by omega) ?_
            rw [decide_eq_true (show last < v.f0 by have := h0 hz; omega), Bool.true_and]
            exact next (by omega)
          · obtain ⟨j, rfl⟩ : ∃ j, i = j + 1 := ⟨i - 1, by omega⟩
            have e2 : wrap64 (((j + 1 : Nat) : Int) - 1) = (j : Int) := by rw [w64 (by omega) (by omega)]; omega
            have hl1 := (hs j rfl).1
            rw [e2, rd_cv l j (by omega)]
            refine Ev.ifp (by omega) (Ev.ifp (by omega) (Ev.ifp (by omega) ?_))
            by_cases h3 : last < v.f0
            · rw [decide_eq_true h3, Bool.true_and]
              exact Ev.ifn (by show ¬ (rd_T46 l (j : Int)).f0 ≥ v.f0; omega) (next (by omega))
            · rw [decide_eq_false h3, Bool.false_and]
              exact Ev.ifp (by show (rd_T46 l (j : Int)).f0 ≥ v.f0; omega) (Ev.now _)
theorem rright_is (n : Int) (l : List V) (hl : l.length ≤ 4611686018427387904) : Ev (fun k => astrolaberef23_Right.f k n (l.map cv)) (rightB n l) := by
  have out : ∀ n, Ev (fun k => astrolaberef23_Right.j0 k true n (l.map cv)) false := fun n => Ev.step (f := fun _ => some false) (fun k => by simp [astrolaberef23_Right.j0]) (Ev.now _)
  unfold astrolaberef23_Right.f rightB
  rw [List.length_map]
  by_cases h1 : n < 1
  · rw [decide_eq_false (show ¬ 1 ≤ n by omega), Bool.false_and]
    exact Ev.ifp h1 (out n)
  · refine Ev.ifn h1 ?_
    rw [decide_eq_true (show 1 ≤ n by omega), Bool.true_and]
    by_cases h2 : n > 16777216
    · rw [decide_eq_false (show ¬ n ≤ 16777216 by omega), Bool.false_and]
      exact Ev.ifp h2 (out n)
    · refine Ev.ifn h2 ?_
      rw [decide_eq_true (show n ≤ 16777216 by omega), Bool.true_and]
      by_cases h3 : (l.length : Int) > 12
      · rw [decide_eq_true h3, decide_eq_false (show ¬ l.length ≤ 12 by omega), Bool.false_and]
        exact out n
      · rw [decide_eq_false h3, decide_eq_true (show l.length ≤ 12 by omega), Bool.true_and]
        exact Ev.step (f := fun k => astrolaberef23_Right.l0 k 0 n (l.map cv)) (fun k => by simp [astrolaberef23_Right.j0]) (rright_loop l hl n l 0 0 rfl (fun _ => rfl) (fun j h => by omega))

/-! ### bytes -/
theorem rencode_loop (l : List V) (hl : l.length ≤ 15) (n : Int) : ∀ (r : List V) (i : Nat) (out : List Int), l.drop i = r → out.length ≤ 4 + 6 * i → Ev (fun k => astrolaberef23_Encode.l0 k (strOfNums out) (i : Int) n (l.map cv)) (strOfNums (out ++ encV r), true) := by
  intro r
  induction r with
  | nil =>
    intro i out h _
    have hi := drop_end h
    refine Ev.step (f := fun _ => some (strOfNums (out ++ encV []), true)) (fun k => ?_) (Ev.now _)
    simp only [astrolaberef23_Encode.l0, List.length_map]
    rw [if_neg (by omega), encV, List.flatMap_nil, List.append_nil]
  | cons v r ih =>
    intro i out h ho
    obtain ⟨hi, hv, hr⟩ := rd_at h
    have hvc : rd_T58 (l.map cv) (i : Int) = cv v := by rw [rd_cv l i hi, hv]
    refine Ev.step (f := fun k => astrolaberef23_Encode.l0 k (strOfNums (out ++ (be 4 v.f0 ++ be 2 v.f1))) ((i + 1 : Nat) : Int) n (l.map cv)) (fun k => ?_) ?_
    · simp only [astrolaberef23_Encode.l0, List.length_map, astrolaberef23_four.f, Option.bind_some, hvc]
      rw [if_pos (by omega), if_pos (by omega), if_pos (by simp only [strOfNums_size, List.length_cons, List.length_nil]; omega), if_pos (by simp only [strOfNums_size, List.length_cons, List.length_nil]; omega), w64 (by omega) (by omega)]
      rw [strOfNums_append, strOfNums_append, be4, be2, ByteArray.append_assoc]
      rfl
    · have := ih (i + 1) (out ++ (be 4 v.f0 ++ be 2 v.f1)) hr (by rw [List.length_append, List.length_append, be_length, be_length]; omega)
      rw [show out ++ encV (v :: r) = out ++ (be 4 v.f0 ++ be 2 v.f1) ++ encV r by simp only [encV, List.flatMap_cons, List.append_assoc]]
      exact this
theorem rencode_is (n : Int) (l : List V) (hl : l.length ≤ 15) : Ev (fun k => astrolaberef23_Encode.f k n (l.map cv)) (if rightB n l = true then (strOfNums (be 4 n ++ encV l), true) else (⟨#[]⟩, false)) := by
  unfold astrolaberef23_Encode.f
  refine Ev.bind (rright_is n l (by omega)) ?_
  cases rightB n l with
  | true =>
    refine Ev.ifp rfl ?_
    have := rencode_loop l hl n l 0 (be 4 n) rfl (by rw [be_length]; omega)
    rw [be4] at this ⊢
    exact this
  | false => exact Ev.ifn (by decide) (Ev.now _)
end Go.Proofs.Ytmggeldhdemahaa.PCat
