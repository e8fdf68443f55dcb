/-
  The law CatSizes holds of every list: its walk, out of the printed contract and the plain law.
-/
import Derived.Test.YtmggeldhdemahaaCatB
import Derived.Test.YtmggeldhdemahaaPCatx12
import Derived.Test.YtmggeldhdemahaaOpenPCat
namespace Go.Proofs.Ytmggeldhdemahaa.PCat
open Go.RowKit Go.Proofs.YtmggeldhdemahaaW.PrintWords Go.Proofs.YtmggeldhdemahaaW.PrintLast Go.Proofs.YtmggeldhdemahaaW.PrintMore
set_option linter.unusedVariables false

theorem sizes_pure (n : Int) (l : List V) : ∃ k, astrolabelaw23_CatSizes.f k n l = some true := by
  apply Ev.rounds
  unfold astrolabelaw23_CatSizes.f
  refine Ev.bind examples_is (Ev.ifp rfl (Ev.bindc (few_is n l) ?_))
  have hl : (l.take 15).length ≤ 15 := by rw [List.length_take]; omega
  revert hl
  generalize l.take 15 = l
  intro hl
  dsimp only
  refine Ev.bind (encode_is n l hl) ?_
  cases hr : rightB n l with
  | false =>
    rw [if_neg (by decide)]
    refine Ev.ifn (by decide) (Ev.ifp (by decide +kernel) (Ev.bind (right_is n l (by omega)) ?_))
    rw [hr]
    exact Ev.now _
  | true =>
    rw [if_pos rfl]
    obtain ⟨h1, h2, h3, hg⟩ := rightB_parts hr
    have hlen : (be 4 n ++ encV l).length = 4 + 6 * l.length := by rw [List.length_append, be_length, encV_length]
    have hrange : ∀ x ∈ be 4 n ++ encV l, 0 ≤ x ∧ x < 256 := by
      intro x hx
      rcases List.mem_append.1 hx with h | h
      · exact be_range _ _ x h
      · exact encV_range _ x h
    have hsz : ((strOfNums (be 4 n ++ encV l)).size : Int) = 4 + 6 * (l.length : Int) := by rw [strOfNums_size, hlen]; omega
    have b0 : bt (strOfNums (be 4 n ++ encV l)) 0 = n / 16777216 % 256 := by
      rw [bt_strOfNums _ 0 (by omega) (by omega) hrange]; exact rd_nat _ 0 _ (by rw [be4]; rfl)
    have b1 : bt (strOfNums (be 4 n ++ encV l)) 1 = n / 65536 % 256 := by
      rw [bt_strOfNums _ 1 (by omega) (by omega) hrange]; exact rd_nat _ 1 _ (by rw [be4]; rfl)
    have b2 : bt (strOfNums (be 4 n ++ encV l)) 2 = n / 256 % 256 := by
      rw [bt_strOfNums _ 2 (by omega) (by omega) hrange]; exact rd_nat _ 2 _ (by rw [be4]; rfl)
    have b3 : bt (strOfNums (be 4 n ++ encV l)) 3 = n % 256 := by
      rw [bt_strOfNums _ 3 (by omega) (by omega) hrange]; exact rd_nat _ 3 _ (by rw [be4]; rfl)
    have hnext : Go.bits .or .i64 (Go.bits .or .i64 (Go.bits .or .i64 (wrap64 (wrap64 (n / 16777216 % 256) * 16777216)) (wrap64 (wrap64 (n / 65536 % 256) * 65536))) (wrap64 (wrap64 (n / 256 % 256) * 256))) (wrap64 (n % 256)) = n := by
      rw [or4 _ _ _ _ (by omega) (by omega) (by omega) (by omega) (by omega) (by omega) (by omega) (by omega)]; omega
    dsimp only
    rw [hsz, b0, b1, b2, b3, hnext]
    refine Ev.ifp rfl (Ev.ifp (by rw [w64 (x := 6 * (l.length : Int)) (by omega) (by omega), w64 (by omega) (by omega)]) (Ev.ifp (by omega) (Ev.ifp (by omega) (Ev.ifp (by omega) (Ev.ifp (by omega) ?_)))))
    rcases List.eq_nil_or_concat l with rfl | ⟨r, v, rfl⟩
    · exact Ev.ifp rfl (by rw [beq_self_eq_true]; exact Ev.now _)
    · rw [List.concat_eq_append] at *
      have hn0 : ((r ++ [v]).length : Int) = (r.length : Int) + 1 := by rw [List.length_append]; rfl
      have hr12 : r.length ≤ 11 := by omega
      refine Ev.ifn (by rw [hn0]; omega) ?_
      have e1 : wrap64 (4 + 6 * ((r ++ [v]).length : Int) - 2) = ((4 + (6 * r.length + 4) : Nat) : Int) := by rw [hn0, w64 (by omega) (by omega)]; omega
      have e2 : wrap64 (4 + 6 * ((r ++ [v]).length : Int) - 1) = ((4 + (6 * r.length + 5) : Nat) : Int) := by rw [hn0, w64 (by omega) (by omega)]; omega
      have e3 : wrap64 (((r ++ [v]).length : Int) - 1) = (r.length : Int) := by rw [hn0, w64 (by omega) (by omega)]; omega
      have henc : encV (r ++ [v]) = (encV r ++ be 4 v.f0) ++ be 2 v.f1 := by simp only [encV, List.flatMap_append, List.flatMap_cons, List.flatMap_nil, List.append_nil, List.append_assoc]
      have hlast : ∀ j : Nat, j < 2 → (be 4 n ++ encV (r ++ [v]))[4 + (6 * r.length + 4 + j)]? = (be 2 v.f1)[j]? := by
        intro j hj
        rw [henc, List.getElem?_append_right (by rw [be_length]; omega), be_length, List.getElem?_append_right (by rw [List.length_append, be_length, encV_length]; omega), List.length_append, be_length, encV_length]
        congr 1
        omega
      have hv := rootB_range (goodL_root _ _ _ hg v (by simp))
      have hsum : bt (strOfNums (be 4 n ++ encV (r ++ [v]))) ((4 + (6 * r.length + 4) : Nat) : Int) = v.f1 / 256 % 256 := by
        rw [bt_strOfNums _ _ (by omega) (by rw [hlen, List.length_append]; simp only [List.length_cons, List.length_nil]; omega) hrange]
        exact rd_nat _ _ _ (by rw [show 4 + (6 * r.length + 4) = 4 + (6 * r.length + 4 + 0) by omega, hlast 0 (by omega), be2]; rfl)
      have hsum2 : bt (strOfNums (be 4 n ++ encV (r ++ [v]))) ((4 + (6 * r.length + 5) : Nat) : Int) = v.f1 % 256 := by
        rw [bt_strOfNums _ _ (by omega) (by rw [hlen, List.length_append]; simp only [List.length_cons, List.length_nil]; omega) hrange]
        exact rd_nat _ _ _ (by rw [show 4 + (6 * r.length + 5) = 4 + (6 * r.length + 4 + 1) by omega, hlast 1 (by omega), be2]; rfl)
      have hrd : rd_T46 (r ++ [v]) (r.length : Int) = v := by
        unfold rd_T46
        rw [Int.toNat_natCast, List.getD_eq_getElem?_getD, List.getElem?_append_right (Nat.le_refl _), Nat.sub_self]
        rfl
      have hroot : Go.bits .or .i64 (wrap64 (wrap64 (v.f1 / 256 % 256) * 256)) (wrap64 (v.f1 % 256)) = v.f1 := by
        rw [or2 _ _ (by omega) (by omega) (by omega) (by omega)]; omega
      rw [e1, e2, e3, hsum, hsum2, hrd, hroot]
      refine Ev.ifp (by omega) (Ev.ifp (by omega) (Ev.ifp (by omega) (Ev.ifp (by omega) (Ev.ifp rfl (Ev.ifp (by omega) (Ev.ifp (by omega) (Ev.ifp rfl ?_)))))))
      refine Ev.bind (right_is n _ (by omega)) ?_
      rw [hr]
      exact Ev.now _
end Go.Proofs.Ytmggeldhdemahaa.PCat
namespace Go.Proofs.Ytmggeldhdemahaa.GotCatSizes
set_option linter.unusedVariables false
open Go.RowKit Go.Proofs.Ytmggeldhdemahaa.PCat Go.Proofs.YtmggeldhdemahaaW.PrintWords
theorem walk (w : World) (x0 : S24) (A0_1 : Option Addr) (c0_1 : Nat) (hr0_1 : Kd.C k46 w A0_1 x0.f1.length x0.f1) (hc0_1 : x0.f1.length ≤ c0_1) (g0 : gT24 x0) :
    Calls Try.prog 4 #[.agg #[.int .i64 x0.f0, .slice A0_1 x0.f1.length c0_1]] w fun e w' => e = .returned (.bool true) ∧ Below w.heap.size w w' := by
  obtain ⟨k, h⟩ := sizes_pure x0.f0 x0.f1
  exact astrolabelaw23_CatSizes.calls k x0.f0 A0_1 c0_1 x0.f1 true w hr0_1 hc0_1 rfl h
end Go.Proofs.Ytmggeldhdemahaa.GotCatSizes
