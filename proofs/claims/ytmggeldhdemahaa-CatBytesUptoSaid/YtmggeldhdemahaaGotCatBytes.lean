/-
  The law CatBytes holds of every list and every text of at most 2^20 bytes: its walk, out of the printed contract and the plain law.
-/
import Derived.Test.YtmggeldhdemahaaCatD
import Derived.Test.YtmggeldhdemahaaPCatx11
import Derived.Test.YtmggeldhdemahaaOpenPCat
namespace Go.Proofs.Ytmggeldhdemahaa.PCat
open Go.RowKit Go.Proofs.YtmggeldhdemahaaW.PrintWords Go.Proofs.YtmggeldhdemahaaW.PrintLast Go.Proofs.YtmggeldhdemahaaW.PrintMore
set_option linter.unusedVariables false

theorem bytes_end (n : Int) (l : List V) (hl : l.length ≤ 15) (a b : ByteArray) (e1 : Int) (ok : Bool) (e2 : Int) (is : Bool) (hab : a = b) (h1 : (ok = true ∧ e1 = 0) ∨ (ok = false ∧ e1 = 1)) (h2 : (is = true ∧ e2 = 0) ∨ (is = false ∧ e2 = 2)) :
    Ev (fun k => astrolabelaw23_CatBytes.j0 k true a e1 b ok e2 is true n l) true := by
  subst hab
  have fin : Ev (fun k => (cat_Right.f k n l).bind fun t => (astrolabelaw23_ref.f k n l).bind fun bt => (astrolaberef23_Right.f k bt.1 bt.2).bind fun u => some (t == u)) true := by
    refine Ev.bind (right_is n l (by omega)) (Ev.bind (ref_is n l (by omega)) (Ev.bind (rright_is n l (by omega)) ?_))
    rw [beq_self_eq_true]
    exact Ev.now _
  rcases h1 with ⟨rfl, rfl⟩ | ⟨rfl, rfl⟩ <;> rcases h2 with ⟨rfl, rfl⟩ | ⟨rfl, rfl⟩ <;>
    exact Ev.step (fun k => by simp only [astrolabelaw23_CatBytes.j0, if_true, if_false, reduceCtorEq, Int.reduceEq]) fin
theorem bytes_pure (n : Int) (l : List V) (s : ByteArray) (hs : s.size ≤ 1048576) : ∃ k, astrolabelaw23_CatBytes.f k n l s = some true := by
  apply Ev.rounds
  unfold astrolabelaw23_CatBytes.f
  refine Ev.bind examples_is (Ev.ifp rfl (Ev.bindc (few_is n l) ?_))
  have hl : (l.take 15).length ≤ 15 := by rw [List.length_take]; omega
  revert hl
  generalize l.take 15 = l
  intro hl
  refine Ev.bind (encode_is n l hl) (Ev.bind (ref_is n l (by omega)) (Ev.bind (rencode_is n l hl) (Ev.bind (decode_is s hs) (Ev.bind (rdecode_is s hs) ?_))))
  have hsame : Ev (fun k => astrolabelaw23_lists.f k (if decE s = true then (0, [], 2) else (num4 s 0, vs s ((s.size - 4) / 6), (0 : Int))).1 (if decE s = true then (0, [], 2) else (num4 s 0, vs s ((s.size - 4) / 6), (0 : Int))).2.1
      (if decE s = true then (0, [], false) else (num4 s 0, (vs s ((s.size - 4) / 6)).map cv, true)).1 (if decE s = true then (0, [], false) else (num4 s 0, (vs s ((s.size - 4) / 6)).map cv, true)).2.1) true := by
    cases decE s with
    | true => exact lists_is 0 [] (by simp)
    | false => exact lists_is (num4 s 0) (vs s ((s.size - 4) / 6)) (by rw [vs_length]; omega)
  refine Ev.bind hsame ?_
  refine bytes_end n l hl _ _ _ _ _ _ ?_ ?_ ?_
  · cases rightB n l <;> rfl
  · cases rightB n l with
    | true => exact .inl ⟨rfl, rfl⟩
    | false => exact .inr ⟨rfl, rfl⟩
  · cases decE s with
    | true => exact .inr ⟨rfl, rfl⟩
    | false => exact .inl ⟨rfl, rfl⟩
end Go.Proofs.Ytmggeldhdemahaa.PCat
namespace Go.Proofs.Ytmggeldhdemahaa.GotCatBytes
set_option linter.unusedVariables false
open Go.RowKit Go.Proofs.Ytmggeldhdemahaa.PCat Go.Proofs.YtmggeldhdemahaaW.PrintWords
theorem walk (w : World) (x0 : S24) (A0_1 : Option Addr) (c0_1 : Nat) (hr0_1 : Kd.C k46 w A0_1 x0.f1.length x0.f1) (hc0_1 : x0.f1.length ≤ c0_1) (g0 : gT24 x0) (a1 : ByteArray) (w1 : a1.size ≤ 1048576) :
    Calls Try.prog 3 #[.agg #[.int .i64 x0.f0, .slice A0_1 x0.f1.length c0_1], .string a1] w fun e w' => e = .returned (.bool true) ∧ Below w.heap.size w w' := by
  obtain ⟨k, h⟩ := bytes_pure x0.f0 x0.f1 a1 w1
  exact astrolabelaw23_CatBytes.calls k x0.f0 A0_1 c0_1 x0.f1 a1 true w hr0_1 hc0_1 rfl h
end Go.Proofs.Ytmggeldhdemahaa.GotCatBytes
