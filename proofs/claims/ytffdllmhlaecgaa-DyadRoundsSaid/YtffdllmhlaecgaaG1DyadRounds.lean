/-
  Facts of the abstract evaluator and of the functions that the law reaches, part 1. Conditions: none.
-/
import Derived.Test.YtffdllmhlaecgaaG0DyadRounds
set_option linter.unusedVariables false
set_option linter.unusedSimpArgs false
set_option linter.unnecessarySimpa false
set_option exponentiation.threshold 200000
set_option maxRecDepth 100000
set_option linter.unusedVariables false
set_option maxRecDepth 100000
namespace Go.AM.Y
open Go Go.AM Go.Proofs
attribute [local irreducible] run bin un ld st box newV mkS fldA fld ixA ix slc slc3 build buildS cv cvS ap cpy lenV gOp pickV b2 aIf aChk evalK resume iterD Option.bind
theorem Us : Try.prog.underlying 22 = some (.slice 67) := by kernel_rfl
theorem Uw : Try.prog.underlying 67 = some (.int .u32) := by kernel_rfl
theorem Uq : Try.prog.underlying 111 = some (.int .u64) := by kernel_rfl
theorem Ui : Try.prog.underlying 3 = some (.int .i64) := by kernel_rfl
theorem Iw : (Try.prog.info? 67).isSome = true := by kernel_rfl
theorem Sw : szT Try.prog 67 = 1 := by kernel_rfl
theorem Bw : byT Try.prog 67 = 4 := by kernel_rfl
theorem Aw : aggT Try.prog 67 = some false := by kernel_rfl
theorem Zw : zeroT Try.prog 67 = some (.int .u32 0) := by kernel_rfl
theorem Ew : Elt Try.prog 22 67 (.int .u32 0) 4 := ⟨Us, Iw, Sw, Aw, Zw, Bw, rfl, rfl⟩

theorem trim_loop {B H : AH} (hL : Le B H) : ∀ (m : Nat) (xs : List Nat) (a : Value), xs.length = m → m < 1099511627776 → RdN B a xs →
    Ev (fun k n => f108_L0 k a n H) (fun o => ∃ v, o = (.exit 0, f108_X_L0 v, H) ∧ RdN B v (limbs (val xs))) := by
  intro m
  induction m with
  | zero =>
    intro xs a hx hm ha
    refine Ev.succ (fun k n => f108_L0_succ k a n H) ?_
    refine Ev.prim (ha.len Us) ?_
    refine Ev.prim bin_gtr ?_
    rw [show decide ((0 : Int) < (xs.length : Nat)) = false from decide_eq_false (by omega)]
    repeat (first | refine Ev.some2 ?_ | refine Ev.some1 ?_ | refine Ev.gDo ?_ | refine Ev.gSkipT ?_ | refine Ev.gSkipF ?_ | refine Ev.gUndef ?_ | refine Ev.gCall ?_ | refine Ev.tt ?_ | refine Ev.ff ?_ | refine Ev.gPrim (by (first | with_reducible exact lssL | with_reducible exact gtrL | with_reducible exact eqlL | with_reducible exact neqL | with_reducible exact leqL | with_reducible exact geqL | with_reducible exact lssN | with_reducible exact gtrN | with_reducible exact eqlN | with_reducible exact neqN | with_reducible exact leqN | with_reducible exact geqN | (with_reducible refine addL ?_; omega) | (with_reducible refine subL ?_; omega) | (with_reducible refine quoL ?_; omega) | (with_reducible refine mulL ?_; omega) | (with_reducible refine lmul ?_; omega) | (with_reducible refine addN ?_; omega) | (with_reducible refine subN ?_; omega) | (with_reducible refine quoN ?_; omega) | (with_reducible refine mulN ?_; omega) | (with_reducible refine addQ ?_; omega) | (with_reducible refine subQ ?_; omega) | (with_reducible refine mulQ ?_; omega) | (with_reducible refine shlQL ?_; omega) | (with_reducible refine shlQ ?_; omega) | (with_reducible refine remL ?_; decide) | (with_reducible refine shrL ?_; decide) | (with_reducible refine remN ?_; omega) | (with_reducible refine toU64 ?_ Uw Uq; omega) | (with_reducible exact toU32 Uq Uw) | exact bin_lss | exact bin_gtr | exact bin_eql | exact bin_neq | exact bin_leq | exact bin_geq | exact lenV_sl Us | exact ext_0 | exact ext_1 | exact ext_2 | exact pick_t | exact pick_f | exact bin_add64 (by omega) | exact bin_sub64 (by omega) | exact un_not | exact cv_int Uq Uw | exact cv_int Uw Uq | exact bin_add | exact bin_sub | exact bin_mul | rfl)) rfl ?_ | refine Ev.prim (by (first | with_reducible exact lssL | with_reducible exact gtrL | with_reducible exact eqlL | with_reducible exact neqL | with_reducible exact leqL | with_reducible exact geqL | with_reducible exact lssN | with_reducible exact gtrN | with_reducible exact eqlN | with_reducible exact neqN | with_reducible exact leqN | with_reducible exact geqN | (with_reducible refine addL ?_; omega) | (with_reducible refine subL ?_; omega) | (with_reducible refine quoL ?_; omega) | (with_reducible refine mulL ?_; omega) | (with_reducible refine lmul ?_; omega) | (with_reducible refine addN ?_; omega) | (with_reducible refine subN ?_; omega) | (with_reducible refine quoN ?_; omega) | (with_reducible refine mulN ?_; omega) | (with_reducible refine addQ ?_; omega) | (with_reducible refine subQ ?_; omega) | (with_reducible refine mulQ ?_; omega) | (with_reducible refine shlQL ?_; omega) | (with_reducible refine shlQ ?_; omega) | (with_reducible refine remL ?_; decide) | (with_reducible refine shrL ?_; decide) | (with_reducible refine remN ?_; omega) | (with_reducible refine toU64 ?_ Uw Uq; omega) | (with_reducible exact toU32 Uq Uw) | exact bin_lss | exact bin_gtr | exact bin_eql | exact bin_neq | exact bin_leq | exact bin_geq | exact lenV_sl Us | exact ext_0 | exact ext_1 | exact ext_2 | exact pick_t | exact pick_f | exact bin_add64 (by omega) | exact bin_sub64 (by omega) | exact un_not | exact cv_int Uq Uw | exact cv_int Uw Uq | exact bin_add | exact bin_sub | exact bin_mul | rfl)) ?_)
    have : xs = [] := List.length_eq_zero_iff.mp hx
    subst this
    exact Ev.ret ⟨a, rfl, by rw [show val [] = 0 from rfl, limbs_zero]; exact ha⟩
  | succ m ih =>
    intro xs a hx hm ha
    refine Ev.succ (fun k n => f108_L0_succ k a n H) ?_
    refine Ev.prim (ha.len Us) ?_
    refine Ev.prim bin_gtr ?_
    rw [show decide ((0 : Int) < (xs.length : Nat)) = true from decide_eq_true (by omega)]
    obtain ⟨p, hp1, hp2⟩ := ha.ixN (k := .i64) (i := xs.length - 1) Ew (by omega)
    repeat (first | refine Ev.some2 ?_ | refine Ev.some1 ?_ | refine Ev.gDo ?_ | refine Ev.gSkipT ?_ | refine Ev.gSkipF ?_ | refine Ev.gUndef ?_ | refine Ev.gCall ?_ | refine Ev.tt ?_ | refine Ev.ff ?_ | refine Ev.gPrim (by (first | with_reducible exact lssL | with_reducible exact gtrL | with_reducible exact eqlL | with_reducible exact neqL | with_reducible exact leqL | with_reducible exact geqL | with_reducible exact lssN | with_reducible exact gtrN | with_reducible exact eqlN | with_reducible exact neqN | with_reducible exact leqN | with_reducible exact geqN | (with_reducible refine addL ?_; omega) | (with_reducible refine subL ?_; omega) | (with_reducible refine quoL ?_; omega) | (with_reducible refine mulL ?_; omega) | (with_reducible refine lmul ?_; omega) | (with_reducible refine addN ?_; omega) | (with_reducible refine subN ?_; omega) | (with_reducible refine quoN ?_; omega) | (with_reducible refine mulN ?_; omega) | (with_reducible refine addQ ?_; omega) | (with_reducible refine subQ ?_; omega) | (with_reducible refine mulQ ?_; omega) | (with_reducible refine shlQL ?_; omega) | (with_reducible refine shlQ ?_; omega) | (with_reducible refine remL ?_; decide) | (with_reducible refine shrL ?_; decide) | (with_reducible refine remN ?_; omega) | (with_reducible refine toU64 ?_ Uw Uq; omega) | (with_reducible exact toU32 Uq Uw) | exact bin_lss | exact bin_gtr | exact bin_eql | exact bin_neq | exact bin_leq | exact bin_geq | exact lenV_sl Us | exact ext_0 | exact ext_1 | exact ext_2 | exact pick_t | exact pick_f | exact bin_add64 (by omega) | exact bin_sub64 (by omega) | exact un_not | exact cv_int Uq Uw | exact cv_int Uw Uq | exact bin_add | exact bin_sub | exact bin_mul | rfl)) rfl ?_ | refine Ev.prim (by (first | with_reducible exact lssL | with_reducible exact gtrL | with_reducible exact eqlL | with_reducible exact neqL | with_reducible exact leqL | with_reducible exact geqL | with_reducible exact lssN | with_reducible exact gtrN | with_reducible exact eqlN | with_reducible exact neqN | with_reducible exact leqN | with_reducible exact geqN | (with_reducible refine addL ?_; omega) | (with_reducible refine subL ?_; omega) | (with_reducible refine quoL ?_; omega) | (with_reducible refine mulL ?_; omega) | (with_reducible refine lmul ?_; omega) | (with_reducible refine addN ?_; omega) | (with_reducible refine subN ?_; omega) | (with_reducible refine quoN ?_; omega) | (with_reducible refine mulN ?_; omega) | (with_reducible refine addQ ?_; omega) | (with_reducible refine subQ ?_; omega) | (with_reducible refine mulQ ?_; omega) | (with_reducible refine shlQL ?_; omega) | (with_reducible refine shlQ ?_; omega) | (with_reducible refine remL ?_; decide) | (with_reducible refine shrL ?_; decide) | (with_reducible refine remN ?_; omega) | (with_reducible refine toU64 ?_ Uw Uq; omega) | (with_reducible exact toU32 Uq Uw) | exact bin_lss | exact bin_gtr | exact bin_eql | exact bin_neq | exact bin_leq | exact bin_geq | exact lenV_sl Us | exact ext_0 | exact ext_1 | exact ext_2 | exact pick_t | exact pick_f | exact bin_add64 (by omega) | exact bin_sub64 (by omega) | exact un_not | exact cv_int Uq Uw | exact cv_int Uw Uq | exact bin_add | exact bin_sub | exact bin_mul | rfl)) ?_)
    refine Ev.gPrim (ha.len Us) rfl ?_
    repeat (first | refine Ev.some2 ?_ | refine Ev.some1 ?_ | refine Ev.gDo ?_ | refine Ev.gSkipT ?_ | refine Ev.gSkipF ?_ | refine Ev.gUndef ?_ | refine Ev.gCall ?_ | refine Ev.tt ?_ | refine Ev.ff ?_ | refine Ev.gPrim (by (first | with_reducible exact lssL | with_reducible exact gtrL | with_reducible exact eqlL | with_reducible exact neqL | with_reducible exact leqL | with_reducible exact geqL | with_reducible exact lssN | with_reducible exact gtrN | with_reducible exact eqlN | with_reducible exact neqN | with_reducible exact leqN | with_reducible exact geqN | (with_reducible refine addL ?_; omega) | (with_reducible refine subL ?_; omega) | (with_reducible refine quoL ?_; omega) | (with_reducible refine mulL ?_; omega) | (with_reducible refine lmul ?_; omega) | (with_reducible refine addN ?_; omega) | (with_reducible refine subN ?_; omega) | (with_reducible refine quoN ?_; omega) | (with_reducible refine mulN ?_; omega) | (with_reducible refine addQ ?_; omega) | (with_reducible refine subQ ?_; omega) | (with_reducible refine mulQ ?_; omega) | (with_reducible refine shlQL ?_; omega) | (with_reducible refine shlQ ?_; omega) | (with_reducible refine remL ?_; decide) | (with_reducible refine shrL ?_; decide) | (with_reducible refine remN ?_; omega) | (with_reducible refine toU64 ?_ Uw Uq; omega) | (with_reducible exact toU32 Uq Uw) | exact bin_lss | exact bin_gtr | exact bin_eql | exact bin_neq | exact bin_leq | exact bin_geq | exact lenV_sl Us | exact ext_0 | exact ext_1 | exact ext_2 | exact pick_t | exact pick_f | exact bin_add64 (by omega) | exact bin_sub64 (by omega) | exact un_not | exact cv_int Uq Uw | exact cv_int Uw Uq | exact bin_add | exact bin_sub | exact bin_mul | rfl)) rfl ?_ | refine Ev.prim (by (first | with_reducible exact lssL | with_reducible exact gtrL | with_reducible exact eqlL | with_reducible exact neqL | with_reducible exact leqL | with_reducible exact geqL | with_reducible exact lssN | with_reducible exact gtrN | with_reducible exact eqlN | with_reducible exact neqN | with_reducible exact leqN | with_reducible exact geqN | (with_reducible refine addL ?_; omega) | (with_reducible refine subL ?_; omega) | (with_reducible refine quoL ?_; omega) | (with_reducible refine mulL ?_; omega) | (with_reducible refine lmul ?_; omega) | (with_reducible refine addN ?_; omega) | (with_reducible refine subN ?_; omega) | (with_reducible refine quoN ?_; omega) | (with_reducible refine mulN ?_; omega) | (with_reducible refine addQ ?_; omega) | (with_reducible refine subQ ?_; omega) | (with_reducible refine mulQ ?_; omega) | (with_reducible refine shlQL ?_; omega) | (with_reducible refine shlQ ?_; omega) | (with_reducible refine remL ?_; decide) | (with_reducible refine shrL ?_; decide) | (with_reducible refine remN ?_; omega) | (with_reducible refine toU64 ?_ Uw Uq; omega) | (with_reducible exact toU32 Uq Uw) | exact bin_lss | exact bin_gtr | exact bin_eql | exact bin_neq | exact bin_leq | exact bin_geq | exact lenV_sl Us | exact ext_0 | exact ext_1 | exact ext_2 | exact pick_t | exact pick_f | exact bin_add64 (by omega) | exact bin_sub64 (by omega) | exact un_not | exact cv_int Uq Uw | exact cv_int Uw Uq | exact bin_add | exact bin_sub | exact bin_mul | rfl)) ?_)
    refine Ev.gPrim hp1 rfl ?_
    repeat (first | refine Ev.some2 ?_ | refine Ev.some1 ?_ | refine Ev.gDo ?_ | refine Ev.gSkipT ?_ | refine Ev.gSkipF ?_ | refine Ev.gUndef ?_ | refine Ev.gCall ?_ | refine Ev.tt ?_ | refine Ev.ff ?_ | refine Ev.gPrim (by (first | with_reducible exact lssL | with_reducible exact gtrL | with_reducible exact eqlL | with_reducible exact neqL | with_reducible exact leqL | with_reducible exact geqL | with_reducible exact lssN | with_reducible exact gtrN | with_reducible exact eqlN | with_reducible exact neqN | with_reducible exact leqN | with_reducible exact geqN | (with_reducible refine addL ?_; omega) | (with_reducible refine subL ?_; omega) | (with_reducible refine quoL ?_; omega) | (with_reducible refine mulL ?_; omega) | (with_reducible refine lmul ?_; omega) | (with_reducible refine addN ?_; omega) | (with_reducible refine subN ?_; omega) | (with_reducible refine quoN ?_; omega) | (with_reducible refine mulN ?_; omega) | (with_reducible refine addQ ?_; omega) | (with_reducible refine subQ ?_; omega) | (with_reducible refine mulQ ?_; omega) | (with_reducible refine shlQL ?_; omega) | (with_reducible refine shlQ ?_; omega) | (with_reducible refine remL ?_; decide) | (with_reducible refine shrL ?_; decide) | (with_reducible refine remN ?_; omega) | (with_reducible refine toU64 ?_ Uw Uq; omega) | (with_reducible exact toU32 Uq Uw) | exact bin_lss | exact bin_gtr | exact bin_eql | exact bin_neq | exact bin_leq | exact bin_geq | exact lenV_sl Us | exact ext_0 | exact ext_1 | exact ext_2 | exact pick_t | exact pick_f | exact bin_add64 (by omega) | exact bin_sub64 (by omega) | exact un_not | exact cv_int Uq Uw | exact cv_int Uw Uq | exact bin_add | exact bin_sub | exact bin_mul | rfl)) rfl ?_ | refine Ev.prim (by (first | with_reducible exact lssL | with_reducible exact gtrL | with_reducible exact eqlL | with_reducible exact neqL | with_reducible exact leqL | with_reducible exact geqL | with_reducible exact lssN | with_reducible exact gtrN | with_reducible exact eqlN | with_reducible exact neqN | with_reducible exact leqN | with_reducible exact geqN | (with_reducible refine addL ?_; omega) | (with_reducible refine subL ?_; omega) | (with_reducible refine quoL ?_; omega) | (with_reducible refine mulL ?_; omega) | (with_reducible refine lmul ?_; omega) | (with_reducible refine addN ?_; omega) | (with_reducible refine subN ?_; omega) | (with_reducible refine quoN ?_; omega) | (with_reducible refine mulN ?_; omega) | (with_reducible refine addQ ?_; omega) | (with_reducible refine subQ ?_; omega) | (with_reducible refine mulQ ?_; omega) | (with_reducible refine shlQL ?_; omega) | (with_reducible refine shlQ ?_; omega) | (with_reducible refine remL ?_; decide) | (with_reducible refine shrL ?_; decide) | (with_reducible refine remN ?_; omega) | (with_reducible refine toU64 ?_ Uw Uq; omega) | (with_reducible exact toU32 Uq Uw) | exact bin_lss | exact bin_gtr | exact bin_eql | exact bin_neq | exact bin_leq | exact bin_geq | exact lenV_sl Us | exact ext_0 | exact ext_1 | exact ext_2 | exact pick_t | exact pick_f | exact bin_add64 (by omega) | exact bin_sub64 (by omega) | exact un_not | exact cv_int Uq Uw | exact cv_int Uw Uq | exact bin_add | exact bin_sub | exact bin_mul | rfl)) ?_)
    refine Ev.gPrim (hp2 H hL.le) rfl ?_
    repeat (first | refine Ev.some2 ?_ | refine Ev.some1 ?_ | refine Ev.gDo ?_ | refine Ev.gSkipT ?_ | refine Ev.gSkipF ?_ | refine Ev.gUndef ?_ | refine Ev.gCall ?_ | refine Ev.tt ?_ | refine Ev.ff ?_ | refine Ev.gPrim (by (first | with_reducible exact lssL | with_reducible exact gtrL | with_reducible exact eqlL | with_reducible exact neqL | with_reducible exact leqL | with_reducible exact geqL | with_reducible exact lssN | with_reducible exact gtrN | with_reducible exact eqlN | with_reducible exact neqN | with_reducible exact leqN | with_reducible exact geqN | (with_reducible refine addL ?_; omega) | (with_reducible refine subL ?_; omega) | (with_reducible refine quoL ?_; omega) | (with_reducible refine mulL ?_; omega) | (with_reducible refine lmul ?_; omega) | (with_reducible refine addN ?_; omega) | (with_reducible refine subN ?_; omega) | (with_reducible refine quoN ?_; omega) | (with_reducible refine mulN ?_; omega) | (with_reducible refine addQ ?_; omega) | (with_reducible refine subQ ?_; omega) | (with_reducible refine mulQ ?_; omega) | (with_reducible refine shlQL ?_; omega) | (with_reducible refine shlQ ?_; omega) | (with_reducible refine remL ?_; decide) | (with_reducible refine shrL ?_; decide) | (with_reducible refine remN ?_; omega) | (with_reducible refine toU64 ?_ Uw Uq; omega) | (with_reducible exact toU32 Uq Uw) | exact bin_lss | exact bin_gtr | exact bin_eql | exact bin_neq | exact bin_leq | exact bin_geq | exact lenV_sl Us | exact ext_0 | exact ext_1 | exact ext_2 | exact pick_t | exact pick_f | exact bin_add64 (by omega) | exact bin_sub64 (by omega) | exact un_not | exact cv_int Uq Uw | exact cv_int Uw Uq | exact bin_add | exact bin_sub | exact bin_mul | rfl)) rfl ?_ | refine Ev.prim (by (first | with_reducible exact lssL | with_reducible exact gtrL | with_reducible exact eqlL | with_reducible exact neqL | with_reducible exact leqL | with_reducible exact geqL | with_reducible exact lssN | with_reducible exact gtrN | with_reducible exact eqlN | with_reducible exact neqN | with_reducible exact leqN | with_reducible exact geqN | (with_reducible refine addL ?_; omega) | (with_reducible refine subL ?_; omega) | (with_reducible refine quoL ?_; omega) | (with_reducible refine mulL ?_; omega) | (with_reducible refine lmul ?_; omega) | (with_reducible refine addN ?_; omega) | (with_reducible refine subN ?_; omega) | (with_reducible refine quoN ?_; omega) | (with_reducible refine mulN ?_; omega) | (with_reducible refine addQ ?_; omega) | (with_reducible refine subQ ?_; omega) | (with_reducible refine mulQ ?_; omega) | (with_reducible refine shlQL ?_; omega) | (with_reducible refine shlQ ?_; omega) | (with_reducible refine remL ?_; decide) | (with_reducible refine shrL ?_; decide) | (with_reducible refine remN ?_; omega) | (with_reducible refine toU64 ?_ Uw Uq; omega) | (with_reducible exact toU32 Uq Uw) | exact bin_lss | exact bin_gtr | exact bin_eql | exact bin_neq | exact bin_leq | exact bin_geq | exact lenV_sl Us | exact ext_0 | exact ext_1 | exact ext_2 | exact pick_t | exact pick_f | exact bin_add64 (by omega) | exact bin_sub64 (by omega) | exact un_not | exact cv_int Uq Uw | exact cv_int Uw Uq | exact bin_add | exact bin_sub | exact bin_mul | rfl)) ?_)
    rw [show xs.length - 1 = m by omega]
    have hd : xs = xs.dropLast ++ [xs.getD m 0] := by
      have h1 : xs ≠ [] := by intro e; subst e; cases hx
      conv => lhs; rw [← List.dropLast_concat_getLast h1]
      rw [List.getLast_eq_getElem, List.getD_eq_getElem?_getD, List.getElem?_eq_getElem (by omega)]
      simp [hx]
    refine Ev.ifp (fun h => ?_) (fun h => ?_)
    · repeat (first | refine Ev.some2 ?_ | refine Ev.some1 ?_ | refine Ev.gDo ?_ | refine Ev.gSkipT ?_ | refine Ev.gSkipF ?_ | refine Ev.gUndef ?_ | refine Ev.gCall ?_ | refine Ev.tt ?_ | refine Ev.ff ?_ | refine Ev.gPrim (by (first | with_reducible exact lssL | with_reducible exact gtrL | with_reducible exact eqlL | with_reducible exact neqL | with_reducible exact leqL | with_reducible exact geqL | with_reducible exact lssN | with_reducible exact gtrN | with_reducible exact eqlN | with_reducible exact neqN | with_reducible exact leqN | with_reducible exact geqN | (with_reducible refine addL ?_; omega) | (with_reducible refine subL ?_; omega) | (with_reducible refine quoL ?_; omega) | (with_reducible refine mulL ?_; omega) | (with_reducible refine lmul ?_; omega) | (with_reducible refine addN ?_; omega) | (with_reducible refine subN ?_; omega) | (with_reducible refine quoN ?_; omega) | (with_reducible refine mulN ?_; omega) | (with_reducible refine addQ ?_; omega) | (with_reducible refine subQ ?_; omega) | (with_reducible refine mulQ ?_; omega) | (with_reducible refine shlQL ?_; omega) | (with_reducible refine shlQ ?_; omega) | (with_reducible refine remL ?_; decide) | (with_reducible refine shrL ?_; decide) | (with_reducible refine remN ?_; omega) | (with_reducible refine toU64 ?_ Uw Uq; omega) | (with_reducible exact toU32 Uq Uw) | exact bin_lss | exact bin_gtr | exact bin_eql | exact bin_neq | exact bin_leq | exact bin_geq | exact lenV_sl Us | exact ext_0 | exact ext_1 | exact ext_2 | exact pick_t | exact pick_f | exact bin_add64 (by omega) | exact bin_sub64 (by omega) | exact un_not | exact cv_int Uq Uw | exact cv_int Uw Uq | exact bin_add | exact bin_sub | exact bin_mul | rfl)) rfl ?_ | refine Ev.prim (by (first | with_reducible exact lssL | with_reducible exact gtrL | with_reducible exact eqlL | with_reducible exact neqL | with_reducible exact leqL | with_reducible exact geqL | with_reducible exact lssN | with_reducible exact gtrN | with_reducible exact eqlN | with_reducible exact neqN | with_reducible exact leqN | with_reducible exact geqN | (with_reducible refine addL ?_; omega) | (with_reducible refine subL ?_; omega) | (with_reducible refine quoL ?_; omega) | (with_reducible refine mulL ?_; omega) | (with_reducible refine lmul ?_; omega) | (with_reducible refine addN ?_; omega) | (with_reducible refine subN ?_; omega) | (with_reducible refine quoN ?_; omega) | (with_reducible refine mulN ?_; omega) | (with_reducible refine addQ ?_; omega) | (with_reducible refine subQ ?_; omega) | (with_reducible refine mulQ ?_; omega) | (with_reducible refine shlQL ?_; omega) | (with_reducible refine shlQ ?_; omega) | (with_reducible refine remL ?_; decide) | (with_reducible refine shrL ?_; decide) | (with_reducible refine remN ?_; omega) | (with_reducible refine toU64 ?_ Uw Uq; omega) | (with_reducible exact toU32 Uq Uw) | exact bin_lss | exact bin_gtr | exact bin_eql | exact bin_neq | exact bin_leq | exact bin_geq | exact lenV_sl Us | exact ext_0 | exact ext_1 | exact ext_2 | exact pick_t | exact pick_f | exact bin_add64 (by omega) | exact bin_sub64 (by omega) | exact un_not | exact cv_int Uq Uw | exact cv_int Uw Uq | exact bin_add | exact bin_sub | exact bin_mul | rfl)) ?_)
      refine Ev.prim (ha.len Us) ?_
      repeat (first | refine Ev.some2 ?_ | refine Ev.some1 ?_ | refine Ev.gDo ?_ | refine Ev.gSkipT ?_ | refine Ev.gSkipF ?_ | refine Ev.gUndef ?_ | refine Ev.gCall ?_ | refine Ev.tt ?_ | refine Ev.ff ?_ | refine Ev.gPrim (by (first | with_reducible exact lssL | with_reducible exact gtrL | with_reducible exact eqlL | with_reducible exact neqL | with_reducible exact leqL | with_reducible exact geqL | with_reducible exact lssN | with_reducible exact gtrN | with_reducible exact eqlN | with_reducible exact neqN | with_reducible exact leqN | with_reducible exact geqN | (with_reducible refine addL ?_; omega) | (with_reducible refine subL ?_; omega) | (with_reducible refine quoL ?_; omega) | (with_reducible refine mulL ?_; omega) | (with_reducible refine lmul ?_; omega) | (with_reducible refine addN ?_; omega) | (with_reducible refine subN ?_; omega) | (with_reducible refine quoN ?_; omega) | (with_reducible refine mulN ?_; omega) | (with_reducible refine addQ ?_; omega) | (with_reducible refine subQ ?_; omega) | (with_reducible refine mulQ ?_; omega) | (with_reducible refine shlQL ?_; omega) | (with_reducible refine shlQ ?_; omega) | (with_reducible refine remL ?_; decide) | (with_reducible refine shrL ?_; decide) | (with_reducible refine remN ?_; omega) | (with_reducible refine toU64 ?_ Uw Uq; omega) | (with_reducible exact toU32 Uq Uw) | exact bin_lss | exact bin_gtr | exact bin_eql | exact bin_neq | exact bin_leq | exact bin_geq | exact lenV_sl Us | exact ext_0 | exact ext_1 | exact ext_2 | exact pick_t | exact pick_f | exact bin_add64 (by omega) | exact bin_sub64 (by omega) | exact un_not | exact cv_int Uq Uw | exact cv_int Uw Uq | exact bin_add | exact bin_sub | exact bin_mul | rfl)) rfl ?_ | refine Ev.prim (by (first | with_reducible exact lssL | with_reducible exact gtrL | with_reducible exact eqlL | with_reducible exact neqL | with_reducible exact leqL | with_reducible exact geqL | with_reducible exact lssN | with_reducible exact gtrN | with_reducible exact eqlN | with_reducible exact neqN | with_reducible exact leqN | with_reducible exact geqN | (with_reducible refine addL ?_; omega) | (with_reducible refine subL ?_; omega) | (with_reducible refine quoL ?_; omega) | (with_reducible refine mulL ?_; omega) | (with_reducible refine lmul ?_; omega) | (with_reducible refine addN ?_; omega) | (with_reducible refine subN ?_; omega) | (with_reducible refine quoN ?_; omega) | (with_reducible refine mulN ?_; omega) | (with_reducible refine addQ ?_; omega) | (with_reducible refine subQ ?_; omega) | (with_reducible refine mulQ ?_; omega) | (with_reducible refine shlQL ?_; omega) | (with_reducible refine shlQ ?_; omega) | (with_reducible refine remL ?_; decide) | (with_reducible refine shrL ?_; decide) | (with_reducible refine remN ?_; omega) | (with_reducible refine toU64 ?_ Uw Uq; omega) | (with_reducible exact toU32 Uq Uw) | exact bin_lss | exact bin_gtr | exact bin_eql | exact bin_neq | exact bin_leq | exact bin_geq | exact lenV_sl Us | exact ext_0 | exact ext_1 | exact ext_2 | exact pick_t | exact pick_f | exact bin_add64 (by omega) | exact bin_sub64 (by omega) | exact un_not | exact cv_int Uq Uw | exact cv_int Uw Uq | exact bin_add | exact bin_sub | exact bin_mul | rfl)) ?_)
      obtain ⟨v, hv1, hv2⟩ := ha.uptoN (k := .i64) (i := xs.length - 1) Ew (by omega)
      refine Ev.prim hv1 ?_
      rw [← List.dropLast_eq_take] at hv2
      have hz : xs.getD m 0 = 0 := by omega
      rw [hz] at hd
      have e : val xs = val xs.dropLast := by conv => lhs; rw [hd, val_snoc_zero]
      rw [e]
      exact ih _ _ (by simp; omega) (by omega) hv2
    · repeat (first | refine Ev.some2 ?_ | refine Ev.some1 ?_ | refine Ev.gDo ?_ | refine Ev.gSkipT ?_ | refine Ev.gSkipF ?_ | refine Ev.gUndef ?_ | refine Ev.gCall ?_ | refine Ev.tt ?_ | refine Ev.ff ?_ | refine Ev.gPrim (by (first | with_reducible exact lssL | with_reducible exact gtrL | with_reducible exact eqlL | with_reducible exact neqL | with_reducible exact leqL | with_reducible exact geqL | with_reducible exact lssN | with_reducible exact gtrN | with_reducible exact eqlN | with_reducible exact neqN | with_reducible exact leqN | with_reducible exact geqN | (with_reducible refine addL ?_; omega) | (with_reducible refine subL ?_; omega) | (with_reducible refine quoL ?_; omega) | (with_reducible refine mulL ?_; omega) | (with_reducible refine lmul ?_; omega) | (with_reducible refine addN ?_; omega) | (with_reducible refine subN ?_; omega) | (with_reducible refine quoN ?_; omega) | (with_reducible refine mulN ?_; omega) | (with_reducible refine addQ ?_; omega) | (with_reducible refine subQ ?_; omega) | (with_reducible refine mulQ ?_; omega) | (with_reducible refine shlQL ?_; omega) | (with_reducible refine shlQ ?_; omega) | (with_reducible refine remL ?_; decide) | (with_reducible refine shrL ?_; decide) | (with_reducible refine remN ?_; omega) | (with_reducible refine toU64 ?_ Uw Uq; omega) | (with_reducible exact toU32 Uq Uw) | exact bin_lss | exact bin_gtr | exact bin_eql | exact bin_neq | exact bin_leq | exact bin_geq | exact lenV_sl Us | exact ext_0 | exact ext_1 | exact ext_2 | exact pick_t | exact pick_f | exact bin_add64 (by omega) | exact bin_sub64 (by omega) | exact un_not | exact cv_int Uq Uw | exact cv_int Uw Uq | exact bin_add | exact bin_sub | exact bin_mul | rfl)) rfl ?_ | refine Ev.prim (by (first | with_reducible exact lssL | with_reducible exact gtrL | with_reducible exact eqlL | with_reducible exact neqL | with_reducible exact leqL | with_reducible exact geqL | with_reducible exact lssN | with_reducible exact gtrN | with_reducible exact eqlN | with_reducible exact neqN | with_reducible exact leqN | with_reducible exact geqN | (with_reducible refine addL ?_; omega) | (with_reducible refine subL ?_; omega) | (with_reducible refine quoL ?_; omega) | (with_reducible refine mulL ?_; omega) | (with_reducible refine lmul ?_; omega) | (with_reducible refine addN ?_; omega) | (with_reducible refine subN ?_; omega) | (with_reducible refine quoN ?_; omega) | (with_reducible refine mulN ?_; omega) | (with_reducible refine addQ ?_; omega) | (with_reducible refine subQ ?_; omega) | (with_reducible refine mulQ ?_; omega) | (with_reducible refine shlQL ?_; omega) | (with_reducible refine shlQ ?_; omega) | (with_reducible refine remL ?_; decide) | (with_reducible refine shrL ?_; decide) | (with_reducible refine remN ?_; omega) | (with_reducible refine toU64 ?_ Uw Uq; omega) | (with_reducible exact toU32 Uq Uw) | exact bin_lss | exact bin_gtr | exact bin_eql | exact bin_neq | exact bin_leq | exact bin_geq | exact lenV_sl Us | exact ext_0 | exact ext_1 | exact ext_2 | exact pick_t | exact pick_f | exact bin_add64 (by omega) | exact bin_sub64 (by omega) | exact un_not | exact cv_int Uq Uw | exact cv_int Uw Uq | exact bin_add | exact bin_sub | exact bin_mul | rfl)) ?_)
      refine Ev.ret ⟨a, rfl, ?_⟩
      rw [limbs_val ha.2 (fun y hy => ?_)]
      · exact ha
      · rw [hd, List.getLast?_append] at hy
        have hy : xs.getD m 0 = y := by simpa using hy
        omega
theorem trim_pure {B H : AH} {xs : List Nat} {a : Value} (hm : xs.length < 1099511627776) (ha : RdN B a xs) (hL : Le B H) : Ev (fun k _ => rn k 108 [a] H) (Pu H fun v => RdN B v (limbs (val xs))) := by
  refine Ev.fn (fun k => f108_eq k a H) ?_
  refine Ev.bind (Ev.loop (trim_loop hL _ xs a rfl hm ha)) ?_
  rintro _ ⟨v, rfl, hv⟩
  refine Ev.eq (fun k _ => f108_A0_x0 k v H) ?_
  exact Ev.doneU hv
theorem trim_spec {B H : AH} {xs : List Nat} {a : Value} (hm : xs.length < 1099511627776) (ha : RdN B a xs) (hL : Le B H) : Ev (fun k _ => rn k 108 [a] H) (An B H fun B' v => RdN B' v (limbs (val xs))) :=
  (trim_pure hm ha hL).mono fun r ⟨v, e, hv⟩ => by subst e; exact (St.start hL).an hv
theorem clone_spec {B H : AH} {xs : List Nat} {a : Value} (hm : xs.length < 1099511627776) (ha : RdN B a xs) (hL : Le B H) : Ev (fun k _ => rn k 128 [a] H) (An B H fun B' v => RdN B' v xs) := by
  refine Ev.fn (fun k => f128_eq k a H) ?_
  have hS := St.start hL
  obtain ⟨ha1, ha2⟩ := ha
  rcases ha1 with ⟨rfl, hx⟩ | ⟨b, off, cap, rfl, hc, h⟩
  · refine Ev.prim (a := .bool true) (by kernel_rfl) ?_
    repeat (first | refine Ev.some2 ?_ | refine Ev.some1 ?_ | refine Ev.gDo ?_ | refine Ev.gSkipT ?_ | refine Ev.gSkipF ?_ | refine Ev.gUndef ?_ | refine Ev.gCall ?_ | refine Ev.tt ?_ | refine Ev.ff ?_ | refine Ev.gPrim (by (first | with_reducible exact lssL | with_reducible exact gtrL | with_reducible exact eqlL | with_reducible exact neqL | with_reducible exact leqL | with_reducible exact geqL | with_reducible exact lssN | with_reducible exact gtrN | with_reducible exact eqlN | with_reducible exact neqN | with_reducible exact leqN | with_reducible exact geqN | (with_reducible refine addL ?_; omega) | (with_reducible refine subL ?_; omega) | (with_reducible refine quoL ?_; omega) | (with_reducible refine mulL ?_; omega) | (with_reducible refine lmul ?_; omega) | (with_reducible refine addN ?_; omega) | (with_reducible refine subN ?_; omega) | (with_reducible refine quoN ?_; omega) | (with_reducible refine mulN ?_; omega) | (with_reducible refine addQ ?_; omega) | (with_reducible refine subQ ?_; omega) | (with_reducible refine mulQ ?_; omega) | (with_reducible refine shlQL ?_; omega) | (with_reducible refine shlQ ?_; omega) | (with_reducible refine remL ?_; decide) | (with_reducible refine shrL ?_; decide) | (with_reducible refine remN ?_; omega) | (with_reducible refine toU64 ?_ Uw Uq; omega) | (with_reducible exact toU32 Uq Uw) | exact bin_lss | exact bin_gtr | exact bin_eql | exact bin_neq | exact bin_leq | exact bin_geq | exact lenV_sl Us | exact ext_0 | exact ext_1 | exact ext_2 | exact pick_t | exact pick_f | exact bin_add64 (by omega) | exact bin_sub64 (by omega) | exact un_not | exact cv_int Uq Uw | exact cv_int Uw Uq | exact bin_add | exact bin_sub | exact bin_mul | rfl)) rfl ?_ | refine Ev.prim (by (first | with_reducible exact lssL | with_reducible exact gtrL | with_reducible exact eqlL | with_reducible exact neqL | with_reducible exact leqL | with_reducible exact geqL | with_reducible exact lssN | with_reducible exact gtrN | with_reducible exact eqlN | with_reducible exact neqN | with_reducible exact leqN | with_reducible exact geqN | (with_reducible refine addL ?_; omega) | (with_reducible refine subL ?_; omega) | (with_reducible refine quoL ?_; omega) | (with_reducible refine mulL ?_; omega) | (with_reducible refine lmul ?_; omega) | (with_reducible refine addN ?_; omega) | (with_reducible refine subN ?_; omega) | (with_reducible refine quoN ?_; omega) | (with_reducible refine mulN ?_; omega) | (with_reducible refine addQ ?_; omega) | (with_reducible refine subQ ?_; omega) | (with_reducible refine mulQ ?_; omega) | (with_reducible refine shlQL ?_; omega) | (with_reducible refine shlQ ?_; omega) | (with_reducible refine remL ?_; decide) | (with_reducible refine shrL ?_; decide) | (with_reducible refine remN ?_; omega) | (with_reducible refine toU64 ?_ Uw Uq; omega) | (with_reducible exact toU32 Uq Uw) | exact bin_lss | exact bin_gtr | exact bin_eql | exact bin_neq | exact bin_leq | exact bin_geq | exact lenV_sl Us | exact ext_0 | exact ext_1 | exact ext_2 | exact pick_t | exact pick_f | exact bin_add64 (by omega) | exact bin_sub64 (by omega) | exact un_not | exact cv_int Uq Uw | exact cv_int Uw Uq | exact bin_add | exact bin_sub | exact bin_mul | rfl)) ?_)
    exact Ev.done hS ⟨.inl ⟨rfl, hx⟩, ha2⟩
  · refine Ev.prim (bin_eql_sl Us) ?_
    repeat (first | refine Ev.some2 ?_ | refine Ev.some1 ?_ | refine Ev.gDo ?_ | refine Ev.gSkipT ?_ | refine Ev.gSkipF ?_ | refine Ev.gUndef ?_ | refine Ev.gCall ?_ | refine Ev.tt ?_ | refine Ev.ff ?_ | refine Ev.gPrim (by (first | with_reducible exact lssL | with_reducible exact gtrL | with_reducible exact eqlL | with_reducible exact neqL | with_reducible exact leqL | with_reducible exact geqL | with_reducible exact lssN | with_reducible exact gtrN | with_reducible exact eqlN | with_reducible exact neqN | with_reducible exact leqN | with_reducible exact geqN | (with_reducible refine addL ?_; omega) | (with_reducible refine subL ?_; omega) | (with_reducible refine quoL ?_; omega) | (with_reducible refine mulL ?_; omega) | (with_reducible refine lmul ?_; omega) | (with_reducible refine addN ?_; omega) | (with_reducible refine subN ?_; omega) | (with_reducible refine quoN ?_; omega) | (with_reducible refine mulN ?_; omega) | (with_reducible refine addQ ?_; omega) | (with_reducible refine subQ ?_; omega) | (with_reducible refine mulQ ?_; omega) | (with_reducible refine shlQL ?_; omega) | (with_reducible refine shlQ ?_; omega) | (with_reducible refine remL ?_; decide) | (with_reducible refine shrL ?_; decide) | (with_reducible refine remN ?_; omega) | (with_reducible refine toU64 ?_ Uw Uq; omega) | (with_reducible exact toU32 Uq Uw) | exact bin_lss | exact bin_gtr | exact bin_eql | exact bin_neq | exact bin_leq | exact bin_geq | exact lenV_sl Us | exact ext_0 | exact ext_1 | exact ext_2 | exact pick_t | exact pick_f | exact bin_add64 (by omega) | exact bin_sub64 (by omega) | exact un_not | exact cv_int Uq Uw | exact cv_int Uw Uq | exact bin_add | exact bin_sub | exact bin_mul | rfl)) rfl ?_ | refine Ev.prim (by (first | with_reducible exact lssL | with_reducible exact gtrL | with_reducible exact eqlL | with_reducible exact neqL | with_reducible exact leqL | with_reducible exact geqL | with_reducible exact lssN | with_reducible exact gtrN | with_reducible exact eqlN | with_reducible exact neqN | with_reducible exact leqN | with_reducible exact geqN | (with_reducible refine addL ?_; omega) | (with_reducible refine subL ?_; omega) | (with_reducible refine quoL ?_; omega) | (with_reducible refine mulL ?_; omega) | (with_reducible refine lmul ?_; omega) | (with_reducible refine addN ?_; omega) | (with_reducible refine subN ?_; omega) | (with_reducible refine quoN ?_; omega) | (with_reducible refine mulN ?_; omega) | (with_reducible refine addQ ?_; omega) | (with_reducible refine subQ ?_; omega) | (with_reducible refine mulQ ?_; omega) | (with_reducible refine shlQL ?_; omega) | (with_reducible refine shlQ ?_; omega) | (with_reducible refine remL ?_; decide) | (with_reducible refine shrL ?_; decide) | (with_reducible refine remN ?_; omega) | (with_reducible refine toU64 ?_ Uw Uq; omega) | (with_reducible exact toU32 Uq Uw) | exact bin_lss | exact bin_gtr | exact bin_eql | exact bin_neq | exact bin_leq | exact bin_geq | exact lenV_sl Us | exact ext_0 | exact ext_1 | exact ext_2 | exact pick_t | exact pick_f | exact bin_add64 (by omega) | exact bin_sub64 (by omega) | exact un_not | exact cv_int Uq Uw | exact cv_int Uw Uq | exact bin_add | exact bin_sub | exact bin_mul | rfl)) ?_)
    refine Ev.buildS (cs := []) Ew hS (by decide) rfl fun b2 B2 H2 hm2 hS2 => ?_
    have hr : Sc B2 (sl b off (xs.map u32).length cap) (xs.map u32) := Sc.mono hm2 (.inr ⟨b, off, cap, rfl, hc, h⟩)
    by_cases he : xs = []
    · subst he
      refine Ev.apNone Ew Us (.inr ⟨_, _, _, _, rfl⟩) (hr.up hS2.le) ?_
      exact Ev.done hS2 ⟨.inr ⟨b2, 0, 0, rfl, Nat.le_refl _, .inl rfl⟩, ha2⟩
    · refine Ev.apNew Ew Us hS2 (.inr ⟨_, _, _, rfl⟩) (hr.up hS2.le) (all_u32 xs) (by simpa using he) (by rw [List.length_map]; omega) fun b3 B3 H3 hm3 hS3 => ?_
      obtain ⟨B4, hm4, hr4, hS4⟩ := hS3.freezeN (n := (xs.map u32).length) ha2 (List.length_map ..) (cap := (xs.map u32).length + 1) (by rw [List.length_map]; omega)
      exact Ev.done hS4 hr4
theorem Trim_spec {B H : AH} {xs : List Nat} {a : Value} (hm : xs.length < 1099511627776) (ha : RdN B a xs) (hL : Le B H) : Ev (fun k _ => rn k 110 [a] H) (An B H fun B' v => RdN B' v (limbs (val xs))) := by
  refine Ev.fn (fun k => f110_eq k a H) ?_
  refine Ev.call (St.start hL) (trim_spec hm ha) fun v B1 H1 hm1 hS1 h1 => ?_
  have := limbs_length_le (val_lt ha.2)
  refine Ev.call hS1 (clone_spec (by omega) h1) fun v2 B2 H2 hm2 hS2 h2 => ?_
  exact Ev.done hS2 h2
theorem From_spec {B H : AH} {n : Nat} (hn : n < 18446744073709551616) (hL : Le B H) : Ev (fun k _ => rn k 99 [.int .u64 n] H) (An B H fun B' v => RdN B' v (limbs n)) := by
  refine Ev.fn (fun k => f99_eq k _ H) ?_
  have hS := St.start hL
  repeat (first | refine Ev.some2 ?_ | refine Ev.some1 ?_ | refine Ev.gDo ?_ | refine Ev.gSkipT ?_ | refine Ev.gSkipF ?_ | refine Ev.gUndef ?_ | refine Ev.gCall ?_ | refine Ev.tt ?_ | refine Ev.ff ?_ | refine Ev.gPrim (by (first | with_reducible exact lssL | with_reducible exact gtrL | with_reducible exact eqlL | with_reducible exact neqL | with_reducible exact leqL | with_reducible exact geqL | with_reducible exact lssN | with_reducible exact gtrN | with_reducible exact eqlN | with_reducible exact neqN | with_reducible exact leqN | with_reducible exact geqN | (with_reducible refine addL ?_; omega) | (with_reducible refine subL ?_; omega) | (with_reducible refine quoL ?_; omega) | (with_reducible refine mulL ?_; omega) | (with_reducible refine lmul ?_; omega) | (with_reducible refine addN ?_; omega) | (with_reducible refine subN ?_; omega) | (with_reducible refine quoN ?_; omega) | (with_reducible refine mulN ?_; omega) | (with_reducible refine addQ ?_; omega) | (with_reducible refine subQ ?_; omega) | (with_reducible refine mulQ ?_; omega) | (with_reducible refine shlQL ?_; omega) | (with_reducible refine shlQ ?_; omega) | (with_reducible refine remL ?_; decide) | (with_reducible refine shrL ?_; decide) | (with_reducible refine remN ?_; omega) | (with_reducible refine toU64 ?_ Uw Uq; omega) | (with_reducible exact toU32 Uq Uw) | exact bin_lss | exact bin_gtr | exact bin_eql | exact bin_neq | exact bin_leq | exact bin_geq | exact lenV_sl Us | exact ext_0 | exact ext_1 | exact ext_2 | exact pick_t | exact pick_f | exact bin_add64 (by omega) | exact bin_sub64 (by omega) | exact un_not | exact cv_int Uq Uw | exact cv_int Uw Uq | exact bin_add | exact bin_sub | exact bin_mul | rfl)) rfl ?_ | refine Ev.prim (by (first | with_reducible exact lssL | with_reducible exact gtrL | with_reducible exact eqlL | with_reducible exact neqL | with_reducible exact leqL | with_reducible exact geqL | with_reducible exact lssN | with_reducible exact gtrN | with_reducible exact eqlN | with_reducible exact neqN | with_reducible exact leqN | with_reducible exact geqN | (with_reducible refine addL ?_; omega) | (with_reducible refine subL ?_; omega) | (with_reducible refine quoL ?_; omega) | (with_reducible refine mulL ?_; omega) | (with_reducible refine lmul ?_; omega) | (with_reducible refine addN ?_; omega) | (with_reducible refine subN ?_; omega) | (with_reducible refine quoN ?_; omega) | (with_reducible refine mulN ?_; omega) | (with_reducible refine addQ ?_; omega) | (with_reducible refine subQ ?_; omega) | (with_reducible refine mulQ ?_; omega) | (with_reducible refine shlQL ?_; omega) | (with_reducible refine shlQ ?_; omega) | (with_reducible refine remL ?_; decide) | (with_reducible refine shrL ?_; decide) | (with_reducible refine remN ?_; omega) | (with_reducible refine toU64 ?_ Uw Uq; omega) | (with_reducible exact toU32 Uq Uw) | exact bin_lss | exact bin_gtr | exact bin_eql | exact bin_neq | exact bin_leq | exact bin_geq | exact lenV_sl Us | exact ext_0 | exact ext_1 | exact ext_2 | exact pick_t | exact pick_f | exact bin_add64 (by omega) | exact bin_sub64 (by omega) | exact un_not | exact cv_int Uq Uw | exact cv_int Uw Uq | exact bin_add | exact bin_sub | exact bin_mul | rfl)) ?_)
  refine Ev.buildS (cs := [n % 4294967296, n / 4294967296].map u32) Ew hS (by decide) ?_ fun b2 B2 H2 hm2 hS2 => ?_
  · rw [Nat.mod_eq_of_lt (show n / 2 ^ 32 < 4294967296 by omega)]
    rfl
  · obtain ⟨B3, hm3, h3, hS3⟩ := hS2.freezeN (n := 2) (cap := 2) (xs := [n % 4294967296, n / 4294967296]) (by intro x hx; simp at hx; omega) rfl (Nat.le_refl _)
    refine Ev.call hS3 (trim_spec (by simp) h3) fun v B1 H1 hm1 hS1 h1 => ?_
    refine Ev.done hS1 ?_
    rw [show val [n % 4294967296, n / 4294967296] = n by simp only [val]; omega] at h1
    exact h1
theorem Add32_spec {H : AH} {a b c : Nat} (ha : a < 4294967296) (hb : b < 4294967296) (hc : c < 4294967296) :
    Ev (fun k _ => rn k 125 [u32 a, u32 b, u32 c] H) (fun r => r = (.tuple #[u32 ((a + b + c) % 4294967296), u32 ((a + b + c) / 4294967296)], H)) := by
  refine Ev.fn (fun k => f125_eq k _ _ _ H) ?_
  repeat (first | refine Ev.some2 ?_ | refine Ev.some1 ?_ | refine Ev.gDo ?_ | refine Ev.gSkipT ?_ | refine Ev.gSkipF ?_ | refine Ev.gUndef ?_ | refine Ev.gCall ?_ | refine Ev.tt ?_ | refine Ev.ff ?_ | refine Ev.gPrim (by (first | with_reducible exact lssL | with_reducible exact gtrL | with_reducible exact eqlL | with_reducible exact neqL | with_reducible exact leqL | with_reducible exact geqL | with_reducible exact lssN | with_reducible exact gtrN | with_reducible exact eqlN | with_reducible exact neqN | with_reducible exact leqN | with_reducible exact geqN | (with_reducible refine addL ?_; omega) | (with_reducible refine subL ?_; omega) | (with_reducible refine quoL ?_; omega) | (with_reducible refine mulL ?_; omega) | (with_reducible refine lmul ?_; omega) | (with_reducible refine addN ?_; omega) | (with_reducible refine subN ?_; omega) | (with_reducible refine quoN ?_; omega) | (with_reducible refine mulN ?_; omega) | (with_reducible refine addQ ?_; omega) | (with_reducible refine subQ ?_; omega) | (with_reducible refine mulQ ?_; omega) | (with_reducible refine shlQL ?_; omega) | (with_reducible refine shlQ ?_; omega) | (with_reducible refine remL ?_; decide) | (with_reducible refine shrL ?_; decide) | (with_reducible refine remN ?_; omega) | (with_reducible refine toU64 ?_ Uw Uq; omega) | (with_reducible exact toU32 Uq Uw) | exact bin_lss | exact bin_gtr | exact bin_eql | exact bin_neq | exact bin_leq | exact bin_geq | exact lenV_sl Us | exact ext_0 | exact ext_1 | exact ext_2 | exact pick_t | exact pick_f | exact bin_add64 (by omega) | exact bin_sub64 (by omega) | exact un_not | exact cv_int Uq Uw | exact cv_int Uw Uq | exact bin_add | exact bin_sub | exact bin_mul | rfl)) rfl ?_ | refine Ev.prim (by (first | with_reducible exact lssL | with_reducible exact gtrL | with_reducible exact eqlL | with_reducible exact neqL | with_reducible exact leqL | with_reducible exact geqL | with_reducible exact lssN | with_reducible exact gtrN | with_reducible exact eqlN | with_reducible exact neqN | with_reducible exact leqN | with_reducible exact geqN | (with_reducible refine addL ?_; omega) | (with_reducible refine subL ?_; omega) | (with_reducible refine quoL ?_; omega) | (with_reducible refine mulL ?_; omega) | (with_reducible refine lmul ?_; omega) | (with_reducible refine addN ?_; omega) | (with_reducible refine subN ?_; omega) | (with_reducible refine quoN ?_; omega) | (with_reducible refine mulN ?_; omega) | (with_reducible refine addQ ?_; omega) | (with_reducible refine subQ ?_; omega) | (with_reducible refine mulQ ?_; omega) | (with_reducible refine shlQL ?_; omega) | (with_reducible refine shlQ ?_; omega) | (with_reducible refine remL ?_; decide) | (with_reducible refine shrL ?_; decide) | (with_reducible refine remN ?_; omega) | (with_reducible refine toU64 ?_ Uw Uq; omega) | (with_reducible exact toU32 Uq Uw) | exact bin_lss | exact bin_gtr | exact bin_eql | exact bin_neq | exact bin_leq | exact bin_geq | exact lenV_sl Us | exact ext_0 | exact ext_1 | exact ext_2 | exact pick_t | exact pick_f | exact bin_add64 (by omega) | exact bin_sub64 (by omega) | exact un_not | exact cv_int Uq Uw | exact cv_int Uw Uq | exact bin_add | exact bin_sub | exact bin_mul | rfl)) ?_)
  rw [Nat.mod_eq_of_lt (show (a + b + c) / 2 ^ 32 < 4294967296 by omega)]
  exact Ev.ret rfl
theorem add_loop {H0 B0 B : AH} {xs ys : List Nat} {a b : Value} {bo : Nat} (ha : RdN B a xs) (hb : RdN B b ys) (hxy : ys.length ≤ xs.length) (hm : xs.length < 549755813888) :
    ∀ (m i : Nat) (j : Int) (zs : List Nat) (c : Nat) (H : AH), i + m = xs.length → j = i → zs.length = xs.length + 1 → small zs → c ≤ 1 → val (zs.take i) + 4294967296 ^ i * c = val (xs.take i) + val (ys.take i) →
    St H0 B0 B [(bo, ⟨zs.map u32, 67, .fix⟩)] H →
    Ev (fun k n => f96_L0 k a b (sl bo 0 (xs.length + 1) (xs.length + 1)) (u32 c) (.int .i64 (xs.length : Nat)) (.int .i64 j) n H)
      (fun o => ∃ zs c H, o = (.exit 0, f96_X_L0 a (sl bo 0 (xs.length + 1) (xs.length + 1)) (u32 c), H) ∧ zs.length = xs.length + 1 ∧ small zs ∧ c ≤ 1 ∧ val (zs.take xs.length) + 4294967296 ^ xs.length * c = val xs + val ys ∧
        St H0 B0 B [(bo, ⟨zs.map u32, 67, .fix⟩)] H) := by
  intro m
  induction m with
  | zero =>
    intro i j zs c H hi hj hz hsm hc hv hS
    refine Ev.succ (fun k n => f96_L0_succ k _ _ _ _ _ _ n H) ?_
    refine Ev.prim bin_lss ?_
    refine Ev.ifp (fun h => absurd h (by omega)) fun _ => ?_
    refine Ev.ret ⟨zs, c, H, rfl, hz, hsm, hc, ?_, hS⟩
    have : i = xs.length := by omega
    subst this
    rw [List.take_of_length_le (Nat.le_refl _) (l := xs), List.take_of_length_le hxy] at hv
    exact hv
  | succ m ih =>
    intro i j zs c H hi hj hz hsm hc hv hS
    subst hj
    refine Ev.succ (fun k n => f96_L0_succ k _ _ _ _ _ _ n H) ?_
    refine Ev.prim bin_lss ?_
    refine Ev.ifp (fun _ => ?_) fun h => absurd (by omega) h
    have hJ : ∀ y : Nat, y = ys.getD i 0 → Ev (fun k n => f96_J1 k n a b (sl bo 0 (xs.length + 1) (xs.length + 1)) (u32 c) (.int .i64 (i : Nat)) (u32 y) (.int .i64 (xs.length : Nat)) (.int .i64 (i : Nat)) H)
      (fun o => ∃ zs c H, o = (.exit 0, f96_X_L0 a (sl bo 0 (xs.length + 1) (xs.length + 1)) (u32 c), H) ∧ zs.length = xs.length + 1 ∧ small zs ∧ c ≤ 1 ∧ val (zs.take xs.length) + 4294967296 ^ xs.length * c = val xs + val ys ∧
        St H0 B0 B [(bo, ⟨zs.map u32, 67, .fix⟩)] H) := by
      intro y hy
      have hx := ha.2.getD i
      have hy' := hb.2.getD i
      refine Ev.eq (fun k n => f96_J1_eq k n _ _ _ _ _ _ _ _ H) ?_
      obtain ⟨p, hp1, hp2⟩ := ha.ix (x := (i : Int)) (k := .i64) Us Iw Sw Aw (by omega)
      refine Ev.prim hp1 ?_
      refine Ev.prim (hp2 H hS.le) ?_
      rw [show ((i : Int)).toNat = i by omega]
      refine Ev.callP (Add32_spec hx (by omega) (by omega)) ?_
      repeat (first | refine Ev.some2 ?_ | refine Ev.some1 ?_ | refine Ev.gDo ?_ | refine Ev.gSkipT ?_ | refine Ev.gSkipF ?_ | refine Ev.gUndef ?_ | refine Ev.gCall ?_ | refine Ev.tt ?_ | refine Ev.ff ?_ | refine Ev.gPrim (by (first | with_reducible exact lssL | with_reducible exact gtrL | with_reducible exact eqlL | with_reducible exact neqL | with_reducible exact leqL | with_reducible exact geqL | with_reducible exact lssN | with_reducible exact gtrN | with_reducible exact eqlN | with_reducible exact neqN | with_reducible exact leqN | with_reducible exact geqN | (with_reducible refine addL ?_; omega) | (with_reducible refine subL ?_; omega) | (with_reducible refine quoL ?_; omega) | (with_reducible refine mulL ?_; omega) | (with_reducible refine lmul ?_; omega) | (with_reducible refine addN ?_; omega) | (with_reducible refine subN ?_; omega) | (with_reducible refine quoN ?_; omega) | (with_reducible refine mulN ?_; omega) | (with_reducible refine addQ ?_; omega) | (with_reducible refine subQ ?_; omega) | (with_reducible refine mulQ ?_; omega) | (with_reducible refine shlQL ?_; omega) | (with_reducible refine shlQ ?_; omega) | (with_reducible refine remL ?_; decide) | (with_reducible refine shrL ?_; decide) | (with_reducible refine remN ?_; omega) | (with_reducible refine toU64 ?_ Uw Uq; omega) | (with_reducible exact toU32 Uq Uw) | exact bin_lss | exact bin_gtr | exact bin_eql | exact bin_neq | exact bin_leq | exact bin_geq | exact lenV_sl Us | exact ext_0 | exact ext_1 | exact ext_2 | exact pick_t | exact pick_f | exact bin_add64 (by omega) | exact bin_sub64 (by omega) | exact un_not | exact cv_int Uq Uw | exact cv_int Uw Uq | exact bin_add | exact bin_sub | exact bin_mul | rfl)) rfl ?_ | refine Ev.prim (by (first | with_reducible exact lssL | with_reducible exact gtrL | with_reducible exact eqlL | with_reducible exact neqL | with_reducible exact leqL | with_reducible exact geqL | with_reducible exact lssN | with_reducible exact gtrN | with_reducible exact eqlN | with_reducible exact neqN | with_reducible exact leqN | with_reducible exact geqN | (with_reducible refine addL ?_; omega) | (with_reducible refine subL ?_; omega) | (with_reducible refine quoL ?_; omega) | (with_reducible refine mulL ?_; omega) | (with_reducible refine lmul ?_; omega) | (with_reducible refine addN ?_; omega) | (with_reducible refine subN ?_; omega) | (with_reducible refine quoN ?_; omega) | (with_reducible refine mulN ?_; omega) | (with_reducible refine addQ ?_; omega) | (with_reducible refine subQ ?_; omega) | (with_reducible refine mulQ ?_; omega) | (with_reducible refine shlQL ?_; omega) | (with_reducible refine shlQ ?_; omega) | (with_reducible refine remL ?_; decide) | (with_reducible refine shrL ?_; decide) | (with_reducible refine remN ?_; omega) | (with_reducible refine toU64 ?_ Uw Uq; omega) | (with_reducible exact toU32 Uq Uw) | exact bin_lss | exact bin_gtr | exact bin_eql | exact bin_neq | exact bin_leq | exact bin_geq | exact lenV_sl Us | exact ext_0 | exact ext_1 | exact ext_2 | exact pick_t | exact pick_f | exact bin_add64 (by omega) | exact bin_sub64 (by omega) | exact un_not | exact cv_int Uq Uw | exact cv_int Uw Uq | exact bin_add | exact bin_sub | exact bin_mul | rfl)) ?_)
      refine Ev.prim (ixA_own Ew (by omega)) ?_
      refine Ev.stW Ew hS (by (first | exact .head _ | exact .tail _ (.head _) | exact .tail _ (.tail _ (.head _)) | exact .tail _ (.tail _ (.tail _ (.head _))) | exact .tail _ (.tail _ (.tail _ (.tail _ (.head _)))))) (j := i) (by omega) (by omega) rfl (by simp) (.head _) fun H' hS' => ?_
      repeat (first | refine Ev.some2 ?_ | refine Ev.some1 ?_ | refine Ev.gDo ?_ | refine Ev.gSkipT ?_ | refine Ev.gSkipF ?_ | refine Ev.gUndef ?_ | refine Ev.gCall ?_ | refine Ev.tt ?_ | refine Ev.ff ?_ | refine Ev.gPrim (by (first | with_reducible exact lssL | with_reducible exact gtrL | with_reducible exact eqlL | with_reducible exact neqL | with_reducible exact leqL | with_reducible exact geqL | with_reducible exact lssN | with_reducible exact gtrN | with_reducible exact eqlN | with_reducible exact neqN | with_reducible exact leqN | with_reducible exact geqN | (with_reducible refine addL ?_; omega) | (with_reducible refine subL ?_; omega) | (with_reducible refine quoL ?_; omega) | (with_reducible refine mulL ?_; omega) | (with_reducible refine lmul ?_; omega) | (with_reducible refine addN ?_; omega) | (with_reducible refine subN ?_; omega) | (with_reducible refine quoN ?_; omega) | (with_reducible refine mulN ?_; omega) | (with_reducible refine addQ ?_; omega) | (with_reducible refine subQ ?_; omega) | (with_reducible refine mulQ ?_; omega) | (with_reducible refine shlQL ?_; omega) | (with_reducible refine shlQ ?_; omega) | (with_reducible refine remL ?_; decide) | (with_reducible refine shrL ?_; decide) | (with_reducible refine remN ?_; omega) | (with_reducible refine toU64 ?_ Uw Uq; omega) | (with_reducible exact toU32 Uq Uw) | exact bin_lss | exact bin_gtr | exact bin_eql | exact bin_neq | exact bin_leq | exact bin_geq | exact lenV_sl Us | exact ext_0 | exact ext_1 | exact ext_2 | exact pick_t | exact pick_f | exact bin_add64 (by omega) | exact bin_sub64 (by omega) | exact un_not | exact cv_int Uq Uw | exact cv_int Uw Uq | exact bin_add | exact bin_sub | exact bin_mul | rfl)) rfl ?_ | refine Ev.prim (by (first | with_reducible exact lssL | with_reducible exact gtrL | with_reducible exact eqlL | with_reducible exact neqL | with_reducible exact leqL | with_reducible exact geqL | with_reducible exact lssN | with_reducible exact gtrN | with_reducible exact eqlN | with_reducible exact neqN | with_reducible exact leqN | with_reducible exact geqN | (with_reducible refine addL ?_; omega) | (with_reducible refine subL ?_; omega) | (with_reducible refine quoL ?_; omega) | (with_reducible refine mulL ?_; omega) | (with_reducible refine lmul ?_; omega) | (with_reducible refine addN ?_; omega) | (with_reducible refine subN ?_; omega) | (with_reducible refine quoN ?_; omega) | (with_reducible refine mulN ?_; omega) | (with_reducible refine addQ ?_; omega) | (with_reducible refine subQ ?_; omega) | (with_reducible refine mulQ ?_; omega) | (with_reducible refine shlQL ?_; omega) | (with_reducible refine shlQ ?_; omega) | (with_reducible refine remL ?_; decide) | (with_reducible refine shrL ?_; decide) | (with_reducible refine remN ?_; omega) | (with_reducible refine toU64 ?_ Uw Uq; omega) | (with_reducible exact toU32 Uq Uw) | exact bin_lss | exact bin_gtr | exact bin_eql | exact bin_neq | exact bin_leq | exact bin_geq | exact lenV_sl Us | exact ext_0 | exact ext_1 | exact ext_2 | exact pick_t | exact pick_f | exact bin_add64 (by omega) | exact bin_sub64 (by omega) | exact un_not | exact cv_int Uq Uw | exact cv_int Uw Uq | exact bin_add | exact bin_sub | exact bin_mul | rfl)) ?_)
      refine ih (i + 1) _ _ _ H' (by omega) (by omega) (by simp [hz]) (hsm.set _ (Nat.mod_lt _ (by decide))) (by omega) ?_ hS'
      rw [val_take_set (by omega), val_take_succ' xs, val_take_succ' ys, Nat.pow_succ, Nat.add_assoc, mul_step (Nat.mod_add_div _ _), ← hy]
      simp only [Nat.mul_add]
      omega
    refine Ev.prim (hb.len Us) ?_
    refine Ev.prim bin_lss ?_
    refine Ev.ifp (fun h => ?_) fun h => ?_
    · obtain ⟨p, hp1, hp2⟩ := hb.ix (x := (i : Int)) (k := .i64) Us Iw Sw Aw (by omega)
      refine Ev.prim hp1 ?_
      refine Ev.prim (hp2 H hS.le) ?_
      exact hJ _ rfl
    · exact hJ 0 (by rw [List.getD_eq_getElem?_getD, List.getElem?_eq_none (by omega)]; rfl)
theorem Add_spec {B H : AH} {xs ys : List Nat} {a b : Value} (ha : RdN B a xs) (hb : RdN B b ys) (hm : xs.length < 549755813888) (hm' : ys.length < 549755813888) (hL : Le B H) :
    Ev (fun k _ => rn k 96 [a, b] H) (An B H fun B' v => RdN B' v (limbs (val xs + val ys))) := by
  have hJ : ∀ (xs ys : List Nat) (a b : Value), RdN B a xs → RdN B b ys → xs.length < 549755813888 → ys.length ≤ xs.length → Ev (fun k _ => f96_J0 k a b H) (An B H fun B' v => RdN B' v (limbs (val xs + val ys))) := by
    intro xs ys a b ha hb hm hxy
    refine Ev.eq (fun k _ => f96_J0_eq k _ _ H) ?_
    refine Ev.prim (ha.len Us) ?_
    refine Ev.prim (bin_add64 (by omega)) ?_
    rw [show (xs.length : Int) + 1 = ((xs.length + 1 : Nat) : Int) by omega]
    refine Ev.mkS Ew (St.start hL) (by omega) (by omega) fun bo B1 H1 hm1 hS1 => ?_
    rw [map_replicate] at hS1
    refine Ev.prim (ha.len Us) ?_
    refine Ev.bind (Ev.loop (add_loop (ha.mono hm1) (hb.mono hm1) hxy hm xs.length 0 0 (List.replicate (xs.length + 1) 0) 0 H1 (by omega) rfl (by simp) (small_replicate _) (by omega) (by simp [val]) hS1)) ?_
    rintro _ ⟨zs, c, H2, rfl, hz, hsm, hc, hv, hS2⟩
    refine Ev.eq (fun k _ => f96_A0_x0 k _ _ _ H2) ?_
    refine Ev.prim (ha.len Us) ?_
    refine Ev.prim (ixA_own Ew (by omega)) ?_
    refine Ev.stW Ew hS2 (by (first | exact .head _ | exact .tail _ (.head _) | exact .tail _ (.tail _ (.head _)) | exact .tail _ (.tail _ (.tail _ (.head _))) | exact .tail _ (.tail _ (.tail _ (.tail _ (.head _)))))) (j := xs.length) (by omega) (by omega) rfl (by simp) (.head _) fun H3 hS3 => ?_
    obtain ⟨B4, hm4, hr4, hS4⟩ := hS3.freezeN (n := xs.length + 1) (cap := xs.length + 1) (hsm.set _ (by omega)) (by simp [hz]) (by simp [hz])
    refine Ev.call hS4 (trim_spec (by simp [hz]; omega) hr4) fun v B5 H5 hm5 hS5 h5 => ?_
    refine Ev.done hS5 ?_
    have e := val_take_set (zs := zs) (i := xs.length) (w := c) (by omega)
    rw [List.take_of_length_le (by simp [hz]), hv] at e
    rw [← e]; exact h5
  refine Ev.fn (fun k => f96_eq k _ _ H) ?_
  refine Ev.prim (ha.len Us) ?_
  refine Ev.prim (hb.len Us) ?_
  refine Ev.prim bin_lss ?_
  refine Ev.ifp (fun h => ?_) fun h => ?_
  · rw [Nat.add_comm]; exact hJ ys xs b a hb ha (by omega) (by omega)
  · exact hJ xs ys a b ha hb (by omega) (by omega)
end Go.AM.Y
set_option linter.unusedVariables false
namespace Go.AM
theorem limbs_length_lt {a b : Nat} (h : (limbs a).length < (limbs b).length) : a < b := by
  have h1 := val_lt (small_limbs a)
  rw [val_limbs] at h1
  by_cases h2 : a < b
  · exact h2
  · have : b < 4294967296 ^ (limbs a).length := by omega
    have := limbs_length_le this
    omega
theorem limbs_length_mono {a b : Nat} (h : a ≤ b) : (limbs a).length ≤ (limbs b).length := by
  have h1 := val_lt (small_limbs b)
  rw [val_limbs] at h1
  exact limbs_length_le (by omega)
theorem val_take_lt {xs : List Nat} (h : small xs) (i : Nat) : val (xs.take i) < 4294967296 ^ i := by
  have := val_lt (h.take i)
  exact Nat.lt_of_lt_of_le this (Nat.pow_le_pow_right (by decide) (by rw [List.length_take]; omega))
theorem val_div_mod {xs : List Nat} (h : small xs) (i : Nat) : val xs / 4294967296 ^ i = val (xs.drop i) ∧ val xs % 4294967296 ^ i = val (xs.take i) := by
  have h1 := val_drop xs i
  have h2 := val_take_lt h i
  constructor
  · rw [h1, Nat.add_mul_div_left _ _ (Nat.pow_pos (by decide)), Nat.div_eq_of_lt h2, Nat.zero_add]
  · rw [h1, Nat.add_mul_mod_self_left, Nat.mod_eq_of_lt h2]
theorem val_head (xs : List Nat) (h : small xs) : val xs % 4294967296 = xs.getD 0 0 := by
  cases xs with
  | nil => rfl
  | cons x xs => have := h.head; simp only [val]; simp; omega
theorem val_digit {xs : List Nat} (h : small xs) (i : Nat) : val xs / 4294967296 ^ i % 4294967296 = xs.getD i 0 := by
  rw [(val_div_mod h i).1, val_head _ (h.drop i), List.getD_eq_getElem?_getD, List.getD_eq_getElem?_getD, List.getElem?_drop]; simp
theorem testBit_val {xs : List Nat} (h : small xs) (i : Nat) : (val xs).testBit i = (xs.getD (i / 32) 0).testBit (i % 32) := by
  rw [← val_digit h, show (4294967296 : Nat) = 2 ^ 32 by decide, ← Nat.pow_mul, Nat.testBit_mod_two_pow, Nat.testBit_div_two_pow]
  have : i % 32 < 32 := Nat.mod_lt _ (by decide)
  rw [decide_eq_true this, Bool.true_and]; congr 1; omega

def nbits (n : Nat) : Nat := if n = 0 then 0 else n.log2 + 1
theorem nbits_zero : nbits 0 = 0 := rfl
theorem nbits_le {n k : Nat} : nbits n ≤ k ↔ n < 2 ^ k := by
  unfold nbits
  by_cases h : n = 0
  · rw [if_pos h]; subst h; simp [Nat.pow_pos]
  · rw [if_neg h, Nat.add_one_le_iff, Nat.log2_lt h]
theorem lt_nbits {n k : Nat} : k < nbits n ↔ 2 ^ k ≤ n := by
  rw [← Nat.not_le, nbits_le, Nat.not_lt]
theorem nbits_eq {n k : Nat} (h1 : 2 ^ k ≤ n) (h2 : n < 2 ^ (k + 1)) : nbits n = k + 1 := by
  have := nbits_le.mpr h2
  have := lt_nbits.mpr h1
  omega
theorem lt_nbits_self (n : Nat) : n < 2 ^ nbits n := nbits_le.mp (Nat.le_refl _)
theorem nbits_ge {n : Nat} (h : n ≠ 0) : 2 ^ (nbits n - 1) ≤ n := lt_nbits.mp (by
  have : 0 < nbits n := lt_nbits.mpr (by simp; omega)
  omega)
theorem nbits_pos {n : Nat} (h : n ≠ 0) : 0 < nbits n := lt_nbits.mpr (by simp; omega)
theorem nbits_eq_zero {n : Nat} : nbits n = 0 ↔ n = 0 := by
  constructor
  · intro h; by_cases h' : n = 0
    · exact h'
    · have := nbits_pos h'; omega
  · intro h; subst h; rfl
theorem nbits_mul_add {q r k : Nat} (hq : q ≠ 0) (hr : r < 2 ^ k) : nbits (r + 2 ^ k * q) = nbits q + k := by
  have h1 := nbits_ge hq
  have h2 := lt_nbits_self q
  have h3 := nbits_pos hq
  obtain ⟨m, hm⟩ : ∃ m, nbits q = m + 1 := ⟨nbits q - 1, by omega⟩
  rw [hm] at h1 h2 ⊢
  rw [Nat.add_sub_cancel] at h1
  rw [show m + 1 + k = m + k + 1 by omega]
  refine nbits_eq ?_ ?_
  · rw [Nat.pow_add, Nat.mul_comm]
    exact Nat.le_trans (Nat.mul_le_mul_left _ h1) (by omega)
  · rw [show m + k + 1 = k + (m + 1) by omega, Nat.pow_add]
    calc r + 2 ^ k * q < 2 ^ k + 2 ^ k * q := by omega
      _ = 2 ^ k * (q + 1) := by rw [Nat.mul_add, Nat.mul_one]; omega
      _ ≤ 2 ^ k * 2 ^ (m + 1) := Nat.mul_le_mul_left _ h2
theorem nbits_div {n k : Nat} (h : 2 ^ k ≤ n) : nbits n = nbits (n / 2 ^ k) + k := by
  have hp : 0 < 2 ^ k := Nat.pow_pos (by decide)
  have h1 : n / 2 ^ k ≠ 0 := by
    have := Nat.div_le_div_right (c := 2 ^ k) h
    rw [Nat.div_self hp] at this; omega
  conv => lhs; rw [← Nat.mod_add_div n (2 ^ k)]
  exact nbits_mul_add h1 (Nat.mod_lt _ hp)
theorem nbits_mul_pow {n k : Nat} (h : n ≠ 0) : nbits (n * 2 ^ k) = nbits n + k := by
  have := nbits_mul_add (r := 0) (k := k) h (Nat.pow_pos (by decide))
  rwa [Nat.zero_add, Nat.mul_comm] at this
/-- By the digit at the top. -/
theorem nbits_limbs {n : Nat} (h : n ≠ 0) : nbits n = 32 * ((limbs n).length - 1) + nbits ((limbs n).getD ((limbs n).length - 1) 0) := by
  have hl : limbs n ≠ [] := fun e => h (limbs_eq_nil.mp e)
  have hl' : (limbs n).length ≠ 0 := fun e => hl (List.length_eq_zero_iff.mp e)
  have h1 := val_drop (limbs n) ((limbs n).length - 1)
  have h2 := val_take_lt (small_limbs n) ((limbs n).length - 1)
  have hd : (limbs n).drop ((limbs n).length - 1) = [(limbs n).getD ((limbs n).length - 1) 0] := by
    rw [List.drop_eq_getElem_cons (by omega), List.drop_eq_nil_of_le (by omega), List.getD_eq_getElem?_getD, List.getElem?_eq_getElem (by omega)]; rfl
  have hne : (limbs n).getD ((limbs n).length - 1) 0 ≠ 0 := by
    refine limbs_getLast (n := n) _ ?_
    rw [List.getLast?_eq_getElem?, List.getD_eq_getElem?_getD, List.getElem?_eq_getElem (by omega)]; rfl
  rw [val_limbs, hd] at h1
  simp only [val, Nat.mul_zero, Nat.add_zero] at h1
  conv => lhs; rw [h1]
  rw [show (4294967296 : Nat) = 2 ^ 32 by decide, ← Nat.pow_mul] at h2 ⊢
  rw [nbits_mul_add hne h2, Nat.add_comm]
theorem val_set {zs : List Nat} {j w : Nat} (h : j < zs.length) : val (zs.set j w) + 4294967296 ^ j * zs.getD j 0 = val zs + 4294967296 ^ j * w := by
  have h1 := val_drop (zs.set j w) (j + 1)
  have h2 := val_drop zs (j + 1)
  rw [val_take_set h, List.drop_set_of_lt (by omega)] at h1
  rw [val_take_succ h] at h2
  omega
theorem getD_set_self {zs : List Nat} {j w : Nat} (h : j < zs.length) : (zs.set j w).getD j 0 = w := by
  rw [List.getD_eq_getElem?_getD, List.getElem?_set_self h]; rfl
theorem getD_take {zs : List Nat} {i j : Nat} (h : j < i) : (zs.take i).getD j 0 = zs.getD j 0 := by
  rw [List.getD_eq_getElem?_getD, List.getElem?_take_of_lt h, ← List.getD_eq_getElem?_getD]

theorem getD_zeros (m i : Nat) : (List.replicate m 0).getD i 0 = 0 := by
  rw [List.getD_eq_getElem?_getD, List.getElem?_replicate]; split <;> rfl
/-- How two numbers stand. -/
def cmpN (a b : Nat) : Int := if a < b then -1 else if b < a then 1 else 0
theorem val_take_cmp {xs ys : List Nat} (hx : small xs) (hy : small ys) (m : Nat) (h : xs.getD m 0 < ys.getD m 0) : val (xs.take (m + 1)) < val (ys.take (m + 1)) := by
  rw [val_take_succ', val_take_succ']
  have h1 := val_take_lt hx m
  have h2 : 4294967296 ^ m * (xs.getD m 0 + 1) ≤ 4294967296 ^ m * ys.getD m 0 := Nat.mul_le_mul_left _ h
  rw [Nat.mul_add, Nat.mul_one] at h2
  omega
theorem tb31 {a : Nat} (h : a < 4294967296) : a.testBit 31 = decide (2147483648 ≤ a) := by
  rw [Nat.testBit_eq_decide_div_mod_eq]; exact decide_eq_decide.mpr (by omega)
theorem top31 {x : Nat} (h : x < 4294967296) : x / 2 ^ 31 = (x.testBit 31).toNat := by
  rw [tb31 h]
  by_cases h' : 2147483648 ≤ x
  · rw [decide_eq_true h']; simp; omega
  · rw [decide_eq_false h']; simp; omega
theorem borrow31 {a b c d : Nat} (ha : a < 4294967296) (hb : b < 4294967296) (hc : c ≤ 1) (hd : d = (a + 8589934592 - b - c) % 4294967296) :
    (((4294967295 ^^^ a) &&& b) ||| ((4294967295 ^^^ (a ^^^ b)) &&& d)) / 2 ^ 31 = if a < b + c then 1 else 0 := by
  have hd' : d < 4294967296 := by omega
  have e1 : ∀ x y : Nat, x < 4294967296 → y < 4294967296 → x ^^^ y < 4294967296 := fun x y h h' => Nat.xor_lt_two_pow (n := 32) h h'
  have e2 : ∀ x y : Nat, y < 4294967296 → x &&& y < 4294967296 := fun x y h => Nat.lt_of_le_of_lt Nat.and_le_right h
  have e3 : ∀ x y : Nat, x < 4294967296 → y < 4294967296 → x ||| y < 4294967296 := fun x y h h' => Nat.or_lt_two_pow (n := 32) h h'
  rw [top31 (e3 _ _ (e2 _ _ hb) (e2 _ _ hd')), Nat.testBit_or, Nat.testBit_and, Nat.testBit_and, Nat.testBit_xor, Nat.testBit_xor, Nat.testBit_xor, tb31 ha, tb31 hb, tb31 hd', tb31 (a := 4294967295) (by decide)]
  by_cases h1 : 2147483648 ≤ a <;> by_cases h2 : 2147483648 ≤ b <;> by_cases h3 : 2147483648 ≤ d <;> simp [h1, h2, h3] <;> omega
end Go.AM
set_option linter.unusedVariables false
set_option linter.unusedSimpArgs false
set_option maxRecDepth 100000
namespace Go.AM.Y
open Go Go.AM Go.Proofs
attribute [local irreducible] run bin un ld st box newV mkS fldA fld ixA ix slc slc3 build buildS cv cvS ap cpy lenV gOp pickV b2 aIf aChk evalK resume iterD Option.bind

theorem Sub32_spec {H : AH} {a b c : Nat} (ha : a < 4294967296) (hb : b < 4294967296) (hc : c ≤ 1) :
    Ev (fun k _ => rn k 126 [u32 a, u32 b, u32 c] H) (fun r => r = (.tuple #[u32 ((a + 8589934592 - b - c) % 4294967296), u32 (if a < b + c then 1 else 0)], H)) := by
  refine Ev.fn (fun k => f126_eq k _ _ _ H) ?_
  have e1 : ∀ x y : Nat, x < 4294967296 → y < 4294967296 → x ^^^ y < 4294967296 := fun x y h h' => Nat.xor_lt_two_pow (n := 32) h h'
  have e2 : ∀ x y : Nat, y < 4294967296 → x &&& y < 4294967296 := fun x y h => Nat.lt_of_le_of_lt Nat.and_le_right h
  refine Ev.prim subW ?_
  refine Ev.prim subW ?_
  have e : ((a + (4294967296 - b % 4294967296)) % 4294967296 + (4294967296 - c % 4294967296)) % 4294967296 = (a + 8589934592 - b - c) % 4294967296 := by omega
  rw [e]
  have hd : (a + 8589934592 - b - c) % 4294967296 < 4294967296 := Nat.mod_lt _ (by decide)
  refine Ev.prim (notW ha) ?_
  refine Ev.prim (andW ⟨e1 _ _ (by decide) ha, hb⟩) ?_
  refine Ev.prim (xorW ⟨ha, hb⟩) ?_
  refine Ev.prim (notW (e1 _ _ ha hb)) ?_
  refine Ev.prim (andW ⟨e1 _ _ (by decide) (e1 _ _ ha hb), hd⟩) ?_
  refine Ev.prim (orW ⟨e2 _ _ hb, e2 _ _ hd⟩) ?_
  repeat (first | refine Ev.some2 ?_ | refine Ev.some1 ?_ | refine Ev.gDo ?_ | refine Ev.gSkipT ?_ | refine Ev.gSkipF ?_ | refine Ev.gUndef ?_ | refine Ev.gCall ?_ | refine Ev.tt ?_ | refine Ev.ff ?_ | refine Ev.gPrim (by (first | with_reducible exact lssL | with_reducible exact gtrL | with_reducible exact eqlL | with_reducible exact neqL | with_reducible exact leqL | with_reducible exact geqL | with_reducible exact lssN | with_reducible exact gtrN | with_reducible exact eqlN | with_reducible exact neqN | with_reducible exact leqN | with_reducible exact geqN | (with_reducible refine addL ?_; omega) | (with_reducible refine subL ?_; omega) | (with_reducible refine quoL ?_; omega) | (with_reducible refine mulL ?_; omega) | (with_reducible refine lmul ?_; omega) | (with_reducible refine addN ?_; omega) | (with_reducible refine subN ?_; omega) | (with_reducible refine quoN ?_; omega) | (with_reducible refine mulN ?_; omega) | (with_reducible refine addQ ?_; omega) | (with_reducible refine subQ ?_; omega) | (with_reducible refine mulQ ?_; omega) | (with_reducible refine shlQL ?_; omega) | (with_reducible refine shlQ ?_; omega) | (with_reducible refine remL ?_; decide) | (with_reducible refine shrL ?_; decide) | (with_reducible refine remN ?_; omega) | (with_reducible refine toU64 ?_ Uw Uq; omega) | (with_reducible exact toU32 Uq Uw) | exact bin_lss | exact bin_gtr | exact bin_eql | exact bin_neq | exact bin_leq | exact bin_geq | exact lenV_sl Us | exact ext_0 | exact ext_1 | exact ext_2 | exact pick_t | exact pick_f | exact bin_add64 (by omega) | exact bin_sub64 (by omega) | exact un_not | exact cv_int Uq Uw | exact cv_int Uw Uq | exact bin_add | exact bin_sub | exact bin_mul | rfl)) rfl ?_ | refine Ev.prim (by (first | with_reducible exact lssL | with_reducible exact gtrL | with_reducible exact eqlL | with_reducible exact neqL | with_reducible exact leqL | with_reducible exact geqL | with_reducible exact lssN | with_reducible exact gtrN | with_reducible exact eqlN | with_reducible exact neqN | with_reducible exact leqN | with_reducible exact geqN | (with_reducible refine addL ?_; omega) | (with_reducible refine subL ?_; omega) | (with_reducible refine quoL ?_; omega) | (with_reducible refine mulL ?_; omega) | (with_reducible refine lmul ?_; omega) | (with_reducible refine addN ?_; omega) | (with_reducible refine subN ?_; omega) | (with_reducible refine quoN ?_; omega) | (with_reducible refine mulN ?_; omega) | (with_reducible refine addQ ?_; omega) | (with_reducible refine subQ ?_; omega) | (with_reducible refine mulQ ?_; omega) | (with_reducible refine shlQL ?_; omega) | (with_reducible refine shlQ ?_; omega) | (with_reducible refine remL ?_; decide) | (with_reducible refine shrL ?_; decide) | (with_reducible refine remN ?_; omega) | (with_reducible refine toU64 ?_ Uw Uq; omega) | (with_reducible exact toU32 Uq Uw) | exact bin_lss | exact bin_gtr | exact bin_eql | exact bin_neq | exact bin_leq | exact bin_geq | exact lenV_sl Us | exact ext_0 | exact ext_1 | exact ext_2 | exact pick_t | exact pick_f | exact bin_add64 (by omega) | exact bin_sub64 (by omega) | exact un_not | exact cv_int Uq Uw | exact cv_int Uw Uq | exact bin_add | exact bin_sub | exact bin_mul | rfl)) ?_)
  rw [borrow31 ha hb hc rfl]
  exact Ev.ret rfl
theorem sub_loop {H0 B0 B : AH} {xs ys : List Nat} {a b : Value} {bo : Nat} (ha : RdN B a xs) (hb : RdN B b ys) (hxy : ys.length ≤ xs.length) (hm : xs.length < 549755813888) :
    ∀ (m i : Nat) (zs : List Nat) (c : Nat) (H : AH), i + m = xs.length → zs.length = xs.length → small zs → c ≤ 1 → val (zs.take i) + val (ys.take i) = val (xs.take i) + 4294967296 ^ i * c →
    St H0 B0 B [(bo, ⟨zs.map u32, 67, .fix⟩)] H →
    Ev (fun k n => f98_L0 k a b (sl bo 0 xs.length xs.length) (u32 c) (i64 xs.length) (i64 i) n H)
      (fun o => ∃ zs c H, o = (.exit 0, f98_X_L0 (sl bo 0 xs.length xs.length) (u32 c), H) ∧ zs.length = xs.length ∧ small zs ∧ c ≤ 1 ∧ val zs + val ys = val xs + 4294967296 ^ xs.length * c ∧
        St H0 B0 B [(bo, ⟨zs.map u32, 67, .fix⟩)] H) := by
  intro m
  induction m with
  | zero =>
    intro i zs c H hi hz hsm hc hv hS
    refine Ev.succ (fun k n => f98_L0_succ k _ _ _ _ _ _ n H) ?_
    refine Ev.prim lssN ?_
    refine Ev.ifp (fun h => absurd h (by omega)) fun _ => ?_
    refine Ev.ret ⟨zs, c, H, rfl, hz, hsm, hc, ?_, hS⟩
    have : i = xs.length := by omega
    subst this
    rw [List.take_of_length_le (Nat.le_refl _) (l := xs), List.take_of_length_le hxy, List.take_of_length_le (by omega)] at hv
    exact hv
  | succ m ih =>
    intro i zs c H hi hz hsm hc hv hS
    refine Ev.succ (fun k n => f98_L0_succ k _ _ _ _ _ _ n H) ?_
    refine Ev.prim lssN ?_
    refine Ev.ifp (fun _ => ?_) fun h => absurd (by omega) h
    have hJ : ∀ y : Nat, y = ys.getD i 0 → Ev (fun k n => f98_J0 k n a b (sl bo 0 xs.length xs.length) (u32 c) (i64 i) (u32 y) (i64 xs.length) (i64 i) H)
      (fun o => ∃ zs c H, o = (.exit 0, f98_X_L0 (sl bo 0 xs.length xs.length) (u32 c), H) ∧ zs.length = xs.length ∧ small zs ∧ c ≤ 1 ∧ val zs + val ys = val xs + 4294967296 ^ xs.length * c ∧
        St H0 B0 B [(bo, ⟨zs.map u32, 67, .fix⟩)] H) := by
      intro y hy
      have hx := ha.2.getD i
      have hy' := hb.2.getD i
      refine Ev.eq (fun k n => f98_J0_eq k n _ _ _ _ _ _ _ _ H) ?_
      obtain ⟨p, hp1, hp2⟩ := ha.ixN (k := .i64) (i := i) Ew (by omega)
      refine Ev.prim hp1 ?_
      refine Ev.prim (hp2 H hS.le) ?_
      refine Ev.callP (Sub32_spec hx (by omega) (by omega)) ?_
      repeat (first | refine Ev.some2 ?_ | refine Ev.some1 ?_ | refine Ev.gDo ?_ | refine Ev.gSkipT ?_ | refine Ev.gSkipF ?_ | refine Ev.gUndef ?_ | refine Ev.gCall ?_ | refine Ev.tt ?_ | refine Ev.ff ?_ | refine Ev.gPrim (by (first | with_reducible exact lssL | with_reducible exact gtrL | with_reducible exact eqlL | with_reducible exact neqL | with_reducible exact leqL | with_reducible exact geqL | with_reducible exact lssN | with_reducible exact gtrN | with_reducible exact eqlN | with_reducible exact neqN | with_reducible exact leqN | with_reducible exact geqN | (with_reducible refine addL ?_; omega) | (with_reducible refine subL ?_; omega) | (with_reducible refine quoL ?_; omega) | (with_reducible refine mulL ?_; omega) | (with_reducible refine lmul ?_; omega) | (with_reducible refine addN ?_; omega) | (with_reducible refine subN ?_; omega) | (with_reducible refine quoN ?_; omega) | (with_reducible refine mulN ?_; omega) | (with_reducible refine addQ ?_; omega) | (with_reducible refine subQ ?_; omega) | (with_reducible refine mulQ ?_; omega) | (with_reducible refine shlQL ?_; omega) | (with_reducible refine shlQ ?_; omega) | (with_reducible refine remL ?_; decide) | (with_reducible refine shrL ?_; decide) | (with_reducible refine remN ?_; omega) | (with_reducible refine toU64 ?_ Uw Uq; omega) | (with_reducible exact toU32 Uq Uw) | exact bin_lss | exact bin_gtr | exact bin_eql | exact bin_neq | exact bin_leq | exact bin_geq | exact lenV_sl Us | exact ext_0 | exact ext_1 | exact ext_2 | exact pick_t | exact pick_f | exact bin_add64 (by omega) | exact bin_sub64 (by omega) | exact un_not | exact cv_int Uq Uw | exact cv_int Uw Uq | exact bin_add | exact bin_sub | exact bin_mul | rfl)) rfl ?_ | refine Ev.prim (by (first | with_reducible exact lssL | with_reducible exact gtrL | with_reducible exact eqlL | with_reducible exact neqL | with_reducible exact leqL | with_reducible exact geqL | with_reducible exact lssN | with_reducible exact gtrN | with_reducible exact eqlN | with_reducible exact neqN | with_reducible exact leqN | with_reducible exact geqN | (with_reducible refine addL ?_; omega) | (with_reducible refine subL ?_; omega) | (with_reducible refine quoL ?_; omega) | (with_reducible refine mulL ?_; omega) | (with_reducible refine lmul ?_; omega) | (with_reducible refine addN ?_; omega) | (with_reducible refine subN ?_; omega) | (with_reducible refine quoN ?_; omega) | (with_reducible refine mulN ?_; omega) | (with_reducible refine addQ ?_; omega) | (with_reducible refine subQ ?_; omega) | (with_reducible refine mulQ ?_; omega) | (with_reducible refine shlQL ?_; omega) | (with_reducible refine shlQ ?_; omega) | (with_reducible refine remL ?_; decide) | (with_reducible refine shrL ?_; decide) | (with_reducible refine remN ?_; omega) | (with_reducible refine toU64 ?_ Uw Uq; omega) | (with_reducible exact toU32 Uq Uw) | exact bin_lss | exact bin_gtr | exact bin_eql | exact bin_neq | exact bin_leq | exact bin_geq | exact lenV_sl Us | exact ext_0 | exact ext_1 | exact ext_2 | exact pick_t | exact pick_f | exact bin_add64 (by omega) | exact bin_sub64 (by omega) | exact un_not | exact cv_int Uq Uw | exact cv_int Uw Uq | exact bin_add | exact bin_sub | exact bin_mul | rfl)) ?_)
      refine Ev.prim (ixA_own Ew (by omega)) ?_
      refine Ev.stW Ew hS (by (first | exact .head _ | exact .tail _ (.head _) | exact .tail _ (.tail _ (.head _)) | exact .tail _ (.tail _ (.tail _ (.head _))) | exact .tail _ (.tail _ (.tail _ (.tail _ (.head _)))))) (j := i) (by omega) (by omega) rfl (by simp) (.head _) fun H' hS' => ?_
      repeat (first | refine Ev.some2 ?_ | refine Ev.some1 ?_ | refine Ev.gDo ?_ | refine Ev.gSkipT ?_ | refine Ev.gSkipF ?_ | refine Ev.gUndef ?_ | refine Ev.gCall ?_ | refine Ev.tt ?_ | refine Ev.ff ?_ | refine Ev.gPrim (by (first | with_reducible exact lssL | with_reducible exact gtrL | with_reducible exact eqlL | with_reducible exact neqL | with_reducible exact leqL | with_reducible exact geqL | with_reducible exact lssN | with_reducible exact gtrN | with_reducible exact eqlN | with_reducible exact neqN | with_reducible exact leqN | with_reducible exact geqN | (with_reducible refine addL ?_; omega) | (with_reducible refine subL ?_; omega) | (with_reducible refine quoL ?_; omega) | (with_reducible refine mulL ?_; omega) | (with_reducible refine lmul ?_; omega) | (with_reducible refine addN ?_; omega) | (with_reducible refine subN ?_; omega) | (with_reducible refine quoN ?_; omega) | (with_reducible refine mulN ?_; omega) | (with_reducible refine addQ ?_; omega) | (with_reducible refine subQ ?_; omega) | (with_reducible refine mulQ ?_; omega) | (with_reducible refine shlQL ?_; omega) | (with_reducible refine shlQ ?_; omega) | (with_reducible refine remL ?_; decide) | (with_reducible refine shrL ?_; decide) | (with_reducible refine remN ?_; omega) | (with_reducible refine toU64 ?_ Uw Uq; omega) | (with_reducible exact toU32 Uq Uw) | exact bin_lss | exact bin_gtr | exact bin_eql | exact bin_neq | exact bin_leq | exact bin_geq | exact lenV_sl Us | exact ext_0 | exact ext_1 | exact ext_2 | exact pick_t | exact pick_f | exact bin_add64 (by omega) | exact bin_sub64 (by omega) | exact un_not | exact cv_int Uq Uw | exact cv_int Uw Uq | exact bin_add | exact bin_sub | exact bin_mul | rfl)) rfl ?_ | refine Ev.prim (by (first | with_reducible exact lssL | with_reducible exact gtrL | with_reducible exact eqlL | with_reducible exact neqL | with_reducible exact leqL | with_reducible exact geqL | with_reducible exact lssN | with_reducible exact gtrN | with_reducible exact eqlN | with_reducible exact neqN | with_reducible exact leqN | with_reducible exact geqN | (with_reducible refine addL ?_; omega) | (with_reducible refine subL ?_; omega) | (with_reducible refine quoL ?_; omega) | (with_reducible refine mulL ?_; omega) | (with_reducible refine lmul ?_; omega) | (with_reducible refine addN ?_; omega) | (with_reducible refine subN ?_; omega) | (with_reducible refine quoN ?_; omega) | (with_reducible refine mulN ?_; omega) | (with_reducible refine addQ ?_; omega) | (with_reducible refine subQ ?_; omega) | (with_reducible refine mulQ ?_; omega) | (with_reducible refine shlQL ?_; omega) | (with_reducible refine shlQ ?_; omega) | (with_reducible refine remL ?_; decide) | (with_reducible refine shrL ?_; decide) | (with_reducible refine remN ?_; omega) | (with_reducible refine toU64 ?_ Uw Uq; omega) | (with_reducible exact toU32 Uq Uw) | exact bin_lss | exact bin_gtr | exact bin_eql | exact bin_neq | exact bin_leq | exact bin_geq | exact lenV_sl Us | exact ext_0 | exact ext_1 | exact ext_2 | exact pick_t | exact pick_f | exact bin_add64 (by omega) | exact bin_sub64 (by omega) | exact un_not | exact cv_int Uq Uw | exact cv_int Uw Uq | exact bin_add | exact bin_sub | exact bin_mul | rfl)) ?_)
      refine ih (i + 1) _ _ H' (by omega) (by simp [hz]) (hsm.set _ (Nat.mod_lt _ (by decide))) (by split <;> omega) ?_ hS'
      rw [val_take_set (by omega), val_take_succ' xs, val_take_succ' ys, Nat.pow_succ, ← hy]
      have e : (xs.getD i 0 + 8589934592 - y - c) % 4294967296 + (y + c) = xs.getD i 0 + 4294967296 * (if xs.getD i 0 < y + c then 1 else 0) := by
        split <;> omega
      generalize (xs.getD i 0 + 8589934592 - y - c) % 4294967296 = w at e ⊢
      generalize (if xs.getD i 0 < y + c then 1 else 0) = c' at e ⊢
      have e2 := congrArg (4294967296 ^ i * ·) e
      simp only [Nat.mul_add] at e2
      rw [Nat.mul_assoc]
      omega
    refine Ev.prim (hb.lenN Ew) ?_
    refine Ev.prim lssN ?_
    refine Ev.ifp (fun h => ?_) fun h => ?_
    · obtain ⟨p, hp1, hp2⟩ := hb.ixN (k := .i64) (i := i) Ew (by omega)
      refine Ev.prim hp1 ?_
      refine Ev.prim (hp2 H hS.le) ?_
      exact hJ _ rfl
    · exact hJ 0 (by rw [List.getD_eq_getElem?_getD, List.getElem?_eq_none (by omega)]; rfl)
theorem Sub_spec {B H : AH} {xs ys : List Nat} {a b : Value} (ha : RdN B a xs) (hb : RdN B b ys) (hm : xs.length < 549755813888) (hm' : ys.length < 549755813888) (hL : Le B H) :
    Ev (fun k _ => rn k 98 [a, b] H) (An B H fun B' v => (val xs < val ys ∧ v = .tuple #[.slice none 0 0, .bool false]) ∨ (val ys ≤ val xs ∧ ∃ s, v = .tuple #[s, .bool true] ∧ RdN B' s (limbs (val xs - val ys)))) := by
  refine Ev.fn (fun k => f98_eq k _ _ H) ?_
  have hx := limbs_length_le (val_lt ha.2)
  have hy := limbs_length_le (val_lt hb.2)
  refine Ev.callU (trim_pure (by omega) ha hL) fun a ha => ?_
  refine Ev.callU (trim_pure (by omega) hb hL) fun b hb => ?_
  generalize val xs = x at *
  generalize val ys = y at *
  have hS := St.start hL
  refine Ev.prim (ha.lenN Ew) ?_
  refine Ev.prim (hb.lenN Ew) ?_
  refine Ev.prim lssN ?_
  refine Ev.ifp (fun h => ?_) fun h => ?_
  · exact Ev.done hS (.inl ⟨limbs_length_lt h, rfl⟩)
  refine Ev.prim (ha.lenN Ew) ?_
  refine Ev.mkS Ew hS (by omega) (by omega) fun bo B1 H1 hm1 hS1 => ?_
  rw [map_replicate] at hS1
  refine Ev.prim (ha.lenN Ew) ?_
  refine Ev.bind (Ev.loop (sub_loop (ha.mono hm1) (hb.mono hm1) (by omega) (by omega) (limbs x).length 0 (List.replicate (limbs x).length 0) 0 H1 (by omega) (by simp) (small_replicate _) (by omega) (by simp [val]) hS1)) ?_
  rintro _ ⟨zs, c, H2, rfl, hz, hsm, hc, hv, hS2⟩
  refine Ev.eq (fun k _ => f98_A0_x0 k _ _ H2) ?_
  rw [val_limbs, val_limbs] at hv
  have hlt := val_lt hsm
  rw [hz] at hlt
  refine Ev.prim gtrL ?_
  refine Ev.ifp (fun h => ?_) fun h => ?_
  · have : c = 1 := by omega
    subst this
    exact Ev.done hS2 (.inl ⟨by omega, rfl⟩)
  · have : c = 0 := by omega
    subst this
    obtain ⟨B4, hm4, hr4, hS4⟩ := hS2.freezeN (n := (limbs x).length) (cap := (limbs x).length) hsm hz.symm (by omega)
    refine Ev.call hS4 (trim_spec (by omega) hr4) fun v B5 H5 hm5 hS5 h5 => ?_
    refine Ev.done hS5 (.inr ⟨by omega, v, rfl, ?_⟩)
    rw [show x - y = val zs by omega]; exact h5
theorem cmp_loop {B H : AH} {xs ys : List Nat} {a b : Value} {N : Nat} (ha : RdN B a xs) (hb : RdN B b ys) (hx : xs.length = N) (hy : ys.length = N) (hN : N < 549755813888) (hL : Le B H) :
    ∀ (m i : Nat), i + m = N →
    Ev (fun k n => f97_L0 k a b (i64 N) (i64 i) n H)
      (fun o => (o = (.exit 0, f97_X_L0 unk, H) ∧ cmpN (val (xs.take m)) (val (ys.take m)) = 0) ∨ o = (.ret, f97_X_L0 (.int .i64 (cmpN (val (xs.take m)) (val (ys.take m)))), H)) := by
  intro m
  induction m with
  | zero =>
    intro i hi
    refine Ev.succ (fun k n => f97_L0_succ k _ _ _ _ n H) ?_
    refine Ev.prim lssN ?_
    refine Ev.ifp (fun h => absurd h (by omega)) fun _ => ?_
    exact Ev.ret (.inl ⟨rfl, rfl⟩)
  | succ m ih =>
    intro i hi
    refine Ev.succ (fun k n => f97_L0_succ k _ _ _ _ n H) ?_
    refine Ev.prim lssN ?_
    refine Ev.ifp (fun _ => ?_) fun h => absurd (by omega) h
    refine Ev.prim (ha.lenN Ew) ?_
    repeat (first | refine Ev.some2 ?_ | refine Ev.some1 ?_ | refine Ev.gDo ?_ | refine Ev.gSkipT ?_ | refine Ev.gSkipF ?_ | refine Ev.gUndef ?_ | refine Ev.gCall ?_ | refine Ev.tt ?_ | refine Ev.ff ?_ | refine Ev.gPrim (by (first | with_reducible exact lssL | with_reducible exact gtrL | with_reducible exact eqlL | with_reducible exact neqL | with_reducible exact leqL | with_reducible exact geqL | with_reducible exact lssN | with_reducible exact gtrN | with_reducible exact eqlN | with_reducible exact neqN | with_reducible exact leqN | with_reducible exact geqN | (with_reducible refine addL ?_; omega) | (with_reducible refine subL ?_; omega) | (with_reducible refine quoL ?_; omega) | (with_reducible refine mulL ?_; omega) | (with_reducible refine lmul ?_; omega) | (with_reducible refine addN ?_; omega) | (with_reducible refine subN ?_; omega) | (with_reducible refine quoN ?_; omega) | (with_reducible refine mulN ?_; omega) | (with_reducible refine addQ ?_; omega) | (with_reducible refine subQ ?_; omega) | (with_reducible refine mulQ ?_; omega) | (with_reducible refine shlQL ?_; omega) | (with_reducible refine shlQ ?_; omega) | (with_reducible refine remL ?_; decide) | (with_reducible refine shrL ?_; decide) | (with_reducible refine remN ?_; omega) | (with_reducible refine toU64 ?_ Uw Uq; omega) | (with_reducible exact toU32 Uq Uw) | exact bin_lss | exact bin_gtr | exact bin_eql | exact bin_neq | exact bin_leq | exact bin_geq | exact lenV_sl Us | exact ext_0 | exact ext_1 | exact ext_2 | exact pick_t | exact pick_f | exact bin_add64 (by omega) | exact bin_sub64 (by omega) | exact un_not | exact cv_int Uq Uw | exact cv_int Uw Uq | exact bin_add | exact bin_sub | exact bin_mul | rfl)) rfl ?_ | refine Ev.prim (by (first | with_reducible exact lssL | with_reducible exact gtrL | with_reducible exact eqlL | with_reducible exact neqL | with_reducible exact leqL | with_reducible exact geqL | with_reducible exact lssN | with_reducible exact gtrN | with_reducible exact eqlN | with_reducible exact neqN | with_reducible exact leqN | with_reducible exact geqN | (with_reducible refine addL ?_; omega) | (with_reducible refine subL ?_; omega) | (with_reducible refine quoL ?_; omega) | (with_reducible refine mulL ?_; omega) | (with_reducible refine lmul ?_; omega) | (with_reducible refine addN ?_; omega) | (with_reducible refine subN ?_; omega) | (with_reducible refine quoN ?_; omega) | (with_reducible refine mulN ?_; omega) | (with_reducible refine addQ ?_; omega) | (with_reducible refine subQ ?_; omega) | (with_reducible refine mulQ ?_; omega) | (with_reducible refine shlQL ?_; omega) | (with_reducible refine shlQ ?_; omega) | (with_reducible refine remL ?_; decide) | (with_reducible refine shrL ?_; decide) | (with_reducible refine remN ?_; omega) | (with_reducible refine toU64 ?_ Uw Uq; omega) | (with_reducible exact toU32 Uq Uw) | exact bin_lss | exact bin_gtr | exact bin_eql | exact bin_neq | exact bin_leq | exact bin_geq | exact lenV_sl Us | exact ext_0 | exact ext_1 | exact ext_2 | exact pick_t | exact pick_f | exact bin_add64 (by omega) | exact bin_sub64 (by omega) | exact un_not | exact cv_int Uq Uw | exact cv_int Uw Uq | exact bin_add | exact bin_sub | exact bin_mul | rfl)) ?_)
    obtain ⟨p, hp1, hp2⟩ := ha.ixN (k := .i64) (i := xs.length - 1 - i) Ew (by omega)
    refine Ev.prim hp1 ?_
    refine Ev.prim (hp2 H hL.le) ?_
    refine Ev.prim (hb.lenN Ew) ?_
    repeat (first | refine Ev.some2 ?_ | refine Ev.some1 ?_ | refine Ev.gDo ?_ | refine Ev.gSkipT ?_ | refine Ev.gSkipF ?_ | refine Ev.gUndef ?_ | refine Ev.gCall ?_ | refine Ev.tt ?_ | refine Ev.ff ?_ | refine Ev.gPrim (by (first | with_reducible exact lssL | with_reducible exact gtrL | with_reducible exact eqlL | with_reducible exact neqL | with_reducible exact leqL | with_reducible exact geqL | with_reducible exact lssN | with_reducible exact gtrN | with_reducible exact eqlN | with_reducible exact neqN | with_reducible exact leqN | with_reducible exact geqN | (with_reducible refine addL ?_; omega) | (with_reducible refine subL ?_; omega) | (with_reducible refine quoL ?_; omega) | (with_reducible refine mulL ?_; omega) | (with_reducible refine lmul ?_; omega) | (with_reducible refine addN ?_; omega) | (with_reducible refine subN ?_; omega) | (with_reducible refine quoN ?_; omega) | (with_reducible refine mulN ?_; omega) | (with_reducible refine addQ ?_; omega) | (with_reducible refine subQ ?_; omega) | (with_reducible refine mulQ ?_; omega) | (with_reducible refine shlQL ?_; omega) | (with_reducible refine shlQ ?_; omega) | (with_reducible refine remL ?_; decide) | (with_reducible refine shrL ?_; decide) | (with_reducible refine remN ?_; omega) | (with_reducible refine toU64 ?_ Uw Uq; omega) | (with_reducible exact toU32 Uq Uw) | exact bin_lss | exact bin_gtr | exact bin_eql | exact bin_neq | exact bin_leq | exact bin_geq | exact lenV_sl Us | exact ext_0 | exact ext_1 | exact ext_2 | exact pick_t | exact pick_f | exact bin_add64 (by omega) | exact bin_sub64 (by omega) | exact un_not | exact cv_int Uq Uw | exact cv_int Uw Uq | exact bin_add | exact bin_sub | exact bin_mul | rfl)) rfl ?_ | refine Ev.prim (by (first | with_reducible exact lssL | with_reducible exact gtrL | with_reducible exact eqlL | with_reducible exact neqL | with_reducible exact leqL | with_reducible exact geqL | with_reducible exact lssN | with_reducible exact gtrN | with_reducible exact eqlN | with_reducible exact neqN | with_reducible exact leqN | with_reducible exact geqN | (with_reducible refine addL ?_; omega) | (with_reducible refine subL ?_; omega) | (with_reducible refine quoL ?_; omega) | (with_reducible refine mulL ?_; omega) | (with_reducible refine lmul ?_; omega) | (with_reducible refine addN ?_; omega) | (with_reducible refine subN ?_; omega) | (with_reducible refine quoN ?_; omega) | (with_reducible refine mulN ?_; omega) | (with_reducible refine addQ ?_; omega) | (with_reducible refine subQ ?_; omega) | (with_reducible refine mulQ ?_; omega) | (with_reducible refine shlQL ?_; omega) | (with_reducible refine shlQ ?_; omega) | (with_reducible refine remL ?_; decide) | (with_reducible refine shrL ?_; decide) | (with_reducible refine remN ?_; omega) | (with_reducible refine toU64 ?_ Uw Uq; omega) | (with_reducible exact toU32 Uq Uw) | exact bin_lss | exact bin_gtr | exact bin_eql | exact bin_neq | exact bin_leq | exact bin_geq | exact lenV_sl Us | exact ext_0 | exact ext_1 | exact ext_2 | exact pick_t | exact pick_f | exact bin_add64 (by omega) | exact bin_sub64 (by omega) | exact un_not | exact cv_int Uq Uw | exact cv_int Uw Uq | exact bin_add | exact bin_sub | exact bin_mul | rfl)) ?_)
    obtain ⟨q, hq1, hq2⟩ := hb.ixN (k := .i64) (i := ys.length - 1 - i) Ew (by omega)
    refine Ev.prim hq1 ?_
    refine Ev.prim (hq2 H hL.le) ?_
    rw [show xs.length - 1 - i = m by omega, show ys.length - 1 - i = m by omega]
    refine Ev.prim lssN ?_
    refine Ev.ifp (fun h => ?_) fun h1 => ?_
    · refine Ev.ret (.inr ?_)
      rw [cmpN, if_pos (val_take_cmp ha.2 hb.2 m h)]
    refine Ev.prim gtrN ?_
    refine Ev.ifp (fun h => ?_) fun h2 => ?_
    · refine Ev.ret (.inr ?_)
      have := val_take_cmp hb.2 ha.2 m h
      rw [cmpN, if_neg (by omega), if_pos this]
    · refine Ev.prim (by (first | with_reducible exact lssL | with_reducible exact gtrL | with_reducible exact eqlL | with_reducible exact neqL | with_reducible exact leqL | with_reducible exact geqL | with_reducible exact lssN | with_reducible exact gtrN | with_reducible exact eqlN | with_reducible exact neqN | with_reducible exact leqN | with_reducible exact geqN | (with_reducible refine addL ?_; omega) | (with_reducible refine subL ?_; omega) | (with_reducible refine quoL ?_; omega) | (with_reducible refine mulL ?_; omega) | (with_reducible refine lmul ?_; omega) | (with_reducible refine addN ?_; omega) | (with_reducible refine subN ?_; omega) | (with_reducible refine quoN ?_; omega) | (with_reducible refine mulN ?_; omega) | (with_reducible refine addQ ?_; omega) | (with_reducible refine subQ ?_; omega) | (with_reducible refine mulQ ?_; omega) | (with_reducible refine shlQL ?_; omega) | (with_reducible refine shlQ ?_; omega) | (with_reducible refine remL ?_; decide) | (with_reducible refine shrL ?_; decide) | (with_reducible refine remN ?_; omega) | (with_reducible refine toU64 ?_ Uw Uq; omega) | (with_reducible exact toU32 Uq Uw) | exact bin_lss | exact bin_gtr | exact bin_eql | exact bin_neq | exact bin_leq | exact bin_geq | exact lenV_sl Us | exact ext_0 | exact ext_1 | exact ext_2 | exact pick_t | exact pick_f | exact bin_add64 (by omega) | exact bin_sub64 (by omega) | exact un_not | exact cv_int Uq Uw | exact cv_int Uw Uq | exact bin_add | exact bin_sub | exact bin_mul | rfl)) ?_
      refine (ih (i + 1) (by omega)).mono fun o ho => ?_
      have e : cmpN (val (xs.take (m + 1))) (val (ys.take (m + 1))) = cmpN (val (xs.take m)) (val (ys.take m)) := by
        rw [val_take_succ', val_take_succ', show xs.getD m 0 = ys.getD m 0 by omega, cmpN, cmpN]
        congr 1
        · exact propext (by omega)
        · congr 1; exact propext (by omega)
      rw [e]; exact ho
theorem Cmp_spec {B H : AH} {xs ys : List Nat} {a b : Value} (ha : RdN B a xs) (hb : RdN B b ys) (hm : xs.length < 549755813888) (hm' : ys.length < 549755813888) (hL : Le B H) :
    Ev (fun k _ => rn k 97 [a, b] H) (Pu H fun v => v = .int .i64 (cmpN (val xs) (val ys))) := by
  refine Ev.fn (fun k => f97_eq k _ _ H) ?_
  have hx := limbs_length_le (val_lt ha.2)
  have hy := limbs_length_le (val_lt hb.2)
  refine Ev.callU (trim_pure (by omega) ha hL) fun a ha => ?_
  refine Ev.callU (trim_pure (by omega) hb hL) fun b hb => ?_
  generalize val xs = x at *
  generalize val ys = y at *
  refine Ev.prim (ha.lenN Ew) ?_
  refine Ev.prim (hb.lenN Ew) ?_
  refine Ev.prim neqN ?_
  refine Ev.ifp (fun h => ?_) fun h => ?_
  · refine Ev.prim (ha.lenN Ew) ?_
    refine Ev.prim (hb.lenN Ew) ?_
    refine Ev.prim lssN ?_
    refine Ev.ifp (fun h => ?_) fun h => ?_
    · exact Ev.doneU (by rw [cmpN, if_pos (limbs_length_lt h)])
    · have := limbs_length_lt (a := y) (b := x) (by omega)
      exact Ev.doneU (by rw [cmpN, if_neg (by omega), if_pos this])
  · refine Ev.prim (ha.lenN Ew) ?_
    refine Ev.bind (Ev.loop (cmp_loop ha hb rfl (by omega) (by omega) hL (limbs x).length 0 (by omega))) ?_
    have ex : val ((limbs x).take (limbs x).length) = x := by rw [List.take_of_length_le (Nat.le_refl _), val_limbs]
    have ey : val ((limbs y).take (limbs x).length) = y := by rw [List.take_of_length_le (by omega), val_limbs]
    rw [ex, ey]
    rintro _ (⟨rfl, h0⟩ | rfl)
    · refine Ev.eq (fun k _ => f97_A0_x0 k _ H) ?_
      exact Ev.doneU (by rw [h0])
    · refine Ev.eq (fun k _ => f97_A0_ret k _ H) ?_
      exact Ev.doneU rfl
end Go.AM.Y
set_option linter.unusedVariables false
set_option linter.unusedSimpArgs false
set_option maxRecDepth 100000
namespace Go.AM.Y
open Go Go.AM Go.Proofs
attribute [local irreducible] run bin un ld st box newV mkS fldA fld ixA ix slc slc3 build buildS cv cvS ap cpy lenV gOp pickV b2 aIf aChk evalK resume iterD Option.bind

theorem Ustr : Try.prog.underlying 9 = some .string := by kernel_rfl
theorem Ub : Try.prog.underlying 5 = some (.int .u8) := by kernel_rfl
theorem long0_len : ∀ x : Nat, x < 256 → x < long0.size ∧ (long0.data[x]?.getD 0).toNat = nbits x := by
  have h : ((List.range 256).all fun x => decide (x < long0.size) && ((long0.data[x]?.getD 0).toNat == nbits x)) = true := by kernel_rfl
  intro x hx
  have := List.all_eq_true.mp h x (List.mem_range.mpr hx)
  simp at this
  exact ⟨this.1, by simpa using this.2⟩
theorem len32_j1 {H : AH} {x c : Nat} (hx : x < 256) (hc : c ≤ 24) : Ev (fun k _ => f109_J1 k (u32 x) (i64 c) H) (Pu H fun v => v = i64 (c + nbits x)) := by
  refine Ev.eq (fun k _ => f109_J1_eq k _ _ H) ?_
  have hn : nbits x ≤ 8 := nbits_le.mpr (by omega)
  refine Ev.prim (toU8 Uw Ub) ?_
  rw [Nat.mod_eq_of_lt hx]
  have h1 := long0_len x hx
  refine Ev.prim (a := u8 (nbits x)) ?_ ?_
  · unfold ix
    rw [Ustr]; simp only
    rw [if_pos ⟨by omega, by omega⟩, Int.toNat_natCast, h1.2]
  refine Ev.prim (toI64 (by omega) Ub Ui) ?_
  repeat (first | refine Ev.some2 ?_ | refine Ev.some1 ?_ | refine Ev.gDo ?_ | refine Ev.gSkipT ?_ | refine Ev.gSkipF ?_ | refine Ev.gUndef ?_ | refine Ev.gCall ?_ | refine Ev.tt ?_ | refine Ev.ff ?_ | refine Ev.gPrim (by (first | with_reducible exact lssL | with_reducible exact gtrL | with_reducible exact eqlL | with_reducible exact neqL | with_reducible exact leqL | with_reducible exact geqL | with_reducible exact lssN | with_reducible exact gtrN | with_reducible exact eqlN | with_reducible exact neqN | with_reducible exact leqN | with_reducible exact geqN | (with_reducible refine addL ?_; omega) | (with_reducible refine subL ?_; omega) | (with_reducible refine quoL ?_; omega) | (with_reducible refine mulL ?_; omega) | (with_reducible refine lmul ?_; omega) | (with_reducible refine addN ?_; omega) | (with_reducible refine subN ?_; omega) | (with_reducible refine quoN ?_; omega) | (with_reducible refine mulN ?_; omega) | (with_reducible refine addQ ?_; omega) | (with_reducible refine subQ ?_; omega) | (with_reducible refine mulQ ?_; omega) | (with_reducible refine shlQL ?_; omega) | (with_reducible refine shlQ ?_; omega) | (with_reducible refine remL ?_; decide) | (with_reducible refine shrL ?_; decide) | (with_reducible refine remN ?_; omega) | (with_reducible refine toU64 ?_ Uw Uq; omega) | (with_reducible exact toU32 Uq Uw) | exact bin_lss | exact bin_gtr | exact bin_eql | exact bin_neq | exact bin_leq | exact bin_geq | exact lenV_sl Us | exact ext_0 | exact ext_1 | exact ext_2 | exact pick_t | exact pick_f | exact bin_add64 (by omega) | exact bin_sub64 (by omega) | exact un_not | exact cv_int Uq Uw | exact cv_int Uw Uq | exact bin_add | exact bin_sub | exact bin_mul | rfl)) rfl ?_ | refine Ev.prim (by (first | with_reducible exact lssL | with_reducible exact gtrL | with_reducible exact eqlL | with_reducible exact neqL | with_reducible exact leqL | with_reducible exact geqL | with_reducible exact lssN | with_reducible exact gtrN | with_reducible exact eqlN | with_reducible exact neqN | with_reducible exact leqN | with_reducible exact geqN | (with_reducible refine addL ?_; omega) | (with_reducible refine subL ?_; omega) | (with_reducible refine quoL ?_; omega) | (with_reducible refine mulL ?_; omega) | (with_reducible refine lmul ?_; omega) | (with_reducible refine addN ?_; omega) | (with_reducible refine subN ?_; omega) | (with_reducible refine quoN ?_; omega) | (with_reducible refine mulN ?_; omega) | (with_reducible refine addQ ?_; omega) | (with_reducible refine subQ ?_; omega) | (with_reducible refine mulQ ?_; omega) | (with_reducible refine shlQL ?_; omega) | (with_reducible refine shlQ ?_; omega) | (with_reducible refine remL ?_; decide) | (with_reducible refine shrL ?_; decide) | (with_reducible refine remN ?_; omega) | (with_reducible refine toU64 ?_ Uw Uq; omega) | (with_reducible exact toU32 Uq Uw) | exact bin_lss | exact bin_gtr | exact bin_eql | exact bin_neq | exact bin_leq | exact bin_geq | exact lenV_sl Us | exact ext_0 | exact ext_1 | exact ext_2 | exact pick_t | exact pick_f | exact bin_add64 (by omega) | exact bin_sub64 (by omega) | exact un_not | exact cv_int Uq Uw | exact cv_int Uw Uq | exact bin_add | exact bin_sub | exact bin_mul | rfl)) ?_)
  exact Ev.doneU rfl
theorem len32_j0 {H : AH} {x c : Nat} (hx : x < 65536) (hc : c ≤ 16) : Ev (fun k _ => f109_J0 k (u32 x) (i64 c) H) (Pu H fun v => v = i64 (c + nbits x)) := by
  refine Ev.eq (fun k _ => f109_J0_eq k _ _ H) ?_
  refine Ev.prim geqL ?_
  refine Ev.ifp (fun h => ?_) fun h => ?_
  · repeat (first | refine Ev.some2 ?_ | refine Ev.some1 ?_ | refine Ev.gDo ?_ | refine Ev.gSkipT ?_ | refine Ev.gSkipF ?_ | refine Ev.gUndef ?_ | refine Ev.gCall ?_ | refine Ev.tt ?_ | refine Ev.ff ?_ | refine Ev.gPrim (by (first | with_reducible exact lssL | with_reducible exact gtrL | with_reducible exact eqlL | with_reducible exact neqL | with_reducible exact leqL | with_reducible exact geqL | with_reducible exact lssN | with_reducible exact gtrN | with_reducible exact eqlN | with_reducible exact neqN | with_reducible exact leqN | with_reducible exact geqN | (with_reducible refine addL ?_; omega) | (with_reducible refine subL ?_; omega) | (with_reducible refine quoL ?_; omega) | (with_reducible refine mulL ?_; omega) | (with_reducible refine lmul ?_; omega) | (with_reducible refine addN ?_; omega) | (with_reducible refine subN ?_; omega) | (with_reducible refine quoN ?_; omega) | (with_reducible refine mulN ?_; omega) | (with_reducible refine addQ ?_; omega) | (with_reducible refine subQ ?_; omega) | (with_reducible refine mulQ ?_; omega) | (with_reducible refine shlQL ?_; omega) | (with_reducible refine shlQ ?_; omega) | (with_reducible refine remL ?_; decide) | (with_reducible refine shrL ?_; decide) | (with_reducible refine remN ?_; omega) | (with_reducible refine toU64 ?_ Uw Uq; omega) | (with_reducible exact toU32 Uq Uw) | exact bin_lss | exact bin_gtr | exact bin_eql | exact bin_neq | exact bin_leq | exact bin_geq | exact lenV_sl Us | exact ext_0 | exact ext_1 | exact ext_2 | exact pick_t | exact pick_f | exact bin_add64 (by omega) | exact bin_sub64 (by omega) | exact un_not | exact cv_int Uq Uw | exact cv_int Uw Uq | exact bin_add | exact bin_sub | exact bin_mul | rfl)) rfl ?_ | refine Ev.prim (by (first | with_reducible exact lssL | with_reducible exact gtrL | with_reducible exact eqlL | with_reducible exact neqL | with_reducible exact leqL | with_reducible exact geqL | with_reducible exact lssN | with_reducible exact gtrN | with_reducible exact eqlN | with_reducible exact neqN | with_reducible exact leqN | with_reducible exact geqN | (with_reducible refine addL ?_; omega) | (with_reducible refine subL ?_; omega) | (with_reducible refine quoL ?_; omega) | (with_reducible refine mulL ?_; omega) | (with_reducible refine lmul ?_; omega) | (with_reducible refine addN ?_; omega) | (with_reducible refine subN ?_; omega) | (with_reducible refine quoN ?_; omega) | (with_reducible refine mulN ?_; omega) | (with_reducible refine addQ ?_; omega) | (with_reducible refine subQ ?_; omega) | (with_reducible refine mulQ ?_; omega) | (with_reducible refine shlQL ?_; omega) | (with_reducible refine shlQ ?_; omega) | (with_reducible refine remL ?_; decide) | (with_reducible refine shrL ?_; decide) | (with_reducible refine remN ?_; omega) | (with_reducible refine toU64 ?_ Uw Uq; omega) | (with_reducible exact toU32 Uq Uw) | exact bin_lss | exact bin_gtr | exact bin_eql | exact bin_neq | exact bin_leq | exact bin_geq | exact lenV_sl Us | exact ext_0 | exact ext_1 | exact ext_2 | exact pick_t | exact pick_f | exact bin_add64 (by omega) | exact bin_sub64 (by omega) | exact un_not | exact cv_int Uq Uw | exact cv_int Uw Uq | exact bin_add | exact bin_sub | exact bin_mul | rfl)) ?_)
    rw [nbits_div (k := 8) h, show c + (nbits (x / 2 ^ 8) + 8) = c + 8 + nbits (x / 2 ^ 8) by omega]
    exact len32_j1 (by omega) (by omega)
  · exact len32_j1 (by omega) (by omega)
theorem Len32_spec {H : AH} {x : Nat} (hx : x < 4294967296) : Ev (fun k _ => rn k 109 [u32 x] H) (Pu H fun v => v = i64 (nbits x)) := by
  refine Ev.fn (fun k => f109_eq k _ H) ?_
  refine Ev.prim geqL ?_
  refine Ev.ifp (fun h => ?_) fun h => ?_
  · repeat (first | refine Ev.some2 ?_ | refine Ev.some1 ?_ | refine Ev.gDo ?_ | refine Ev.gSkipT ?_ | refine Ev.gSkipF ?_ | refine Ev.gUndef ?_ | refine Ev.gCall ?_ | refine Ev.tt ?_ | refine Ev.ff ?_ | refine Ev.gPrim (by (first | with_reducible exact lssL | with_reducible exact gtrL | with_reducible exact eqlL | with_reducible exact neqL | with_reducible exact leqL | with_reducible exact geqL | with_reducible exact lssN | with_reducible exact gtrN | with_reducible exact eqlN | with_reducible exact neqN | with_reducible exact leqN | with_reducible exact geqN | (with_reducible refine addL ?_; omega) | (with_reducible refine subL ?_; omega) | (with_reducible refine quoL ?_; omega) | (with_reducible refine mulL ?_; omega) | (with_reducible refine lmul ?_; omega) | (with_reducible refine addN ?_; omega) | (with_reducible refine subN ?_; omega) | (with_reducible refine quoN ?_; omega) | (with_reducible refine mulN ?_; omega) | (with_reducible refine addQ ?_; omega) | (with_reducible refine subQ ?_; omega) | (with_reducible refine mulQ ?_; omega) | (with_reducible refine shlQL ?_; omega) | (with_reducible refine shlQ ?_; omega) | (with_reducible refine remL ?_; decide) | (with_reducible refine shrL ?_; decide) | (with_reducible refine remN ?_; omega) | (with_reducible refine toU64 ?_ Uw Uq; omega) | (with_reducible exact toU32 Uq Uw) | exact bin_lss | exact bin_gtr | exact bin_eql | exact bin_neq | exact bin_leq | exact bin_geq | exact lenV_sl Us | exact ext_0 | exact ext_1 | exact ext_2 | exact pick_t | exact pick_f | exact bin_add64 (by omega) | exact bin_sub64 (by omega) | exact un_not | exact cv_int Uq Uw | exact cv_int Uw Uq | exact bin_add | exact bin_sub | exact bin_mul | rfl)) rfl ?_ | refine Ev.prim (by (first | with_reducible exact lssL | with_reducible exact gtrL | with_reducible exact eqlL | with_reducible exact neqL | with_reducible exact leqL | with_reducible exact geqL | with_reducible exact lssN | with_reducible exact gtrN | with_reducible exact eqlN | with_reducible exact neqN | with_reducible exact leqN | with_reducible exact geqN | (with_reducible refine addL ?_; omega) | (with_reducible refine subL ?_; omega) | (with_reducible refine quoL ?_; omega) | (with_reducible refine mulL ?_; omega) | (with_reducible refine lmul ?_; omega) | (with_reducible refine addN ?_; omega) | (with_reducible refine subN ?_; omega) | (with_reducible refine quoN ?_; omega) | (with_reducible refine mulN ?_; omega) | (with_reducible refine addQ ?_; omega) | (with_reducible refine subQ ?_; omega) | (with_reducible refine mulQ ?_; omega) | (with_reducible refine shlQL ?_; omega) | (with_reducible refine shlQ ?_; omega) | (with_reducible refine remL ?_; decide) | (with_reducible refine shrL ?_; decide) | (with_reducible refine remN ?_; omega) | (with_reducible refine toU64 ?_ Uw Uq; omega) | (with_reducible exact toU32 Uq Uw) | exact bin_lss | exact bin_gtr | exact bin_eql | exact bin_neq | exact bin_leq | exact bin_geq | exact lenV_sl Us | exact ext_0 | exact ext_1 | exact ext_2 | exact pick_t | exact pick_f | exact bin_add64 (by omega) | exact bin_sub64 (by omega) | exact un_not | exact cv_int Uq Uw | exact cv_int Uw Uq | exact bin_add | exact bin_sub | exact bin_mul | rfl)) ?_)
    rw [nbits_div (k := 16) h, Nat.add_comm]
    exact len32_j0 (c := 16) (by omega) (by omega)
  · have := len32_j0 (H := H) (x := x) (c := 0) (by omega) (by omega)
    rwa [Nat.zero_add] at this
theorem Bits_spec {B H : AH} {xs : List Nat} {a : Value} (hm : xs.length < 549755813888) (ha : RdN B a xs) (hL : Le B H) : Ev (fun k _ => rn k 65 [a] H) (Pu H fun v => v = i64 (nbits (val xs))) := by
  refine Ev.fn (fun k => f65_eq k _ H) ?_
  have hx := limbs_length_le (val_lt ha.2)
  refine Ev.callU (trim_pure (by omega) ha hL) fun a ha => ?_
  generalize val xs = x at *
  refine Ev.prim (ha.lenN Ew) ?_
  refine Ev.prim eqlL ?_
  refine Ev.ifp (fun h => ?_) fun h => ?_
  · have : x = 0 := limbs_eq_nil.mp (List.length_eq_zero_iff.mp h)
    subst this
    exact Ev.doneU rfl
  · have hne : x ≠ 0 := fun e => h (by rw [e, limbs_zero]; rfl)
    refine Ev.prim (ha.lenN Ew) ?_
    repeat (first | refine Ev.some2 ?_ | refine Ev.some1 ?_ | refine Ev.gDo ?_ | refine Ev.gSkipT ?_ | refine Ev.gSkipF ?_ | refine Ev.gUndef ?_ | refine Ev.gCall ?_ | refine Ev.tt ?_ | refine Ev.ff ?_ | refine Ev.gPrim (by (first | with_reducible exact lssL | with_reducible exact gtrL | with_reducible exact eqlL | with_reducible exact neqL | with_reducible exact leqL | with_reducible exact geqL | with_reducible exact lssN | with_reducible exact gtrN | with_reducible exact eqlN | with_reducible exact neqN | with_reducible exact leqN | with_reducible exact geqN | (with_reducible refine addL ?_; omega) | (with_reducible refine subL ?_; omega) | (with_reducible refine quoL ?_; omega) | (with_reducible refine mulL ?_; omega) | (with_reducible refine lmul ?_; omega) | (with_reducible refine addN ?_; omega) | (with_reducible refine subN ?_; omega) | (with_reducible refine quoN ?_; omega) | (with_reducible refine mulN ?_; omega) | (with_reducible refine addQ ?_; omega) | (with_reducible refine subQ ?_; omega) | (with_reducible refine mulQ ?_; omega) | (with_reducible refine shlQL ?_; omega) | (with_reducible refine shlQ ?_; omega) | (with_reducible refine remL ?_; decide) | (with_reducible refine shrL ?_; decide) | (with_reducible refine remN ?_; omega) | (with_reducible refine toU64 ?_ Uw Uq; omega) | (with_reducible exact toU32 Uq Uw) | exact bin_lss | exact bin_gtr | exact bin_eql | exact bin_neq | exact bin_leq | exact bin_geq | exact lenV_sl Us | exact ext_0 | exact ext_1 | exact ext_2 | exact pick_t | exact pick_f | exact bin_add64 (by omega) | exact bin_sub64 (by omega) | exact un_not | exact cv_int Uq Uw | exact cv_int Uw Uq | exact bin_add | exact bin_sub | exact bin_mul | rfl)) rfl ?_ | refine Ev.prim (by (first | with_reducible exact lssL | with_reducible exact gtrL | with_reducible exact eqlL | with_reducible exact neqL | with_reducible exact leqL | with_reducible exact geqL | with_reducible exact lssN | with_reducible exact gtrN | with_reducible exact eqlN | with_reducible exact neqN | with_reducible exact leqN | with_reducible exact geqN | (with_reducible refine addL ?_; omega) | (with_reducible refine subL ?_; omega) | (with_reducible refine quoL ?_; omega) | (with_reducible refine mulL ?_; omega) | (with_reducible refine lmul ?_; omega) | (with_reducible refine addN ?_; omega) | (with_reducible refine subN ?_; omega) | (with_reducible refine quoN ?_; omega) | (with_reducible refine mulN ?_; omega) | (with_reducible refine addQ ?_; omega) | (with_reducible refine subQ ?_; omega) | (with_reducible refine mulQ ?_; omega) | (with_reducible refine shlQL ?_; omega) | (with_reducible refine shlQ ?_; omega) | (with_reducible refine remL ?_; decide) | (with_reducible refine shrL ?_; decide) | (with_reducible refine remN ?_; omega) | (with_reducible refine toU64 ?_ Uw Uq; omega) | (with_reducible exact toU32 Uq Uw) | exact bin_lss | exact bin_gtr | exact bin_eql | exact bin_neq | exact bin_leq | exact bin_geq | exact lenV_sl Us | exact ext_0 | exact ext_1 | exact ext_2 | exact pick_t | exact pick_f | exact bin_add64 (by omega) | exact bin_sub64 (by omega) | exact un_not | exact cv_int Uq Uw | exact cv_int Uw Uq | exact bin_add | exact bin_sub | exact bin_mul | rfl)) ?_)
    refine Ev.prim (ha.lenN Ew) ?_
    repeat (first | refine Ev.some2 ?_ | refine Ev.some1 ?_ | refine Ev.gDo ?_ | refine Ev.gSkipT ?_ | refine Ev.gSkipF ?_ | refine Ev.gUndef ?_ | refine Ev.gCall ?_ | refine Ev.tt ?_ | refine Ev.ff ?_ | refine Ev.gPrim (by (first | with_reducible exact lssL | with_reducible exact gtrL | with_reducible exact eqlL | with_reducible exact neqL | with_reducible exact leqL | with_reducible exact geqL | with_reducible exact lssN | with_reducible exact gtrN | with_reducible exact eqlN | with_reducible exact neqN | with_reducible exact leqN | with_reducible exact geqN | (with_reducible refine addL ?_; omega) | (with_reducible refine subL ?_; omega) | (with_reducible refine quoL ?_; omega) | (with_reducible refine mulL ?_; omega) | (with_reducible refine lmul ?_; omega) | (with_reducible refine addN ?_; omega) | (with_reducible refine subN ?_; omega) | (with_reducible refine quoN ?_; omega) | (with_reducible refine mulN ?_; omega) | (with_reducible refine addQ ?_; omega) | (with_reducible refine subQ ?_; omega) | (with_reducible refine mulQ ?_; omega) | (with_reducible refine shlQL ?_; omega) | (with_reducible refine shlQ ?_; omega) | (with_reducible refine remL ?_; decide) | (with_reducible refine shrL ?_; decide) | (with_reducible refine remN ?_; omega) | (with_reducible refine toU64 ?_ Uw Uq; omega) | (with_reducible exact toU32 Uq Uw) | exact bin_lss | exact bin_gtr | exact bin_eql | exact bin_neq | exact bin_leq | exact bin_geq | exact lenV_sl Us | exact ext_0 | exact ext_1 | exact ext_2 | exact pick_t | exact pick_f | exact bin_add64 (by omega) | exact bin_sub64 (by omega) | exact un_not | exact cv_int Uq Uw | exact cv_int Uw Uq | exact bin_add | exact bin_sub | exact bin_mul | rfl)) rfl ?_ | refine Ev.prim (by (first | with_reducible exact lssL | with_reducible exact gtrL | with_reducible exact eqlL | with_reducible exact neqL | with_reducible exact leqL | with_reducible exact geqL | with_reducible exact lssN | with_reducible exact gtrN | with_reducible exact eqlN | with_reducible exact neqN | with_reducible exact leqN | with_reducible exact geqN | (with_reducible refine addL ?_; omega) | (with_reducible refine subL ?_; omega) | (with_reducible refine quoL ?_; omega) | (with_reducible refine mulL ?_; omega) | (with_reducible refine lmul ?_; omega) | (with_reducible refine addN ?_; omega) | (with_reducible refine subN ?_; omega) | (with_reducible refine quoN ?_; omega) | (with_reducible refine mulN ?_; omega) | (with_reducible refine addQ ?_; omega) | (with_reducible refine subQ ?_; omega) | (with_reducible refine mulQ ?_; omega) | (with_reducible refine shlQL ?_; omega) | (with_reducible refine shlQ ?_; omega) | (with_reducible refine remL ?_; decide) | (with_reducible refine shrL ?_; decide) | (with_reducible refine remN ?_; omega) | (with_reducible refine toU64 ?_ Uw Uq; omega) | (with_reducible exact toU32 Uq Uw) | exact bin_lss | exact bin_gtr | exact bin_eql | exact bin_neq | exact bin_leq | exact bin_geq | exact lenV_sl Us | exact ext_0 | exact ext_1 | exact ext_2 | exact pick_t | exact pick_f | exact bin_add64 (by omega) | exact bin_sub64 (by omega) | exact un_not | exact cv_int Uq Uw | exact cv_int Uw Uq | exact bin_add | exact bin_sub | exact bin_mul | rfl)) ?_)
    obtain ⟨p, hp1, hp2⟩ := ha.ixN (k := .i64) (i := (limbs x).length - 1) Ew (by omega)
    refine Ev.prim hp1 ?_
    refine Ev.prim (hp2 H hL.le) ?_
    have hg := ha.2.getD ((limbs x).length - 1)
    refine Ev.callU (Len32_spec hg) ?_
    rintro _ rfl
    have hb : nbits ((limbs x).getD ((limbs x).length - 1) 0) ≤ 32 := nbits_le.mpr hg
    repeat (first | refine Ev.some2 ?_ | refine Ev.some1 ?_ | refine Ev.gDo ?_ | refine Ev.gSkipT ?_ | refine Ev.gSkipF ?_ | refine Ev.gUndef ?_ | refine Ev.gCall ?_ | refine Ev.tt ?_ | refine Ev.ff ?_ | refine Ev.gPrim (by (first | with_reducible exact lssL | with_reducible exact gtrL | with_reducible exact eqlL | with_reducible exact neqL | with_reducible exact leqL | with_reducible exact geqL | with_reducible exact lssN | with_reducible exact gtrN | with_reducible exact eqlN | with_reducible exact neqN | with_reducible exact leqN | with_reducible exact geqN | (with_reducible refine addL ?_; omega) | (with_reducible refine subL ?_; omega) | (with_reducible refine quoL ?_; omega) | (with_reducible refine mulL ?_; omega) | (with_reducible refine lmul ?_; omega) | (with_reducible refine addN ?_; omega) | (with_reducible refine subN ?_; omega) | (with_reducible refine quoN ?_; omega) | (with_reducible refine mulN ?_; omega) | (with_reducible refine addQ ?_; omega) | (with_reducible refine subQ ?_; omega) | (with_reducible refine mulQ ?_; omega) | (with_reducible refine shlQL ?_; omega) | (with_reducible refine shlQ ?_; omega) | (with_reducible refine remL ?_; decide) | (with_reducible refine shrL ?_; decide) | (with_reducible refine remN ?_; omega) | (with_reducible refine toU64 ?_ Uw Uq; omega) | (with_reducible exact toU32 Uq Uw) | exact bin_lss | exact bin_gtr | exact bin_eql | exact bin_neq | exact bin_leq | exact bin_geq | exact lenV_sl Us | exact ext_0 | exact ext_1 | exact ext_2 | exact pick_t | exact pick_f | exact bin_add64 (by omega) | exact bin_sub64 (by omega) | exact un_not | exact cv_int Uq Uw | exact cv_int Uw Uq | exact bin_add | exact bin_sub | exact bin_mul | rfl)) rfl ?_ | refine Ev.prim (by (first | with_reducible exact lssL | with_reducible exact gtrL | with_reducible exact eqlL | with_reducible exact neqL | with_reducible exact leqL | with_reducible exact geqL | with_reducible exact lssN | with_reducible exact gtrN | with_reducible exact eqlN | with_reducible exact neqN | with_reducible exact leqN | with_reducible exact geqN | (with_reducible refine addL ?_; omega) | (with_reducible refine subL ?_; omega) | (with_reducible refine quoL ?_; omega) | (with_reducible refine mulL ?_; omega) | (with_reducible refine lmul ?_; omega) | (with_reducible refine addN ?_; omega) | (with_reducible refine subN ?_; omega) | (with_reducible refine quoN ?_; omega) | (with_reducible refine mulN ?_; omega) | (with_reducible refine addQ ?_; omega) | (with_reducible refine subQ ?_; omega) | (with_reducible refine mulQ ?_; omega) | (with_reducible refine shlQL ?_; omega) | (with_reducible refine shlQ ?_; omega) | (with_reducible refine remL ?_; decide) | (with_reducible refine shrL ?_; decide) | (with_reducible refine remN ?_; omega) | (with_reducible refine toU64 ?_ Uw Uq; omega) | (with_reducible exact toU32 Uq Uw) | exact bin_lss | exact bin_gtr | exact bin_eql | exact bin_neq | exact bin_leq | exact bin_geq | exact lenV_sl Us | exact ext_0 | exact ext_1 | exact ext_2 | exact pick_t | exact pick_f | exact bin_add64 (by omega) | exact bin_sub64 (by omega) | exact un_not | exact cv_int Uq Uw | exact cv_int Uw Uq | exact bin_add | exact bin_sub | exact bin_mul | rfl)) ?_)
    exact Ev.doneU (by rw [nbits_limbs hne])
theorem and_pow_ne {x j : Nat} : (x &&& 2 ^ j ≠ 0) ↔ x.testBit j = true := by
  constructor
  · intro h
    cases hb : x.testBit j with
    | true => rfl
    | false =>
      refine absurd (Nat.eq_of_testBit_eq fun i => ?_) h
      rw [Nat.testBit_and, Nat.testBit_two_pow, Nat.zero_testBit]
      by_cases e : j = i
      · subst e; rw [hb]; rfl
      · rw [decide_eq_false e, Bool.and_false]
  · intro h e
    have := congrArg (Nat.testBit · j) e
    simp only [Nat.testBit_and, Nat.testBit_two_pow_self, h, Nat.zero_testBit] at this
    cases this
theorem Bit_spec {B H : AH} {xs : List Nat} {a : Value} {i : Nat} (hm : xs.length < 549755813888) (hi : i < 9223372036854775808) (ha : RdN B a xs) (hL : Le B H) : Ev (fun k _ => rn k 101 [a, i64 i] H) (Pu H fun v => v = .bool ((val xs).testBit i)) := by
  refine Ev.fn (fun k => f101_eq k _ _ H) ?_
  refine Ev.prim geqL ?_
  rw [show decide (0 ≤ i) = true from decide_eq_true (Nat.zero_le _)]
  repeat (first | refine Ev.some2 ?_ | refine Ev.some1 ?_ | refine Ev.gDo ?_ | refine Ev.gSkipT ?_ | refine Ev.gSkipF ?_ | refine Ev.gUndef ?_ | refine Ev.gCall ?_ | refine Ev.tt ?_ | refine Ev.ff ?_ | refine Ev.gPrim (by (first | with_reducible exact lssL | with_reducible exact gtrL | with_reducible exact eqlL | with_reducible exact neqL | with_reducible exact leqL | with_reducible exact geqL | with_reducible exact lssN | with_reducible exact gtrN | with_reducible exact eqlN | with_reducible exact neqN | with_reducible exact leqN | with_reducible exact geqN | (with_reducible refine addL ?_; omega) | (with_reducible refine subL ?_; omega) | (with_reducible refine quoL ?_; omega) | (with_reducible refine mulL ?_; omega) | (with_reducible refine lmul ?_; omega) | (with_reducible refine addN ?_; omega) | (with_reducible refine subN ?_; omega) | (with_reducible refine quoN ?_; omega) | (with_reducible refine mulN ?_; omega) | (with_reducible refine addQ ?_; omega) | (with_reducible refine subQ ?_; omega) | (with_reducible refine mulQ ?_; omega) | (with_reducible refine shlQL ?_; omega) | (with_reducible refine shlQ ?_; omega) | (with_reducible refine remL ?_; decide) | (with_reducible refine shrL ?_; decide) | (with_reducible refine remN ?_; omega) | (with_reducible refine toU64 ?_ Uw Uq; omega) | (with_reducible exact toU32 Uq Uw) | exact bin_lss | exact bin_gtr | exact bin_eql | exact bin_neq | exact bin_leq | exact bin_geq | exact lenV_sl Us | exact ext_0 | exact ext_1 | exact ext_2 | exact pick_t | exact pick_f | exact bin_add64 (by omega) | exact bin_sub64 (by omega) | exact un_not | exact cv_int Uq Uw | exact cv_int Uw Uq | exact bin_add | exact bin_sub | exact bin_mul | rfl)) rfl ?_ | refine Ev.prim (by (first | with_reducible exact lssL | with_reducible exact gtrL | with_reducible exact eqlL | with_reducible exact neqL | with_reducible exact leqL | with_reducible exact geqL | with_reducible exact lssN | with_reducible exact gtrN | with_reducible exact eqlN | with_reducible exact neqN | with_reducible exact leqN | with_reducible exact geqN | (with_reducible refine addL ?_; omega) | (with_reducible refine subL ?_; omega) | (with_reducible refine quoL ?_; omega) | (with_reducible refine mulL ?_; omega) | (with_reducible refine lmul ?_; omega) | (with_reducible refine addN ?_; omega) | (with_reducible refine subN ?_; omega) | (with_reducible refine quoN ?_; omega) | (with_reducible refine mulN ?_; omega) | (with_reducible refine addQ ?_; omega) | (with_reducible refine subQ ?_; omega) | (with_reducible refine mulQ ?_; omega) | (with_reducible refine shlQL ?_; omega) | (with_reducible refine shlQ ?_; omega) | (with_reducible refine remL ?_; decide) | (with_reducible refine shrL ?_; decide) | (with_reducible refine remN ?_; omega) | (with_reducible refine toU64 ?_ Uw Uq; omega) | (with_reducible exact toU32 Uq Uw) | exact bin_lss | exact bin_gtr | exact bin_eql | exact bin_neq | exact bin_leq | exact bin_geq | exact lenV_sl Us | exact ext_0 | exact ext_1 | exact ext_2 | exact pick_t | exact pick_f | exact bin_add64 (by omega) | exact bin_sub64 (by omega) | exact un_not | exact cv_int Uq Uw | exact cv_int Uw Uq | exact bin_add | exact bin_sub | exact bin_mul | rfl)) ?_)
  refine Ev.gPrim (ha.lenN Ew) rfl ?_
  repeat (first | refine Ev.some2 ?_ | refine Ev.some1 ?_ | refine Ev.gDo ?_ | refine Ev.gSkipT ?_ | refine Ev.gSkipF ?_ | refine Ev.gUndef ?_ | refine Ev.gCall ?_ | refine Ev.tt ?_ | refine Ev.ff ?_ | refine Ev.gPrim (by (first | with_reducible exact lssL | with_reducible exact gtrL | with_reducible exact eqlL | with_reducible exact neqL | with_reducible exact leqL | with_reducible exact geqL | with_reducible exact lssN | with_reducible exact gtrN | with_reducible exact eqlN | with_reducible exact neqN | with_reducible exact leqN | with_reducible exact geqN | (with_reducible refine addL ?_; omega) | (with_reducible refine subL ?_; omega) | (with_reducible refine quoL ?_; omega) | (with_reducible refine mulL ?_; omega) | (with_reducible refine lmul ?_; omega) | (with_reducible refine addN ?_; omega) | (with_reducible refine subN ?_; omega) | (with_reducible refine quoN ?_; omega) | (with_reducible refine mulN ?_; omega) | (with_reducible refine addQ ?_; omega) | (with_reducible refine subQ ?_; omega) | (with_reducible refine mulQ ?_; omega) | (with_reducible refine shlQL ?_; omega) | (with_reducible refine shlQ ?_; omega) | (with_reducible refine remL ?_; decide) | (with_reducible refine shrL ?_; decide) | (with_reducible refine remN ?_; omega) | (with_reducible refine toU64 ?_ Uw Uq; omega) | (with_reducible exact toU32 Uq Uw) | exact bin_lss | exact bin_gtr | exact bin_eql | exact bin_neq | exact bin_leq | exact bin_geq | exact lenV_sl Us | exact ext_0 | exact ext_1 | exact ext_2 | exact pick_t | exact pick_f | exact bin_add64 (by omega) | exact bin_sub64 (by omega) | exact un_not | exact cv_int Uq Uw | exact cv_int Uw Uq | exact bin_add | exact bin_sub | exact bin_mul | rfl)) rfl ?_ | refine Ev.prim (by (first | with_reducible exact lssL | with_reducible exact gtrL | with_reducible exact eqlL | with_reducible exact neqL | with_reducible exact leqL | with_reducible exact geqL | with_reducible exact lssN | with_reducible exact gtrN | with_reducible exact eqlN | with_reducible exact neqN | with_reducible exact leqN | with_reducible exact geqN | (with_reducible refine addL ?_; omega) | (with_reducible refine subL ?_; omega) | (with_reducible refine quoL ?_; omega) | (with_reducible refine mulL ?_; omega) | (with_reducible refine lmul ?_; omega) | (with_reducible refine addN ?_; omega) | (with_reducible refine subN ?_; omega) | (with_reducible refine quoN ?_; omega) | (with_reducible refine mulN ?_; omega) | (with_reducible refine addQ ?_; omega) | (with_reducible refine subQ ?_; omega) | (with_reducible refine mulQ ?_; omega) | (with_reducible refine shlQL ?_; omega) | (with_reducible refine shlQ ?_; omega) | (with_reducible refine remL ?_; decide) | (with_reducible refine shrL ?_; decide) | (with_reducible refine remN ?_; omega) | (with_reducible refine toU64 ?_ Uw Uq; omega) | (with_reducible exact toU32 Uq Uw) | exact bin_lss | exact bin_gtr | exact bin_eql | exact bin_neq | exact bin_leq | exact bin_geq | exact lenV_sl Us | exact ext_0 | exact ext_1 | exact ext_2 | exact pick_t | exact pick_f | exact bin_add64 (by omega) | exact bin_sub64 (by omega) | exact un_not | exact cv_int Uq Uw | exact cv_int Uw Uq | exact bin_add | exact bin_sub | exact bin_mul | rfl)) ?_)
  rw [testBit_val ha.2]
  by_cases h : i / 32 < xs.length
  · rw [decide_eq_true h]
    repeat (first | refine Ev.some2 ?_ | refine Ev.some1 ?_ | refine Ev.gDo ?_ | refine Ev.gSkipT ?_ | refine Ev.gSkipF ?_ | refine Ev.gUndef ?_ | refine Ev.gCall ?_ | refine Ev.tt ?_ | refine Ev.ff ?_ | refine Ev.gPrim (by (first | with_reducible exact lssL | with_reducible exact gtrL | with_reducible exact eqlL | with_reducible exact neqL | with_reducible exact leqL | with_reducible exact geqL | with_reducible exact lssN | with_reducible exact gtrN | with_reducible exact eqlN | with_reducible exact neqN | with_reducible exact leqN | with_reducible exact geqN | (with_reducible refine addL ?_; omega) | (with_reducible refine subL ?_; omega) | (with_reducible refine quoL ?_; omega) | (with_reducible refine mulL ?_; omega) | (with_reducible refine lmul ?_; omega) | (with_reducible refine addN ?_; omega) | (with_reducible refine subN ?_; omega) | (with_reducible refine quoN ?_; omega) | (with_reducible refine mulN ?_; omega) | (with_reducible refine addQ ?_; omega) | (with_reducible refine subQ ?_; omega) | (with_reducible refine mulQ ?_; omega) | (with_reducible refine shlQL ?_; omega) | (with_reducible refine shlQ ?_; omega) | (with_reducible refine remL ?_; decide) | (with_reducible refine shrL ?_; decide) | (with_reducible refine remN ?_; omega) | (with_reducible refine toU64 ?_ Uw Uq; omega) | (with_reducible exact toU32 Uq Uw) | exact bin_lss | exact bin_gtr | exact bin_eql | exact bin_neq | exact bin_leq | exact bin_geq | exact lenV_sl Us | exact ext_0 | exact ext_1 | exact ext_2 | exact pick_t | exact pick_f | exact bin_add64 (by omega) | exact bin_sub64 (by omega) | exact un_not | exact cv_int Uq Uw | exact cv_int Uw Uq | exact bin_add | exact bin_sub | exact bin_mul | rfl)) rfl ?_ | refine Ev.prim (by (first | with_reducible exact lssL | with_reducible exact gtrL | with_reducible exact eqlL | with_reducible exact neqL | with_reducible exact leqL | with_reducible exact geqL | with_reducible exact lssN | with_reducible exact gtrN | with_reducible exact eqlN | with_reducible exact neqN | with_reducible exact leqN | with_reducible exact geqN | (with_reducible refine addL ?_; omega) | (with_reducible refine subL ?_; omega) | (with_reducible refine quoL ?_; omega) | (with_reducible refine mulL ?_; omega) | (with_reducible refine lmul ?_; omega) | (with_reducible refine addN ?_; omega) | (with_reducible refine subN ?_; omega) | (with_reducible refine quoN ?_; omega) | (with_reducible refine mulN ?_; omega) | (with_reducible refine addQ ?_; omega) | (with_reducible refine subQ ?_; omega) | (with_reducible refine mulQ ?_; omega) | (with_reducible refine shlQL ?_; omega) | (with_reducible refine shlQ ?_; omega) | (with_reducible refine remL ?_; decide) | (with_reducible refine shrL ?_; decide) | (with_reducible refine remN ?_; omega) | (with_reducible refine toU64 ?_ Uw Uq; omega) | (with_reducible exact toU32 Uq Uw) | exact bin_lss | exact bin_gtr | exact bin_eql | exact bin_neq | exact bin_leq | exact bin_geq | exact lenV_sl Us | exact ext_0 | exact ext_1 | exact ext_2 | exact pick_t | exact pick_f | exact bin_add64 (by omega) | exact bin_sub64 (by omega) | exact un_not | exact cv_int Uq Uw | exact cv_int Uw Uq | exact bin_add | exact bin_sub | exact bin_mul | rfl)) ?_)
    obtain ⟨p, hp1, hp2⟩ := ha.ixN (k := .i64) (i := i / 32) Ew h
    refine Ev.gPrim hp1 rfl ?_
    repeat (first | refine Ev.some2 ?_ | refine Ev.some1 ?_ | refine Ev.gDo ?_ | refine Ev.gSkipT ?_ | refine Ev.gSkipF ?_ | refine Ev.gUndef ?_ | refine Ev.gCall ?_ | refine Ev.tt ?_ | refine Ev.ff ?_ | refine Ev.gPrim (by (first | with_reducible exact lssL | with_reducible exact gtrL | with_reducible exact eqlL | with_reducible exact neqL | with_reducible exact leqL | with_reducible exact geqL | with_reducible exact lssN | with_reducible exact gtrN | with_reducible exact eqlN | with_reducible exact neqN | with_reducible exact leqN | with_reducible exact geqN | (with_reducible refine addL ?_; omega) | (with_reducible refine subL ?_; omega) | (with_reducible refine quoL ?_; omega) | (with_reducible refine mulL ?_; omega) | (with_reducible refine lmul ?_; omega) | (with_reducible refine addN ?_; omega) | (with_reducible refine subN ?_; omega) | (with_reducible refine quoN ?_; omega) | (with_reducible refine mulN ?_; omega) | (with_reducible refine addQ ?_; omega) | (with_reducible refine subQ ?_; omega) | (with_reducible refine mulQ ?_; omega) | (with_reducible refine shlQL ?_; omega) | (with_reducible refine shlQ ?_; omega) | (with_reducible refine remL ?_; decide) | (with_reducible refine shrL ?_; decide) | (with_reducible refine remN ?_; omega) | (with_reducible refine toU64 ?_ Uw Uq; omega) | (with_reducible exact toU32 Uq Uw) | exact bin_lss | exact bin_gtr | exact bin_eql | exact bin_neq | exact bin_leq | exact bin_geq | exact lenV_sl Us | exact ext_0 | exact ext_1 | exact ext_2 | exact pick_t | exact pick_f | exact bin_add64 (by omega) | exact bin_sub64 (by omega) | exact un_not | exact cv_int Uq Uw | exact cv_int Uw Uq | exact bin_add | exact bin_sub | exact bin_mul | rfl)) rfl ?_ | refine Ev.prim (by (first | with_reducible exact lssL | with_reducible exact gtrL | with_reducible exact eqlL | with_reducible exact neqL | with_reducible exact leqL | with_reducible exact geqL | with_reducible exact lssN | with_reducible exact gtrN | with_reducible exact eqlN | with_reducible exact neqN | with_reducible exact leqN | with_reducible exact geqN | (with_reducible refine addL ?_; omega) | (with_reducible refine subL ?_; omega) | (with_reducible refine quoL ?_; omega) | (with_reducible refine mulL ?_; omega) | (with_reducible refine lmul ?_; omega) | (with_reducible refine addN ?_; omega) | (with_reducible refine subN ?_; omega) | (with_reducible refine quoN ?_; omega) | (with_reducible refine mulN ?_; omega) | (with_reducible refine addQ ?_; omega) | (with_reducible refine subQ ?_; omega) | (with_reducible refine mulQ ?_; omega) | (with_reducible refine shlQL ?_; omega) | (with_reducible refine shlQ ?_; omega) | (with_reducible refine remL ?_; decide) | (with_reducible refine shrL ?_; decide) | (with_reducible refine remN ?_; omega) | (with_reducible refine toU64 ?_ Uw Uq; omega) | (with_reducible exact toU32 Uq Uw) | exact bin_lss | exact bin_gtr | exact bin_eql | exact bin_neq | exact bin_leq | exact bin_geq | exact lenV_sl Us | exact ext_0 | exact ext_1 | exact ext_2 | exact pick_t | exact pick_f | exact bin_add64 (by omega) | exact bin_sub64 (by omega) | exact un_not | exact cv_int Uq Uw | exact cv_int Uw Uq | exact bin_add | exact bin_sub | exact bin_mul | rfl)) ?_)
    refine Ev.gPrim (hp2 H hL.le) rfl ?_
    have hg := ha.2.getD (i / 32)
    repeat (first | refine Ev.some2 ?_ | refine Ev.some1 ?_ | refine Ev.gDo ?_ | refine Ev.gSkipT ?_ | refine Ev.gSkipF ?_ | refine Ev.gUndef ?_ | refine Ev.gCall ?_ | refine Ev.tt ?_ | refine Ev.ff ?_ | refine Ev.gPrim (by (first | with_reducible exact lssL | with_reducible exact gtrL | with_reducible exact eqlL | with_reducible exact neqL | with_reducible exact leqL | with_reducible exact geqL | with_reducible exact lssN | with_reducible exact gtrN | with_reducible exact eqlN | with_reducible exact neqN | with_reducible exact leqN | with_reducible exact geqN | (with_reducible refine addL ?_; omega) | (with_reducible refine subL ?_; omega) | (with_reducible refine quoL ?_; omega) | (with_reducible refine mulL ?_; omega) | (with_reducible refine lmul ?_; omega) | (with_reducible refine addN ?_; omega) | (with_reducible refine subN ?_; omega) | (with_reducible refine quoN ?_; omega) | (with_reducible refine mulN ?_; omega) | (with_reducible refine addQ ?_; omega) | (with_reducible refine subQ ?_; omega) | (with_reducible refine mulQ ?_; omega) | (with_reducible refine shlQL ?_; omega) | (with_reducible refine shlQ ?_; omega) | (with_reducible refine remL ?_; decide) | (with_reducible refine shrL ?_; decide) | (with_reducible refine remN ?_; omega) | (with_reducible refine toU64 ?_ Uw Uq; omega) | (with_reducible exact toU32 Uq Uw) | exact bin_lss | exact bin_gtr | exact bin_eql | exact bin_neq | exact bin_leq | exact bin_geq | exact lenV_sl Us | exact ext_0 | exact ext_1 | exact ext_2 | exact pick_t | exact pick_f | exact bin_add64 (by omega) | exact bin_sub64 (by omega) | exact un_not | exact cv_int Uq Uw | exact cv_int Uw Uq | exact bin_add | exact bin_sub | exact bin_mul | rfl)) rfl ?_ | refine Ev.prim (by (first | with_reducible exact lssL | with_reducible exact gtrL | with_reducible exact eqlL | with_reducible exact neqL | with_reducible exact leqL | with_reducible exact geqL | with_reducible exact lssN | with_reducible exact gtrN | with_reducible exact eqlN | with_reducible exact neqN | with_reducible exact leqN | with_reducible exact geqN | (with_reducible refine addL ?_; omega) | (with_reducible refine subL ?_; omega) | (with_reducible refine quoL ?_; omega) | (with_reducible refine mulL ?_; omega) | (with_reducible refine lmul ?_; omega) | (with_reducible refine addN ?_; omega) | (with_reducible refine subN ?_; omega) | (with_reducible refine quoN ?_; omega) | (with_reducible refine mulN ?_; omega) | (with_reducible refine addQ ?_; omega) | (with_reducible refine subQ ?_; omega) | (with_reducible refine mulQ ?_; omega) | (with_reducible refine shlQL ?_; omega) | (with_reducible refine shlQ ?_; omega) | (with_reducible refine remL ?_; decide) | (with_reducible refine shrL ?_; decide) | (with_reducible refine remN ?_; omega) | (with_reducible refine toU64 ?_ Uw Uq; omega) | (with_reducible exact toU32 Uq Uw) | exact bin_lss | exact bin_gtr | exact bin_eql | exact bin_neq | exact bin_leq | exact bin_geq | exact lenV_sl Us | exact ext_0 | exact ext_1 | exact ext_2 | exact pick_t | exact pick_f | exact bin_add64 (by omega) | exact bin_sub64 (by omega) | exact un_not | exact cv_int Uq Uw | exact cv_int Uw Uq | exact bin_add | exact bin_sub | exact bin_mul | rfl)) ?_)
    refine Ev.gPrim (shlW (a := 1) (Nat.mod_lt _ (by decide))) rfl ?_
    have hp : 2 ^ (i % 32) < 4294967296 := Nat.pow_lt_pow_right (by decide) (n := 32) (Nat.mod_lt _ (by decide))
    rw [Nat.one_mul, Nat.mod_eq_of_lt hp]
    repeat (first | refine Ev.some2 ?_ | refine Ev.some1 ?_ | refine Ev.gDo ?_ | refine Ev.gSkipT ?_ | refine Ev.gSkipF ?_ | refine Ev.gUndef ?_ | refine Ev.gCall ?_ | refine Ev.tt ?_ | refine Ev.ff ?_ | refine Ev.gPrim (by (first | with_reducible exact lssL | with_reducible exact gtrL | with_reducible exact eqlL | with_reducible exact neqL | with_reducible exact leqL | with_reducible exact geqL | with_reducible exact lssN | with_reducible exact gtrN | with_reducible exact eqlN | with_reducible exact neqN | with_reducible exact leqN | with_reducible exact geqN | (with_reducible refine addL ?_; omega) | (with_reducible refine subL ?_; omega) | (with_reducible refine quoL ?_; omega) | (with_reducible refine mulL ?_; omega) | (with_reducible refine lmul ?_; omega) | (with_reducible refine addN ?_; omega) | (with_reducible refine subN ?_; omega) | (with_reducible refine quoN ?_; omega) | (with_reducible refine mulN ?_; omega) | (with_reducible refine addQ ?_; omega) | (with_reducible refine subQ ?_; omega) | (with_reducible refine mulQ ?_; omega) | (with_reducible refine shlQL ?_; omega) | (with_reducible refine shlQ ?_; omega) | (with_reducible refine remL ?_; decide) | (with_reducible refine shrL ?_; decide) | (with_reducible refine remN ?_; omega) | (with_reducible refine toU64 ?_ Uw Uq; omega) | (with_reducible exact toU32 Uq Uw) | exact bin_lss | exact bin_gtr | exact bin_eql | exact bin_neq | exact bin_leq | exact bin_geq | exact lenV_sl Us | exact ext_0 | exact ext_1 | exact ext_2 | exact pick_t | exact pick_f | exact bin_add64 (by omega) | exact bin_sub64 (by omega) | exact un_not | exact cv_int Uq Uw | exact cv_int Uw Uq | exact bin_add | exact bin_sub | exact bin_mul | rfl)) rfl ?_ | refine Ev.prim (by (first | with_reducible exact lssL | with_reducible exact gtrL | with_reducible exact eqlL | with_reducible exact neqL | with_reducible exact leqL | with_reducible exact geqL | with_reducible exact lssN | with_reducible exact gtrN | with_reducible exact eqlN | with_reducible exact neqN | with_reducible exact leqN | with_reducible exact geqN | (with_reducible refine addL ?_; omega) | (with_reducible refine subL ?_; omega) | (with_reducible refine quoL ?_; omega) | (with_reducible refine mulL ?_; omega) | (with_reducible refine lmul ?_; omega) | (with_reducible refine addN ?_; omega) | (with_reducible refine subN ?_; omega) | (with_reducible refine quoN ?_; omega) | (with_reducible refine mulN ?_; omega) | (with_reducible refine addQ ?_; omega) | (with_reducible refine subQ ?_; omega) | (with_reducible refine mulQ ?_; omega) | (with_reducible refine shlQL ?_; omega) | (with_reducible refine shlQ ?_; omega) | (with_reducible refine remL ?_; decide) | (with_reducible refine shrL ?_; decide) | (with_reducible refine remN ?_; omega) | (with_reducible refine toU64 ?_ Uw Uq; omega) | (with_reducible exact toU32 Uq Uw) | exact bin_lss | exact bin_gtr | exact bin_eql | exact bin_neq | exact bin_leq | exact bin_geq | exact lenV_sl Us | exact ext_0 | exact ext_1 | exact ext_2 | exact pick_t | exact pick_f | exact bin_add64 (by omega) | exact bin_sub64 (by omega) | exact un_not | exact cv_int Uq Uw | exact cv_int Uw Uq | exact bin_add | exact bin_sub | exact bin_mul | rfl)) ?_)
    refine Ev.gPrim (andW ⟨hg, hp⟩) rfl ?_
    repeat (first | refine Ev.some2 ?_ | refine Ev.some1 ?_ | refine Ev.gDo ?_ | refine Ev.gSkipT ?_ | refine Ev.gSkipF ?_ | refine Ev.gUndef ?_ | refine Ev.gCall ?_ | refine Ev.tt ?_ | refine Ev.ff ?_ | refine Ev.gPrim (by (first | with_reducible exact lssL | with_reducible exact gtrL | with_reducible exact eqlL | with_reducible exact neqL | with_reducible exact leqL | with_reducible exact geqL | with_reducible exact lssN | with_reducible exact gtrN | with_reducible exact eqlN | with_reducible exact neqN | with_reducible exact leqN | with_reducible exact geqN | (with_reducible refine addL ?_; omega) | (with_reducible refine subL ?_; omega) | (with_reducible refine quoL ?_; omega) | (with_reducible refine mulL ?_; omega) | (with_reducible refine lmul ?_; omega) | (with_reducible refine addN ?_; omega) | (with_reducible refine subN ?_; omega) | (with_reducible refine quoN ?_; omega) | (with_reducible refine mulN ?_; omega) | (with_reducible refine addQ ?_; omega) | (with_reducible refine subQ ?_; omega) | (with_reducible refine mulQ ?_; omega) | (with_reducible refine shlQL ?_; omega) | (with_reducible refine shlQ ?_; omega) | (with_reducible refine remL ?_; decide) | (with_reducible refine shrL ?_; decide) | (with_reducible refine remN ?_; omega) | (with_reducible refine toU64 ?_ Uw Uq; omega) | (with_reducible exact toU32 Uq Uw) | exact bin_lss | exact bin_gtr | exact bin_eql | exact bin_neq | exact bin_leq | exact bin_geq | exact lenV_sl Us | exact ext_0 | exact ext_1 | exact ext_2 | exact pick_t | exact pick_f | exact bin_add64 (by omega) | exact bin_sub64 (by omega) | exact un_not | exact cv_int Uq Uw | exact cv_int Uw Uq | exact bin_add | exact bin_sub | exact bin_mul | rfl)) rfl ?_ | refine Ev.prim (by (first | with_reducible exact lssL | with_reducible exact gtrL | with_reducible exact eqlL | with_reducible exact neqL | with_reducible exact leqL | with_reducible exact geqL | with_reducible exact lssN | with_reducible exact gtrN | with_reducible exact eqlN | with_reducible exact neqN | with_reducible exact leqN | with_reducible exact geqN | (with_reducible refine addL ?_; omega) | (with_reducible refine subL ?_; omega) | (with_reducible refine quoL ?_; omega) | (with_reducible refine mulL ?_; omega) | (with_reducible refine lmul ?_; omega) | (with_reducible refine addN ?_; omega) | (with_reducible refine subN ?_; omega) | (with_reducible refine quoN ?_; omega) | (with_reducible refine mulN ?_; omega) | (with_reducible refine addQ ?_; omega) | (with_reducible refine subQ ?_; omega) | (with_reducible refine mulQ ?_; omega) | (with_reducible refine shlQL ?_; omega) | (with_reducible refine shlQ ?_; omega) | (with_reducible refine remL ?_; decide) | (with_reducible refine shrL ?_; decide) | (with_reducible refine remN ?_; omega) | (with_reducible refine toU64 ?_ Uw Uq; omega) | (with_reducible exact toU32 Uq Uw) | exact bin_lss | exact bin_gtr | exact bin_eql | exact bin_neq | exact bin_leq | exact bin_geq | exact lenV_sl Us | exact ext_0 | exact ext_1 | exact ext_2 | exact pick_t | exact pick_f | exact bin_add64 (by omega) | exact bin_sub64 (by omega) | exact un_not | exact cv_int Uq Uw | exact cv_int Uw Uq | exact bin_add | exact bin_sub | exact bin_mul | rfl)) ?_)
    refine Ev.doneU ?_
    congr 1
    cases hb : (xs.getD (i / 32) 0).testBit (i % 32) with
    | true => exact decide_eq_true (and_pow_ne.mpr hb)
    | false => exact decide_eq_false fun h => by rw [and_pow_ne.mp h] at hb; cases hb
  · rw [decide_eq_false h]
    repeat (first | refine Ev.some2 ?_ | refine Ev.some1 ?_ | refine Ev.gDo ?_ | refine Ev.gSkipT ?_ | refine Ev.gSkipF ?_ | refine Ev.gUndef ?_ | refine Ev.gCall ?_ | refine Ev.tt ?_ | refine Ev.ff ?_ | refine Ev.gPrim (by (first | with_reducible exact lssL | with_reducible exact gtrL | with_reducible exact eqlL | with_reducible exact neqL | with_reducible exact leqL | with_reducible exact geqL | with_reducible exact lssN | with_reducible exact gtrN | with_reducible exact eqlN | with_reducible exact neqN | with_reducible exact leqN | with_reducible exact geqN | (with_reducible refine addL ?_; omega) | (with_reducible refine subL ?_; omega) | (with_reducible refine quoL ?_; omega) | (with_reducible refine mulL ?_; omega) | (with_reducible refine lmul ?_; omega) | (with_reducible refine addN ?_; omega) | (with_reducible refine subN ?_; omega) | (with_reducible refine quoN ?_; omega) | (with_reducible refine mulN ?_; omega) | (with_reducible refine addQ ?_; omega) | (with_reducible refine subQ ?_; omega) | (with_reducible refine mulQ ?_; omega) | (with_reducible refine shlQL ?_; omega) | (with_reducible refine shlQ ?_; omega) | (with_reducible refine remL ?_; decide) | (with_reducible refine shrL ?_; decide) | (with_reducible refine remN ?_; omega) | (with_reducible refine toU64 ?_ Uw Uq; omega) | (with_reducible exact toU32 Uq Uw) | exact bin_lss | exact bin_gtr | exact bin_eql | exact bin_neq | exact bin_leq | exact bin_geq | exact lenV_sl Us | exact ext_0 | exact ext_1 | exact ext_2 | exact pick_t | exact pick_f | exact bin_add64 (by omega) | exact bin_sub64 (by omega) | exact un_not | exact cv_int Uq Uw | exact cv_int Uw Uq | exact bin_add | exact bin_sub | exact bin_mul | rfl)) rfl ?_ | refine Ev.prim (by (first | with_reducible exact lssL | with_reducible exact gtrL | with_reducible exact eqlL | with_reducible exact neqL | with_reducible exact leqL | with_reducible exact geqL | with_reducible exact lssN | with_reducible exact gtrN | with_reducible exact eqlN | with_reducible exact neqN | with_reducible exact leqN | with_reducible exact geqN | (with_reducible refine addL ?_; omega) | (with_reducible refine subL ?_; omega) | (with_reducible refine quoL ?_; omega) | (with_reducible refine mulL ?_; omega) | (with_reducible refine lmul ?_; omega) | (with_reducible refine addN ?_; omega) | (with_reducible refine subN ?_; omega) | (with_reducible refine quoN ?_; omega) | (with_reducible refine mulN ?_; omega) | (with_reducible refine addQ ?_; omega) | (with_reducible refine subQ ?_; omega) | (with_reducible refine mulQ ?_; omega) | (with_reducible refine shlQL ?_; omega) | (with_reducible refine shlQ ?_; omega) | (with_reducible refine remL ?_; decide) | (with_reducible refine shrL ?_; decide) | (with_reducible refine remN ?_; omega) | (with_reducible refine toU64 ?_ Uw Uq; omega) | (with_reducible exact toU32 Uq Uw) | exact bin_lss | exact bin_gtr | exact bin_eql | exact bin_neq | exact bin_leq | exact bin_geq | exact lenV_sl Us | exact ext_0 | exact ext_1 | exact ext_2 | exact pick_t | exact pick_f | exact bin_add64 (by omega) | exact bin_sub64 (by omega) | exact un_not | exact cv_int Uq Uw | exact cv_int Uw Uq | exact bin_add | exact bin_sub | exact bin_mul | rfl)) ?_)
    refine Ev.doneU ?_
    rw [List.getD_eq_getElem?_getD, List.getElem?_eq_none (by omega)]; simp
end Go.AM.Y
set_option linter.unusedVariables false
set_option linter.unusedSimpArgs false
set_option maxRecDepth 100000
namespace Go.AM.Y
open Go Go.AM Go.Proofs
attribute [local irreducible] run bin un ld st box newV mkS fldA fld ixA ix slc slc3 build buildS cv cvS ap cpy lenV gOp pickV b2 aIf aChk evalK resume iterD Option.bind

theorem mul_inner {H0 B0 B : AH} {xs ys : List Nat} {a b : Value} {bo i x T : Nat} (hb : RdN B b ys) (hx : x < 4294967296) (hi : i < xs.length) (hlen : xs.length + ys.length < 549755813888) :
    ∀ (m j : Nat) (zs : List Nat) (c : Nat) (H : AH), j + m = ys.length → zs.length = xs.length + ys.length → small zs → c < 4294967296 →
    val (zs.take (i + ys.length)) + 4294967296 ^ (i + j) * c = T + 4294967296 ^ i * (x * val (ys.take j)) →
    St H0 B0 B [(bo, ⟨zs.map u32, 67, .fix⟩)] H →
    Ev (fun k n => f79_L1 k b (sl bo 0 (xs.length + ys.length) (xs.length + ys.length)) (i64 i) (u32 x) (u64 c) a (i64 xs.length) (i64 i) b (i64 ys.length) (i64 j) n H)
      (fun o => ∃ zs c H, o = (.exit 2, f79_X_L1 b (sl bo 0 (xs.length + ys.length) (xs.length + ys.length)) (i64 i) (u64 c) a (i64 xs.length) (i64 i), H) ∧ zs.length = xs.length + ys.length ∧ small zs ∧ c < 4294967296 ∧
        val (zs.take (i + ys.length)) + 4294967296 ^ (i + ys.length) * c = T + 4294967296 ^ i * (x * val ys) ∧ St H0 B0 B [(bo, ⟨zs.map u32, 67, .fix⟩)] H) := by
  intro m
  induction m with
  | zero =>
    intro j zs c H hj hz hsm hc hv hS
    refine Ev.succ (fun k n => f79_L1_succ k _ _ _ _ _ _ _ _ _ _ _ n H) ?_
    refine Ev.prim lssN ?_
    refine Ev.ifp (fun h => absurd h (by omega)) fun _ => ?_
    refine Ev.ret ⟨zs, c, H, rfl, hz, hsm, hc, ?_, hS⟩
    have : j = ys.length := by omega
    subst this
    rw [List.take_of_length_le (Nat.le_refl _)] at hv
    exact hv
  | succ m ih =>
    intro j zs c H hj hz hsm hc hv hS
    refine Ev.succ (fun k n => f79_L1_succ k _ _ _ _ _ _ _ _ _ _ _ n H) ?_
    refine Ev.prim lssN ?_
    refine Ev.ifp (fun _ => ?_) fun h => absurd (by omega) h
    obtain ⟨p, hp1, hp2⟩ := hb.ixN (k := .i64) (i := j) Ew (by omega)
    refine Ev.prim hp1 ?_
    refine Ev.prim (hp2 H hS.le) ?_
    have hy := hb.2.getD j
    have ho := hsm.getD (i + j)
    have hxy : x * ys.getD j 0 ≤ 4294967295 * 4294967295 := Nat.mul_le_mul (by omega) (by omega)
    refine Ev.prim (toU64 (by omega) Uw Uq) ?_
    refine Ev.prim (toU64 (by omega) Uw Uq) ?_
    refine Ev.prim (mulQ (by omega)) ?_
    refine Ev.prim (addN (by omega)) ?_
    refine Ev.prim (ixA_own Ew (by omega)) ?_
    refine Ev.ldW Ew hS (by (first | exact .head _ | exact .tail _ (.head _) | exact .tail _ (.tail _ (.head _)) | exact .tail _ (.tail _ (.tail _ (.head _))) | exact .tail _ (.tail _ (.tail _ (.tail _ (.head _)))))) (j := i + j) (by omega) (by omega) ?_
    refine Ev.prim (toU64 (by omega) Uw Uq) ?_
    generalize hw : ys.getD j 0 = y at *
    generalize hp : x * y = q at *
    refine Ev.prim (addQ (by omega)) ?_
    refine Ev.prim (addQ (by omega)) ?_
    refine Ev.prim (addN (by omega)) ?_
    refine Ev.prim (toU32 Uq Uw) ?_
    refine Ev.prim (shrN (b := 32) (by decide)) ?_
    refine Ev.prim (ixA_own Ew (by omega)) ?_
    refine Ev.stW Ew hS (by (first | exact .head _ | exact .tail _ (.head _) | exact .tail _ (.tail _ (.head _)) | exact .tail _ (.tail _ (.tail _ (.head _))) | exact .tail _ (.tail _ (.tail _ (.tail _ (.head _)))))) (j := i + j) (by omega) (by omega) rfl (by simp) (.head _) fun H' hS' => ?_
    refine Ev.prim (by (first | with_reducible exact lssL | with_reducible exact gtrL | with_reducible exact eqlL | with_reducible exact neqL | with_reducible exact leqL | with_reducible exact geqL | with_reducible exact lssN | with_reducible exact gtrN | with_reducible exact eqlN | with_reducible exact neqN | with_reducible exact leqN | with_reducible exact geqN | (with_reducible refine addL ?_; omega) | (with_reducible refine subL ?_; omega) | (with_reducible refine quoL ?_; omega) | (with_reducible refine mulL ?_; omega) | (with_reducible refine lmul ?_; omega) | (with_reducible refine addN ?_; omega) | (with_reducible refine subN ?_; omega) | (with_reducible refine quoN ?_; omega) | (with_reducible refine mulN ?_; omega) | (with_reducible refine addQ ?_; omega) | (with_reducible refine subQ ?_; omega) | (with_reducible refine mulQ ?_; omega) | (with_reducible refine shlQL ?_; omega) | (with_reducible refine shlQ ?_; omega) | (with_reducible refine remL ?_; decide) | (with_reducible refine shrL ?_; decide) | (with_reducible refine remN ?_; omega) | (with_reducible refine toU64 ?_ Uw Uq; omega) | (with_reducible exact toU32 Uq Uw) | exact bin_lss | exact bin_gtr | exact bin_eql | exact bin_neq | exact bin_leq | exact bin_geq | exact lenV_sl Us | exact ext_0 | exact ext_1 | exact ext_2 | exact pick_t | exact pick_f | exact bin_add64 (by omega) | exact bin_sub64 (by omega) | exact un_not | exact cv_int Uq Uw | exact cv_int Uw Uq | exact bin_add | exact bin_sub | exact bin_mul | rfl)) ?_
    refine ih (j + 1) _ _ H' (by omega) (by simp [hz]) (hsm.set _ (Nat.mod_lt _ (by decide))) (by omega) ?_ hS'
    have e1 := val_set (zs := zs.take (i + ys.length)) (j := i + j) (w := (q + zs.getD (i + j) 0 + c) % 4294967296) (by rw [List.length_take]; omega)
    rw [getD_take (by omega)] at e1
    rw [List.take_set, val_take_succ', hw, Nat.mul_add x, Nat.mul_left_comm x, hp, Nat.mul_add (4294967296 ^ i), ← Nat.mul_assoc (4294967296 ^ i) (4294967296 ^ j), ← Nat.pow_add]
    have e2 : (q + zs.getD (i + j) 0 + c) % 4294967296 + 4294967296 * ((q + zs.getD (i + j) 0 + c) / 2 ^ 32) = q + zs.getD (i + j) 0 + c := by omega
    generalize (q + zs.getD (i + j) 0 + c) % 4294967296 = w at *
    generalize (q + zs.getD (i + j) 0 + c) / 2 ^ 32 = c' at *
    generalize zs.getD (i + j) 0 = o at *
    rw [show i + (j + 1) = i + j + 1 by omega, Nat.pow_succ, Nat.mul_assoc]
    have e3 := congrArg (4294967296 ^ (i + j) * ·) e2
    simp only [Nat.mul_add] at e3
    omega
theorem mul_loop {H0 B0 B : AH} {xs ys : List Nat} {a b : Value} {bo : Nat} (ha : RdN B a xs) (hb : RdN B b ys) (hlen : xs.length + ys.length < 549755813888) :
    ∀ (m i : Nat) (zs : List Nat) (H : AH), i + m = xs.length → zs.length = xs.length + ys.length → small zs → val (zs.take (i + ys.length)) = val (xs.take i) * val ys →
    St H0 B0 B [(bo, ⟨zs.map u32, 67, .fix⟩)] H →
    Ev (fun k n => f79_L0 k b (sl bo 0 (xs.length + ys.length) (xs.length + ys.length)) a (i64 xs.length) (i64 i) n H)
      (fun o => ∃ zs H, o = (.exit 0, f79_X_L0 (sl bo 0 (xs.length + ys.length) (xs.length + ys.length)), H) ∧ zs.length = xs.length + ys.length ∧ small zs ∧ val zs = val xs * val ys ∧
        St H0 B0 B [(bo, ⟨zs.map u32, 67, .fix⟩)] H) := by
  intro m
  induction m with
  | zero =>
    intro i zs H hi hz hsm hv hS
    refine Ev.succ (fun k n => f79_L0_succ k _ _ _ _ _ n H) ?_
    refine Ev.prim lssN ?_
    refine Ev.ifp (fun h => absurd h (by omega)) fun _ => ?_
    refine Ev.ret ⟨zs, H, rfl, hz, hsm, ?_, hS⟩
    have : i = xs.length := by omega
    subst this
    rw [List.take_of_length_le (by omega), List.take_of_length_le (Nat.le_refl _)] at hv
    exact hv
  | succ m ih =>
    intro i zs H hi hz hsm hv hS
    refine Ev.succ (fun k n => f79_L0_succ k _ _ _ _ _ n H) ?_
    refine Ev.prim lssN ?_
    refine Ev.ifp (fun _ => ?_) fun h => absurd (by omega) h
    obtain ⟨p, hp1, hp2⟩ := ha.ixN (k := .i64) (i := i) Ew (by omega)
    refine Ev.prim hp1 ?_
    refine Ev.prim (hp2 H hS.le) ?_
    refine Ev.prim (hb.lenN Ew) ?_
    refine Ev.bind (Ev.loop (mul_inner (a := a) (x := xs.getD i 0) (T := val (xs.take i) * val ys) hb (ha.2.getD i) (by omega) hlen ys.length 0 zs 0 H (by omega) hz hsm (by decide) (by simp [val, hv]) hS)) ?_
    rintro _ ⟨zs, c, H1, rfl, hz, hsm, hc, hv1, hS1⟩
    refine Ev.eq (fun k n => f79_A1_x2 k n _ _ _ _ _ _ _ H1) ?_
    refine Ev.prim (hb.lenN Ew) ?_
    refine Ev.prim (addN (by omega)) ?_
    refine Ev.prim (toU32 Uq Uw) ?_
    rw [Nat.mod_eq_of_lt hc]
    refine Ev.prim (ixA_own Ew (by omega)) ?_
    refine Ev.stW Ew hS1 (by (first | exact .head _ | exact .tail _ (.head _) | exact .tail _ (.tail _ (.head _)) | exact .tail _ (.tail _ (.tail _ (.head _))) | exact .tail _ (.tail _ (.tail _ (.tail _ (.head _)))))) (j := i + ys.length) (by omega) (by omega) rfl (by simp) (.head _) fun H' hS' => ?_
    refine Ev.prim (by (first | with_reducible exact lssL | with_reducible exact gtrL | with_reducible exact eqlL | with_reducible exact neqL | with_reducible exact leqL | with_reducible exact geqL | with_reducible exact lssN | with_reducible exact gtrN | with_reducible exact eqlN | with_reducible exact neqN | with_reducible exact leqN | with_reducible exact geqN | (with_reducible refine addL ?_; omega) | (with_reducible refine subL ?_; omega) | (with_reducible refine quoL ?_; omega) | (with_reducible refine mulL ?_; omega) | (with_reducible refine lmul ?_; omega) | (with_reducible refine addN ?_; omega) | (with_reducible refine subN ?_; omega) | (with_reducible refine quoN ?_; omega) | (with_reducible refine mulN ?_; omega) | (with_reducible refine addQ ?_; omega) | (with_reducible refine subQ ?_; omega) | (with_reducible refine mulQ ?_; omega) | (with_reducible refine shlQL ?_; omega) | (with_reducible refine shlQ ?_; omega) | (with_reducible refine remL ?_; decide) | (with_reducible refine shrL ?_; decide) | (with_reducible refine remN ?_; omega) | (with_reducible refine toU64 ?_ Uw Uq; omega) | (with_reducible exact toU32 Uq Uw) | exact bin_lss | exact bin_gtr | exact bin_eql | exact bin_neq | exact bin_leq | exact bin_geq | exact lenV_sl Us | exact ext_0 | exact ext_1 | exact ext_2 | exact pick_t | exact pick_f | exact bin_add64 (by omega) | exact bin_sub64 (by omega) | exact un_not | exact cv_int Uq Uw | exact cv_int Uw Uq | exact bin_add | exact bin_sub | exact bin_mul | rfl)) ?_
    refine ih (i + 1) _ H' (by omega) (by simp [hz]) (hsm.set _ hc) ?_ hS'
    rw [show i + 1 + ys.length = i + ys.length + 1 by omega, val_take_set (by omega), hv1, val_take_succ', Nat.add_mul, Nat.mul_assoc]
theorem Mul_spec {B H : AH} {xs ys : List Nat} {a b : Value} (ha : RdN B a xs) (hb : RdN B b ys) (hm : xs.length < 137438953472) (hm' : ys.length < 137438953472) (hL : Le B H) :
    Ev (fun k _ => rn k 79 [a, b] H) (An B H fun B' v => RdN B' v (limbs (val xs * val ys))) := by
  refine Ev.fn (fun k => f79_eq k _ _ H) ?_
  have hx := limbs_length_le (val_lt ha.2)
  have hy := limbs_length_le (val_lt hb.2)
  refine Ev.callU (trim_pure (by omega) ha hL) fun a ha => ?_
  refine Ev.callU (trim_pure (by omega) hb hL) fun b hb => ?_
  generalize val xs = x at *
  generalize val ys = y at *
  refine Ev.prim (ha.lenN Ew) ?_
  refine Ev.prim (hb.lenN Ew) ?_
  refine Ev.prim (addN (by omega)) ?_
  refine Ev.mkS Ew (St.start hL) (by omega) (by omega) fun bo B1 H1 hm1 hS1 => ?_
  rw [map_replicate] at hS1
  refine Ev.prim (ha.lenN Ew) ?_
  refine Ev.bind (Ev.loop (mul_loop (ha.mono hm1) (hb.mono hm1) (by omega) (limbs x).length 0 (List.replicate ((limbs x).length + (limbs y).length) 0) H1 (by omega) (by simp) (small_replicate _) (by simp [val, val_replicate]) hS1)) ?_
  rintro _ ⟨zs, H2, rfl, hz, hsm, hv, hS2⟩
  refine Ev.eq (fun k _ => f79_A0_x0 k _ H2) ?_
  rw [val_limbs, val_limbs] at hv
  obtain ⟨B4, hm4, hr4, hS4⟩ := hS2.freezeN (n := (limbs x).length + (limbs y).length) (cap := (limbs x).length + (limbs y).length) hsm hz.symm (by omega)
  refine Ev.call hS4 (trim_spec (by omega) hr4) fun v B5 H5 hm5 hS5 h5 => ?_
  refine Ev.done hS5 ?_
  rw [← hv]; exact h5
end Go.AM.Y
set_option linter.unusedVariables false
set_option linter.unusedSimpArgs false
set_option maxRecDepth 100000
namespace Go.AM.Y
open Go Go.AM Go.Proofs
attribute [local irreducible] run bin un ld st box newV mkS fldA fld ixA ix slc slc3 build buildS cv cvS ap cpy lenV gOp pickV b2 aIf aChk evalK resume iterD Option.bind

theorem or_add {a b i : Nat} (h : a < 2 ^ i) : a ||| b * 2 ^ i = a + b * 2 ^ i := by
  rw [Nat.or_comm, ← Nat.shiftLeft_eq, ← Nat.shiftLeft_add_eq_or_of_lt h, Nat.add_comm]
theorem or_low {o x s : Nat} (ho : o < 2 ^ s) (hs : s < 32) : o ||| x * 2 ^ s % 4294967296 = o + x * 2 ^ s % 4294967296 := by
  have e : x * 2 ^ s % 4294967296 = (x % 2 ^ (32 - s)) * 2 ^ s := by
    rw [show (4294967296 : Nat) = 2 ^ (32 - s) * 2 ^ s by rw [← Nat.pow_add, show 32 - s + s = 32 by omega], Nat.mul_mod_mul_right]
  rw [e, or_add ho]
theorem shl_loop {H0 B0 B : AH} {xs : List Nat} {a : Value} {bo n q s N : Nat} (ha : RdN B a xs) (hn : n = 32 * q + s) (hs : s < 32) (hlen : xs.length < 549755813888) (hq : q < 100000) (hN : N = q + xs.length + 1) :
    ∀ (m i : Nat) (zs : List Nat) (H : AH), i + m = xs.length → zs.length = N → small zs → val (zs.take (q + i + 1)) = 4294967296 ^ q * (val (xs.take i) * 2 ^ s) → zs.getD (q + i) 0 < 2 ^ s →
    St H0 B0 B [(bo, ⟨zs.map u32, 67, .fix⟩)] H →
    Ev (fun k l => f113_L0 k (i64 n) (sl bo 0 N N) a (i64 xs.length) (i64 i) l H)
      (fun o => ∃ zs H, o = (.exit 0, f113_X_L0 (sl bo 0 N N), H) ∧ zs.length = N ∧ small zs ∧ val zs = 4294967296 ^ q * (val xs * 2 ^ s) ∧ St H0 B0 B [(bo, ⟨zs.map u32, 67, .fix⟩)] H) := by
  intro m
  induction m with
  | zero =>
    intro i zs H hi hz hsm hv ho hS
    refine Ev.succ (fun k l => f113_L0_succ k _ _ _ _ _ l H) ?_
    refine Ev.prim lssN ?_
    refine Ev.ifp (fun h => absurd h (by omega)) fun _ => ?_
    refine Ev.ret ⟨zs, H, rfl, hz, hsm, ?_, hS⟩
    have : i = xs.length := by omega
    subst this
    rw [List.take_of_length_le (by omega), List.take_of_length_le (Nat.le_refl _)] at hv
    exact hv
  | succ m ih =>
    intro i zs H hi hz hsm hv ho hS
    refine Ev.succ (fun k l => f113_L0_succ k _ _ _ _ _ l H) ?_
    refine Ev.prim lssN ?_
    refine Ev.ifp (fun _ => ?_) fun h => absurd (by omega) h
    obtain ⟨p, hp1, hp2⟩ := ha.ixN (k := .i64) (i := i) Ew (by omega)
    refine Ev.prim hp1 ?_
    refine Ev.prim (hp2 H hS.le) ?_
    have hx := ha.2.getD i
    generalize hw : xs.getD i 0 = x at *
    refine Ev.prim (toU64 (by omega) Uw Uq) ?_
    refine Ev.prim (by (first | with_reducible exact lssL | with_reducible exact gtrL | with_reducible exact eqlL | with_reducible exact neqL | with_reducible exact leqL | with_reducible exact geqL | with_reducible exact lssN | with_reducible exact gtrN | with_reducible exact eqlN | with_reducible exact neqN | with_reducible exact leqN | with_reducible exact geqN | (with_reducible refine addL ?_; omega) | (with_reducible refine subL ?_; omega) | (with_reducible refine quoL ?_; omega) | (with_reducible refine mulL ?_; omega) | (with_reducible refine lmul ?_; omega) | (with_reducible refine addN ?_; omega) | (with_reducible refine subN ?_; omega) | (with_reducible refine quoN ?_; omega) | (with_reducible refine mulN ?_; omega) | (with_reducible refine addQ ?_; omega) | (with_reducible refine subQ ?_; omega) | (with_reducible refine mulQ ?_; omega) | (with_reducible refine shlQL ?_; omega) | (with_reducible refine shlQ ?_; omega) | (with_reducible refine remL ?_; decide) | (with_reducible refine shrL ?_; decide) | (with_reducible refine remN ?_; omega) | (with_reducible refine toU64 ?_ Uw Uq; omega) | (with_reducible exact toU32 Uq Uw) | exact bin_lss | exact bin_gtr | exact bin_eql | exact bin_neq | exact bin_leq | exact bin_geq | exact lenV_sl Us | exact ext_0 | exact ext_1 | exact ext_2 | exact pick_t | exact pick_f | exact bin_add64 (by omega) | exact bin_sub64 (by omega) | exact un_not | exact cv_int Uq Uw | exact cv_int Uw Uq | exact bin_add | exact bin_sub | exact bin_mul | rfl)) ?_
    rw [show n % 32 = s by omega]
    have hps : 2 ^ s ≤ 2 ^ 31 := Nat.pow_le_pow_right (n := 2) (by decide) (by omega : s ≤ 31)
    rw [show (2 : Nat) ^ 31 = 2147483648 by decide] at hps
    have hxs : x * 2 ^ s ≤ 4294967295 * 2147483648 := Nat.mul_le_mul (by omega) hps
    refine Ev.prim (shlQ ⟨by omega, by omega⟩) ?_
    refine Ev.prim (quoL ⟨by decide, by omega⟩) ?_
    rw [show n / 32 = q by omega]
    refine Ev.prim (addN (by omega)) ?_
    refine Ev.prim (ixA_own Ew (by omega)) ?_
    refine Ev.ldW Ew hS (by (first | exact .head _ | exact .tail _ (.head _) | exact .tail _ (.tail _ (.head _)) | exact .tail _ (.tail _ (.tail _ (.head _))) | exact .tail _ (.tail _ (.tail _ (.tail _ (.head _)))))) (j := q + i) (by omega) (by omega) ?_
    have hoo := hsm.getD (q + i)
    refine Ev.prim (toU32 Uq Uw) ?_
    refine Ev.prim (orW ⟨hoo, Nat.mod_lt _ (by decide)⟩) ?_
    refine Ev.prim (ixA_own Ew (by omega)) ?_
    rw [or_low ho hs]
    generalize ho' : zs.getD (q + i) 0 = o at *
    have hsum : o + x * 2 ^ s % 4294967296 < 4294967296 := by
      rw [← or_low ho hs]; exact Nat.or_lt_two_pow (n := 32) hoo (Nat.mod_lt _ (by decide))
    refine Ev.stW Ew hS (by (first | exact .head _ | exact .tail _ (.head _) | exact .tail _ (.tail _ (.head _)) | exact .tail _ (.tail _ (.tail _ (.head _))) | exact .tail _ (.tail _ (.tail _ (.tail _ (.head _)))))) (j := q + i) (by omega) (by omega) rfl (by simp) (.head _) fun H1 hS1 => ?_
    refine Ev.prim (quoL ⟨by decide, by omega⟩) ?_
    rw [show n / 32 = q by omega]
    refine Ev.prim (addN (by omega)) ?_
    refine Ev.prim (addL (by omega)) ?_
    refine Ev.prim (shrL (by decide)) ?_
    refine Ev.prim (toU32 Uq Uw) ?_
    have hdv : x * 2 ^ s / 2 ^ 32 < 2 ^ s := Nat.div_lt_of_lt_mul (Nat.mul_lt_mul_of_lt_of_le hx (Nat.le_refl _) (Nat.pow_pos (by decide)))
    rw [Nat.mod_eq_of_lt (show x * 2 ^ s / 2 ^ 32 < 4294967296 by omega)]
    refine Ev.prim (ixA_own Ew (by omega)) ?_
    refine Ev.stW Ew hS1 (by (first | exact .head _ | exact .tail _ (.head _) | exact .tail _ (.tail _ (.head _)) | exact .tail _ (.tail _ (.tail _ (.head _))) | exact .tail _ (.tail _ (.tail _ (.tail _ (.head _)))))) (j := q + i + 1) (by simp; omega) (by omega) rfl (by simp) (.head _) fun H2 hS2 => ?_
    refine Ev.prim (addL (by omega)) ?_
    refine ih (i + 1) _ H2 (by omega) (by simp [hz]) ((hsm.set _ hsum).set _ (by omega)) ?_ ?_ hS2
    · rw [show q + (i + 1) + 1 = q + i + 1 + 1 by omega, val_take_set (by simp; omega), val_take_set (by omega), val_take_succ' xs, hw]
      rw [val_take_succ', ho'] at hv
      have e : o + x * 2 ^ s % 4294967296 + 4294967296 * (x * 2 ^ s / 2 ^ 32) = o + x * 2 ^ s := by omega
      generalize x * 2 ^ s % 4294967296 = w1 at *
      generalize x * 2 ^ s / 2 ^ 32 = w2 at *
      have e2 := congrArg (4294967296 ^ (q + i) * ·) e
      simp only [Nat.mul_add] at e2
      rw [Nat.pow_succ, Nat.mul_assoc, Nat.add_mul, Nat.mul_add (4294967296 ^ q), ← hv, Nat.mul_assoc (4294967296 ^ i), ← Nat.mul_assoc (4294967296 ^ q) (4294967296 ^ i), ← Nat.pow_add, Nat.mul_add]
      omega
    · rw [show q + (i + 1) = q + i + 1 by omega, getD_set_self (by simp; omega)]; exact hdv
theorem Shl_spec {B H : AH} {xs : List Nat} {a : Value} {n : Nat} (ha : RdN B a xs) (hm : xs.length < 137438953472) (hn : n ≤ 100000) (hL : Le B H) :
    Ev (fun k _ => rn k 113 [a, i64 n] H) (An B H fun B' v => ∃ w, v = .tuple #[w, .bool true] ∧ RdN B' w (limbs (val xs * 2 ^ n))) := by
  refine Ev.fn (fun k => f113_eq k _ _ H) ?_
  have hx := limbs_length_le (val_lt ha.2)
  refine Ev.prim lssL ?_
  rw [show decide (n < 0) = false from decide_eq_false (by omega)]
  repeat (first | refine Ev.some2 ?_ | refine Ev.some1 ?_ | refine Ev.gDo ?_ | refine Ev.gSkipT ?_ | refine Ev.gSkipF ?_ | refine Ev.gUndef ?_ | refine Ev.gCall ?_ | refine Ev.tt ?_ | refine Ev.ff ?_ | refine Ev.gPrim (by (first | with_reducible exact lssL | with_reducible exact gtrL | with_reducible exact eqlL | with_reducible exact neqL | with_reducible exact leqL | with_reducible exact geqL | with_reducible exact lssN | with_reducible exact gtrN | with_reducible exact eqlN | with_reducible exact neqN | with_reducible exact leqN | with_reducible exact geqN | (with_reducible refine addL ?_; omega) | (with_reducible refine subL ?_; omega) | (with_reducible refine quoL ?_; omega) | (with_reducible refine mulL ?_; omega) | (with_reducible refine lmul ?_; omega) | (with_reducible refine addN ?_; omega) | (with_reducible refine subN ?_; omega) | (with_reducible refine quoN ?_; omega) | (with_reducible refine mulN ?_; omega) | (with_reducible refine addQ ?_; omega) | (with_reducible refine subQ ?_; omega) | (with_reducible refine mulQ ?_; omega) | (with_reducible refine shlQL ?_; omega) | (with_reducible refine shlQ ?_; omega) | (with_reducible refine remL ?_; decide) | (with_reducible refine shrL ?_; decide) | (with_reducible refine remN ?_; omega) | (with_reducible refine toU64 ?_ Uw Uq; omega) | (with_reducible exact toU32 Uq Uw) | exact bin_lss | exact bin_gtr | exact bin_eql | exact bin_neq | exact bin_leq | exact bin_geq | exact lenV_sl Us | exact ext_0 | exact ext_1 | exact ext_2 | exact pick_t | exact pick_f | exact bin_add64 (by omega) | exact bin_sub64 (by omega) | exact un_not | exact cv_int Uq Uw | exact cv_int Uw Uq | exact bin_add | exact bin_sub | exact bin_mul | rfl)) rfl ?_ | refine Ev.prim (by (first | with_reducible exact lssL | with_reducible exact gtrL | with_reducible exact eqlL | with_reducible exact neqL | with_reducible exact leqL | with_reducible exact geqL | with_reducible exact lssN | with_reducible exact gtrN | with_reducible exact eqlN | with_reducible exact neqN | with_reducible exact leqN | with_reducible exact geqN | (with_reducible refine addL ?_; omega) | (with_reducible refine subL ?_; omega) | (with_reducible refine quoL ?_; omega) | (with_reducible refine mulL ?_; omega) | (with_reducible refine lmul ?_; omega) | (with_reducible refine addN ?_; omega) | (with_reducible refine subN ?_; omega) | (with_reducible refine quoN ?_; omega) | (with_reducible refine mulN ?_; omega) | (with_reducible refine addQ ?_; omega) | (with_reducible refine subQ ?_; omega) | (with_reducible refine mulQ ?_; omega) | (with_reducible refine shlQL ?_; omega) | (with_reducible refine shlQ ?_; omega) | (with_reducible refine remL ?_; decide) | (with_reducible refine shrL ?_; decide) | (with_reducible refine remN ?_; omega) | (with_reducible refine toU64 ?_ Uw Uq; omega) | (with_reducible exact toU32 Uq Uw) | exact bin_lss | exact bin_gtr | exact bin_eql | exact bin_neq | exact bin_leq | exact bin_geq | exact lenV_sl Us | exact ext_0 | exact ext_1 | exact ext_2 | exact pick_t | exact pick_f | exact bin_add64 (by omega) | exact bin_sub64 (by omega) | exact un_not | exact cv_int Uq Uw | exact cv_int Uw Uq | exact bin_add | exact bin_sub | exact bin_mul | rfl)) ?_)
  rw [show decide (100000 < n) = false from decide_eq_false (by omega)]
  repeat (first | refine Ev.some2 ?_ | refine Ev.some1 ?_ | refine Ev.gDo ?_ | refine Ev.gSkipT ?_ | refine Ev.gSkipF ?_ | refine Ev.gUndef ?_ | refine Ev.gCall ?_ | refine Ev.tt ?_ | refine Ev.ff ?_ | refine Ev.gPrim (by (first | with_reducible exact lssL | with_reducible exact gtrL | with_reducible exact eqlL | with_reducible exact neqL | with_reducible exact leqL | with_reducible exact geqL | with_reducible exact lssN | with_reducible exact gtrN | with_reducible exact eqlN | with_reducible exact neqN | with_reducible exact leqN | with_reducible exact geqN | (with_reducible refine addL ?_; omega) | (with_reducible refine subL ?_; omega) | (with_reducible refine quoL ?_; omega) | (with_reducible refine mulL ?_; omega) | (with_reducible refine lmul ?_; omega) | (with_reducible refine addN ?_; omega) | (with_reducible refine subN ?_; omega) | (with_reducible refine quoN ?_; omega) | (with_reducible refine mulN ?_; omega) | (with_reducible refine addQ ?_; omega) | (with_reducible refine subQ ?_; omega) | (with_reducible refine mulQ ?_; omega) | (with_reducible refine shlQL ?_; omega) | (with_reducible refine shlQ ?_; omega) | (with_reducible refine remL ?_; decide) | (with_reducible refine shrL ?_; decide) | (with_reducible refine remN ?_; omega) | (with_reducible refine toU64 ?_ Uw Uq; omega) | (with_reducible exact toU32 Uq Uw) | exact bin_lss | exact bin_gtr | exact bin_eql | exact bin_neq | exact bin_leq | exact bin_geq | exact lenV_sl Us | exact ext_0 | exact ext_1 | exact ext_2 | exact pick_t | exact pick_f | exact bin_add64 (by omega) | exact bin_sub64 (by omega) | exact un_not | exact cv_int Uq Uw | exact cv_int Uw Uq | exact bin_add | exact bin_sub | exact bin_mul | rfl)) rfl ?_ | refine Ev.prim (by (first | with_reducible exact lssL | with_reducible exact gtrL | with_reducible exact eqlL | with_reducible exact neqL | with_reducible exact leqL | with_reducible exact geqL | with_reducible exact lssN | with_reducible exact gtrN | with_reducible exact eqlN | with_reducible exact neqN | with_reducible exact leqN | with_reducible exact geqN | (with_reducible refine addL ?_; omega) | (with_reducible refine subL ?_; omega) | (with_reducible refine quoL ?_; omega) | (with_reducible refine mulL ?_; omega) | (with_reducible refine lmul ?_; omega) | (with_reducible refine addN ?_; omega) | (with_reducible refine subN ?_; omega) | (with_reducible refine quoN ?_; omega) | (with_reducible refine mulN ?_; omega) | (with_reducible refine addQ ?_; omega) | (with_reducible refine subQ ?_; omega) | (with_reducible refine mulQ ?_; omega) | (with_reducible refine shlQL ?_; omega) | (with_reducible refine shlQ ?_; omega) | (with_reducible refine remL ?_; decide) | (with_reducible refine shrL ?_; decide) | (with_reducible refine remN ?_; omega) | (with_reducible refine toU64 ?_ Uw Uq; omega) | (with_reducible exact toU32 Uq Uw) | exact bin_lss | exact bin_gtr | exact bin_eql | exact bin_neq | exact bin_leq | exact bin_geq | exact lenV_sl Us | exact ext_0 | exact ext_1 | exact ext_2 | exact pick_t | exact pick_f | exact bin_add64 (by omega) | exact bin_sub64 (by omega) | exact un_not | exact cv_int Uq Uw | exact cv_int Uw Uq | exact bin_add | exact bin_sub | exact bin_mul | rfl)) ?_)
  refine Ev.callU (trim_pure (by omega) ha hL) fun a ha => ?_
  generalize val xs = x at *
  refine Ev.prim (quoL ⟨by decide, by omega⟩) ?_
  refine Ev.prim (ha.lenN Ew) ?_
  refine Ev.prim (addN (by omega)) ?_
  refine Ev.prim (addL (by omega)) ?_
  refine Ev.mkS Ew (St.start hL) (by omega) (by omega) fun bo B1 H1 hm1 hS1 => ?_
  rw [map_replicate] at hS1
  refine Ev.prim (ha.lenN Ew) ?_
  refine Ev.bind (Ev.loop (shl_loop (ha.mono hm1) (n := n) (q := n / 32) (s := n % 32) (by omega) (by omega) (by omega) (by omega) rfl (limbs x).length 0 (List.replicate (n / 32 + (limbs x).length + 1) 0) H1 (by omega) (by simp) (small_replicate _) (by simp [val, val_replicate]) (by rw [getD_zeros]; exact Nat.pow_pos (by decide)) hS1)) ?_
  rintro _ ⟨zs, H2, rfl, hz, hsm, hv, hS2⟩
  refine Ev.eq (fun k _ => f113_A0_x0 k _ H2) ?_
  rw [val_limbs] at hv
  obtain ⟨B4, hm4, hr4, hS4⟩ := hS2.freezeN (n := n / 32 + (limbs x).length + 1) (cap := n / 32 + (limbs x).length + 1) hsm hz.symm (by omega)
  refine Ev.call hS4 (trim_spec (by omega) hr4) fun v B5 H5 hm5 hS5 h5 => ?_
  refine Ev.done hS5 ⟨v, rfl, ?_⟩
  rw [hv, show (4294967296 : Nat) = 2 ^ 32 by decide, ← Nat.pow_mul, Nat.mul_left_comm, ← Nat.pow_add, show 32 * (n / 32) + n % 32 = n by omega] at h5
  exact h5
end Go.AM.Y
set_option linter.unusedVariables false
set_option linter.unusedSimpArgs false
set_option maxRecDepth 100000
namespace Go.AM.Y
open Go Go.AM Go.Proofs
attribute [local irreducible] run bin un ld st box newV mkS fldA fld ixA ix slc slc3 build buildS cv cvS ap cpy lenV gOp pickV b2 aIf aChk evalK resume iterD Option.bind

theorem shr_digit {l : List Nat} (hl : small l) {s i : Nat} (hs : s < 32) : (l.getD i 0 + l.getD (i + 1) 0 * 2 ^ 32) / 2 ^ s % 4294967296 = val l / 2 ^ s / 4294967296 ^ i % 4294967296 := by
  rw [Nat.div_div_eq_div_mul (val l), Nat.mul_comm (2 ^ s) (4294967296 ^ i), ← Nat.div_div_eq_div_mul, (val_div_mod hl i).1]
  have h1 : val (l.drop i) = l.getD i 0 + l.getD (i + 1) 0 * 2 ^ 32 + 2 ^ s * (2 ^ (32 - s) * (4294967296 * val (l.drop (i + 2)))) := by
    rw [← Nat.mul_assoc (2 ^ s), ← Nat.pow_add, show s + (32 - s) = 32 by omega]
    have e := val_drop (l.drop i) 2
    rw [List.drop_drop, val_take_succ', val_take_succ', List.take_zero, val, List.getD_eq_getElem?_getD, List.getD_eq_getElem?_getD, List.getElem?_drop, List.getElem?_drop, ← List.getD_eq_getElem?_getD, ← List.getD_eq_getElem?_getD] at e
    rw [e]; simp only [Nat.add_zero]; omega
  rw [h1, Nat.add_mul_div_left _ _ (Nat.pow_pos (by decide)), Nat.mul_left_comm (2 ^ (32 - s)), Nat.add_mul_mod_self_left]
theorem shr_loop {H0 B0 B : AH} {xs : List Nat} {a : Value} {bo n s : Nat} (ha : RdN B a xs) (hs : s < 32) (hn : n % 32 = s) (hn' : n < 9223372036854775808) (hlen : xs.length < 549755813888) :
    ∀ (m i : Nat) (zs : List Nat) (H : AH), i + m = xs.length → zs.length = xs.length → small zs → val (zs.take i) = val xs / 2 ^ s % 4294967296 ^ i →
    St H0 B0 B [(bo, ⟨zs.map u32, 67, .fix⟩)] H →
    Ev (fun k l => f102_L0 k a (i64 n) (sl bo 0 xs.length xs.length) (i64 xs.length) (i64 i) l H)
      (fun o => ∃ zs H, o = (.exit 0, f102_X_L0 (sl bo 0 xs.length xs.length), H) ∧ zs.length = xs.length ∧ small zs ∧ val zs = val xs / 2 ^ s ∧ St H0 B0 B [(bo, ⟨zs.map u32, 67, .fix⟩)] H) := by
  intro m
  induction m with
  | zero =>
    intro i zs H hi hz hsm hv hS
    refine Ev.succ (fun k l => f102_L0_succ k _ _ _ _ _ l H) ?_
    refine Ev.prim lssN ?_
    refine Ev.ifp (fun h => absurd h (by omega)) fun _ => ?_
    refine Ev.ret ⟨zs, H, rfl, hz, hsm, ?_, hS⟩
    have : i = xs.length := by omega
    subst this
    rw [List.take_of_length_le (by omega), Nat.mod_eq_of_lt (Nat.lt_of_le_of_lt (Nat.div_le_self ..) (val_lt ha.2))] at hv
    exact hv
  | succ m ih =>
    intro i zs H hi hz hsm hv hS
    refine Ev.succ (fun k l => f102_L0_succ k _ _ _ _ _ l H) ?_
    refine Ev.prim lssN ?_
    refine Ev.ifp (fun _ => ?_) fun h => absurd (by omega) h
    have hJ : ∀ w, w = xs.getD i 0 + xs.getD (i + 1) 0 * 2 ^ 32 → Ev (fun k l => f102_J0 k l a (i64 n) (sl bo 0 xs.length xs.length) (i64 i) (u64 w) (i64 xs.length) (i64 i) H)
      (fun o => ∃ zs H, o = (.exit 0, f102_X_L0 (sl bo 0 xs.length xs.length), H) ∧ zs.length = xs.length ∧ small zs ∧ val zs = val xs / 2 ^ s ∧ St H0 B0 B [(bo, ⟨zs.map u32, 67, .fix⟩)] H) := by
      intro w hw
      refine Ev.eq (fun k l => f102_J0_eq k l _ _ _ _ _ _ _ H) ?_
      refine Ev.prim (remL (by decide)) ?_
      rw [hn]
      refine Ev.prim (shrN (by show s < 64; omega)) ?_
      refine Ev.prim (toU32 Uq Uw) ?_
      refine Ev.prim (ixA_own Ew (by omega)) ?_
      refine Ev.stW Ew hS (by (first | exact .head _ | exact .tail _ (.head _) | exact .tail _ (.tail _ (.head _)) | exact .tail _ (.tail _ (.tail _ (.head _))) | exact .tail _ (.tail _ (.tail _ (.tail _ (.head _)))))) (j := i) (by omega) (by omega) rfl (by simp) (.head _) fun H1 hS1 => ?_
      refine Ev.prim (addL (by omega)) ?_
      refine ih (i + 1) _ H1 (by omega) (by simp [hz]) (hsm.set _ (Nat.mod_lt _ (by decide))) ?_ hS1
      rw [val_take_set (by omega), hw, shr_digit ha.2 hs, hv, ← Nat.mod_pow_succ]
    obtain ⟨p, hp1, hp2⟩ := ha.ixN (k := .i64) (i := i) Ew (by omega)
    refine Ev.prim hp1 ?_
    refine Ev.prim (hp2 H hS.le) ?_
    have hx := ha.2.getD i
    have hx1 := ha.2.getD (i + 1)
    refine Ev.prim (toU64 (by omega) Uw Uq) ?_
    refine Ev.prim (addL (by omega)) ?_
    refine Ev.prim (ha.lenN Ew) ?_
    refine Ev.prim lssN ?_
    refine Ev.ifp (fun h => ?_) fun h => ?_
    · refine Ev.prim (addL (by omega)) ?_
      obtain ⟨q, hq1, hq2⟩ := ha.ixN (k := .i64) (i := i + 1) Ew (by omega)
      refine Ev.prim hq1 ?_
      refine Ev.prim (hq2 H hS.le) ?_
      refine Ev.prim (toU64 (by omega) Uw Uq) ?_
      refine Ev.prim (shlQL ⟨by decide, by omega⟩) ?_
      refine Ev.prim (orQ ⟨by omega, by omega⟩) ?_
      exact hJ _ (by rw [or_add (by omega)])
    · exact hJ _ (by rw [show xs.getD (i + 1) 0 = 0 by rw [List.getD_eq_getElem?_getD, List.getElem?_eq_none (by omega)]; rfl]; omega)
theorem Shr_spec {B H : AH} {xs : List Nat} {a : Value} {n : Nat} (ha : RdN B a xs) (hm : xs.length < 137438953472) (hn : n < 9223372036854775808) (hL : Le B H) :
    Ev (fun k _ => rn k 102 [a, i64 n] H) (An B H fun B' v => RdN B' v (limbs (val xs / 2 ^ n))) := by
  refine Ev.fn (fun k => f102_eq k _ _ H) ?_
  have hx := limbs_length_le (val_lt ha.2)
  refine Ev.callU (trim_pure (by omega) ha hL) fun a ha => ?_
  generalize val xs = x at *
  have hS := St.start hL
  refine Ev.prim lssL ?_
  refine Ev.ifp (fun h => absurd h (by omega)) fun _ => ?_
  refine Ev.prim (quoL ⟨by decide, by omega⟩) ?_
  refine Ev.prim (ha.lenN Ew) ?_
  refine Ev.prim geqN ?_
  have hpow : 2 ^ n = 4294967296 ^ (n / 32) * 2 ^ (n % 32) := by
    rw [show (4294967296 : Nat) = 2 ^ 32 by decide, ← Nat.pow_mul, ← Nat.pow_add, Nat.div_add_mod]
  refine Ev.ifp (fun h => ?_) fun h => ?_
  · refine Ev.done hS ?_
    have h1 := val_lt (small_limbs x)
    rw [val_limbs] at h1
    have h2 : x < 4294967296 ^ (n / 32) := Nat.lt_of_lt_of_le h1 (Nat.pow_le_pow_right (by decide) h)
    rw [hpow, ← Nat.div_div_eq_div_mul, Nat.div_eq_of_lt h2, Nat.zero_div, limbs_zero]
    exact RdN.nil
  · refine Ev.prim (quoL ⟨by decide, by omega⟩) ?_
    obtain ⟨a2, hp1, ha2⟩ := ha.fromN (k := .i64) (i := n / 32) Ew (by omega)
    refine Ev.prim hp1 ?_
    have hl : ((limbs x).drop (n / 32)).length ≤ (limbs x).length := by rw [List.length_drop]; omega
    have hval : val ((limbs x).drop (n / 32)) / 2 ^ (n % 32) = x / 2 ^ n := by
      rw [← (val_div_mod (small_limbs x) (n / 32)).1, val_limbs, hpow, Nat.div_div_eq_div_mul]
    generalize (limbs x).drop (n / 32) = l at *
    refine Ev.prim (ha2.lenN Ew) ?_
    refine Ev.mkS Ew hS (by omega) (by omega) fun bo B1 H1 hm1 hS1 => ?_
    rw [map_replicate] at hS1
    refine Ev.prim (ha2.lenN Ew) ?_
    refine Ev.bind (Ev.loop (shr_loop (ha2.mono hm1) (n := n) (s := n % 32) (by omega) rfl hn (by omega) l.length 0 (List.replicate l.length 0) H1 (by omega) (by simp) (small_replicate _) (by simp [val, Nat.mod_one]) hS1)) ?_
    rintro _ ⟨zs, H2, rfl, hz, hsm, hv, hS2⟩
    refine Ev.eq (fun k _ => f102_A0_x0 k _ H2) ?_
    obtain ⟨B4, hm4, hr4, hS4⟩ := hS2.freezeN (n := l.length) (cap := l.length) hsm hz.symm (by omega)
    refine Ev.call hS4 (trim_spec (by omega) hr4) fun v B5 H5 hm5 hS5 h5 => ?_
    refine Ev.done hS5 ?_
    rw [hv, hval] at h5
    exact h5
end Go.AM.Y
set_option linter.unusedVariables false
set_option linter.unusedSimpArgs false
set_option maxRecDepth 100000
namespace Go.AM.Y
open Go Go.AM Go.Proofs
attribute [local irreducible] run bin un ld st box newV mkS fldA fld ixA ix slc slc3 build buildS cv cvS ap cpy lenV gOp pickV b2 aIf aChk evalK resume iterD Option.bind

theorem LZ_spec {H : AH} {x : Nat} (hx : x < 4294967296) : Ev (fun k _ => rn k 131 [u32 x] H) (Pu H fun v => v = i64 (32 - nbits x)) := by
  refine Ev.fn (fun k => f131_eq k _ H) ?_
  refine Ev.callU (Len32_spec hx) ?_
  rintro _ rfl
  have h : nbits x ≤ 32 := nbits_le.mpr hx
  refine Ev.prim (subN (a := 32) ⟨h, by decide⟩) ?_
  exact Ev.doneU rfl
theorem Div32_spec {H : AH} {r x d : Nat} (hr : r < d) (hx : x < 4294967296) (hd : d < 4294967296) : Ev (fun k _ => rn k 130 [u32 r, u32 x, u32 d] H)
    (fun o => o = (.tuple #[u32 ((r * 4294967296 + x) / d), u32 ((r * 4294967296 + x) % d)], H)) := by
  refine Ev.fn (fun k => f130_eq k _ _ _ H) ?_
  refine Ev.prim neqL ?_
  rw [show decide (d ≠ 0) = true from decide_eq_true (by omega)]
  repeat (first | refine Ev.some2 ?_ | refine Ev.some1 ?_ | refine Ev.gDo ?_ | refine Ev.gSkipT ?_ | refine Ev.gSkipF ?_ | refine Ev.gUndef ?_ | refine Ev.gCall ?_ | refine Ev.tt ?_ | refine Ev.ff ?_ | refine Ev.gPrim (by (first | with_reducible exact lssL | with_reducible exact gtrL | with_reducible exact eqlL | with_reducible exact neqL | with_reducible exact leqL | with_reducible exact geqL | with_reducible exact lssN | with_reducible exact gtrN | with_reducible exact eqlN | with_reducible exact neqN | with_reducible exact leqN | with_reducible exact geqN | (with_reducible refine addL ?_; omega) | (with_reducible refine subL ?_; omega) | (with_reducible refine quoL ?_; omega) | (with_reducible refine mulL ?_; omega) | (with_reducible refine lmul ?_; omega) | (with_reducible refine addN ?_; omega) | (with_reducible refine subN ?_; omega) | (with_reducible refine quoN ?_; omega) | (with_reducible refine mulN ?_; omega) | (with_reducible refine addQ ?_; omega) | (with_reducible refine subQ ?_; omega) | (with_reducible refine mulQ ?_; omega) | (with_reducible refine shlQL ?_; omega) | (with_reducible refine shlQ ?_; omega) | (with_reducible refine remL ?_; decide) | (with_reducible refine shrL ?_; decide) | (with_reducible refine remN ?_; omega) | (with_reducible refine toU64 ?_ Uw Uq; omega) | (with_reducible exact toU32 Uq Uw) | exact bin_lss | exact bin_gtr | exact bin_eql | exact bin_neq | exact bin_leq | exact bin_geq | exact lenV_sl Us | exact ext_0 | exact ext_1 | exact ext_2 | exact pick_t | exact pick_f | exact bin_add64 (by omega) | exact bin_sub64 (by omega) | exact un_not | exact cv_int Uq Uw | exact cv_int Uw Uq | exact bin_add | exact bin_sub | exact bin_mul | rfl)) rfl ?_ | refine Ev.prim (by (first | with_reducible exact lssL | with_reducible exact gtrL | with_reducible exact eqlL | with_reducible exact neqL | with_reducible exact leqL | with_reducible exact geqL | with_reducible exact lssN | with_reducible exact gtrN | with_reducible exact eqlN | with_reducible exact neqN | with_reducible exact leqN | with_reducible exact geqN | (with_reducible refine addL ?_; omega) | (with_reducible refine subL ?_; omega) | (with_reducible refine quoL ?_; omega) | (with_reducible refine mulL ?_; omega) | (with_reducible refine lmul ?_; omega) | (with_reducible refine addN ?_; omega) | (with_reducible refine subN ?_; omega) | (with_reducible refine quoN ?_; omega) | (with_reducible refine mulN ?_; omega) | (with_reducible refine addQ ?_; omega) | (with_reducible refine subQ ?_; omega) | (with_reducible refine mulQ ?_; omega) | (with_reducible refine shlQL ?_; omega) | (with_reducible refine shlQ ?_; omega) | (with_reducible refine remL ?_; decide) | (with_reducible refine shrL ?_; decide) | (with_reducible refine remN ?_; omega) | (with_reducible refine toU64 ?_ Uw Uq; omega) | (with_reducible exact toU32 Uq Uw) | exact bin_lss | exact bin_gtr | exact bin_eql | exact bin_neq | exact bin_leq | exact bin_geq | exact lenV_sl Us | exact ext_0 | exact ext_1 | exact ext_2 | exact pick_t | exact pick_f | exact bin_add64 (by omega) | exact bin_sub64 (by omega) | exact un_not | exact cv_int Uq Uw | exact cv_int Uw Uq | exact bin_add | exact bin_sub | exact bin_mul | rfl)) ?_)
  rw [show decide (d ≤ r) = false from decide_eq_false (by omega)]
  repeat (first | refine Ev.some2 ?_ | refine Ev.some1 ?_ | refine Ev.gDo ?_ | refine Ev.gSkipT ?_ | refine Ev.gSkipF ?_ | refine Ev.gUndef ?_ | refine Ev.gCall ?_ | refine Ev.tt ?_ | refine Ev.ff ?_ | refine Ev.gPrim (by (first | with_reducible exact lssL | with_reducible exact gtrL | with_reducible exact eqlL | with_reducible exact neqL | with_reducible exact leqL | with_reducible exact geqL | with_reducible exact lssN | with_reducible exact gtrN | with_reducible exact eqlN | with_reducible exact neqN | with_reducible exact leqN | with_reducible exact geqN | (with_reducible refine addL ?_; omega) | (with_reducible refine subL ?_; omega) | (with_reducible refine quoL ?_; omega) | (with_reducible refine mulL ?_; omega) | (with_reducible refine lmul ?_; omega) | (with_reducible refine addN ?_; omega) | (with_reducible refine subN ?_; omega) | (with_reducible refine quoN ?_; omega) | (with_reducible refine mulN ?_; omega) | (with_reducible refine addQ ?_; omega) | (with_reducible refine subQ ?_; omega) | (with_reducible refine mulQ ?_; omega) | (with_reducible refine shlQL ?_; omega) | (with_reducible refine shlQ ?_; omega) | (with_reducible refine remL ?_; decide) | (with_reducible refine shrL ?_; decide) | (with_reducible refine remN ?_; omega) | (with_reducible refine toU64 ?_ Uw Uq; omega) | (with_reducible exact toU32 Uq Uw) | exact bin_lss | exact bin_gtr | exact bin_eql | exact bin_neq | exact bin_leq | exact bin_geq | exact lenV_sl Us | exact ext_0 | exact ext_1 | exact ext_2 | exact pick_t | exact pick_f | exact bin_add64 (by omega) | exact bin_sub64 (by omega) | exact un_not | exact cv_int Uq Uw | exact cv_int Uw Uq | exact bin_add | exact bin_sub | exact bin_mul | rfl)) rfl ?_ | refine Ev.prim (by (first | with_reducible exact lssL | with_reducible exact gtrL | with_reducible exact eqlL | with_reducible exact neqL | with_reducible exact leqL | with_reducible exact geqL | with_reducible exact lssN | with_reducible exact gtrN | with_reducible exact eqlN | with_reducible exact neqN | with_reducible exact leqN | with_reducible exact geqN | (with_reducible refine addL ?_; omega) | (with_reducible refine subL ?_; omega) | (with_reducible refine quoL ?_; omega) | (with_reducible refine mulL ?_; omega) | (with_reducible refine lmul ?_; omega) | (with_reducible refine addN ?_; omega) | (with_reducible refine subN ?_; omega) | (with_reducible refine quoN ?_; omega) | (with_reducible refine mulN ?_; omega) | (with_reducible refine addQ ?_; omega) | (with_reducible refine subQ ?_; omega) | (with_reducible refine mulQ ?_; omega) | (with_reducible refine shlQL ?_; omega) | (with_reducible refine shlQ ?_; omega) | (with_reducible refine remL ?_; decide) | (with_reducible refine shrL ?_; decide) | (with_reducible refine remN ?_; omega) | (with_reducible refine toU64 ?_ Uw Uq; omega) | (with_reducible exact toU32 Uq Uw) | exact bin_lss | exact bin_gtr | exact bin_eql | exact bin_neq | exact bin_leq | exact bin_geq | exact lenV_sl Us | exact ext_0 | exact ext_1 | exact ext_2 | exact pick_t | exact pick_f | exact bin_add64 (by omega) | exact bin_sub64 (by omega) | exact un_not | exact cv_int Uq Uw | exact cv_int Uw Uq | exact bin_add | exact bin_sub | exact bin_mul | rfl)) ?_)
  refine Ev.eq (fun k _ => f130_J0_eq k _ _ _ H) ?_
  refine Ev.prim (toU64 (by omega) Uw Uq) ?_
  refine Ev.prim (shlQL ⟨by decide, by omega⟩) ?_
  refine Ev.prim (toU64 (by omega) Uw Uq) ?_
  refine Ev.prim (orQ ⟨by omega, by omega⟩) ?_
  rw [Nat.or_comm, or_add (by omega), show x + r * 2 ^ 32 = r * 4294967296 + x by omega]
  have hq : (r * 4294967296 + x) / d < 4294967296 := Nat.div_lt_of_lt_mul (by
    have : (r + 1) * 4294967296 ≤ d * 4294967296 := Nat.mul_le_mul_right _ hr
    omega)
  have hm : (r * 4294967296 + x) % d < d := Nat.mod_lt _ (by omega)
  refine Ev.prim (toU64 (by omega) Uw Uq) ?_
  refine Ev.prim (quoQ ⟨by omega, by omega⟩) ?_
  refine Ev.prim (toU32 Uq Uw) ?_
  refine Ev.prim (toU64 (by omega) Uw Uq) ?_
  refine Ev.prim (remN (by omega)) ?_
  refine Ev.prim (toU32 Uq Uw) ?_
  rw [Nat.mod_eq_of_lt hq, Nat.mod_eq_of_lt (show (r * 4294967296 + x) % d < 4294967296 by omega)]
  exact Ev.ret rfl
theorem short_loop {H0 B0 B : AH} {xs : List Nat} {a : Value} {bo d : Nat} (ha : RdN B a xs) (hd : d < 4294967296) (hlen : xs.length < 549755813888) :
    ∀ (m i : Nat) (zs : List Nat) (r : Nat) (H : AH), i + m = xs.length → zs.length = xs.length → small zs → r < d → val (xs.drop m) = d * val (zs.drop m) + r →
    St H0 B0 B [(bo, ⟨zs.map u32, 67, .fix⟩)] H →
    Ev (fun k n => f111_L0 k a (u32 d) (sl bo 0 xs.length xs.length) (u32 r) (i64 xs.length) (i64 i) n H)
      (fun o => ∃ zs r H, o = (.exit 0, f111_X_L0 (sl bo 0 xs.length xs.length) (u32 r), H) ∧ zs.length = xs.length ∧ small zs ∧ r < d ∧ val xs = d * val zs + r ∧ St H0 B0 B [(bo, ⟨zs.map u32, 67, .fix⟩)] H) := by
  intro m
  induction m with
  | zero =>
    intro i zs r H hi hz hsm hr hv hS
    refine Ev.succ (fun k n => f111_L0_succ k _ _ _ _ _ _ n H) ?_
    refine Ev.prim lssN ?_
    refine Ev.ifp (fun h => absurd h (by omega)) fun _ => ?_
    exact Ev.ret ⟨zs, r, H, rfl, hz, hsm, hr, hv, hS⟩
  | succ m ih =>
    intro i zs r H hi hz hsm hr hv hS
    refine Ev.succ (fun k n => f111_L0_succ k _ _ _ _ _ _ n H) ?_
    refine Ev.prim lssN ?_
    refine Ev.ifp (fun _ => ?_) fun h => absurd (by omega) h
    refine Ev.prim (ha.lenN Ew) ?_
    refine Ev.prim (subL (by omega)) ?_
    refine Ev.prim (subN (by omega)) ?_
    obtain ⟨p, hp1, hp2⟩ := ha.ixN (k := .i64) (i := xs.length - 1 - i) Ew (by omega)
    refine Ev.prim hp1 ?_
    refine Ev.prim (hp2 H hS.le) ?_
    rw [show xs.length - 1 - i = m by omega]
    have hx := ha.2.getD m
    refine Ev.callP (Div32_spec hr hx hd) ?_
    refine Ev.prim ext_0 ?_
    refine Ev.prim ext_1 ?_
    refine Ev.prim (ixA_own Ew (by omega)) ?_
    refine Ev.stW Ew hS (by (first | exact .head _ | exact .tail _ (.head _) | exact .tail _ (.tail _ (.head _)) | exact .tail _ (.tail _ (.tail _ (.head _))) | exact .tail _ (.tail _ (.tail _ (.tail _ (.head _)))))) (j := m) (by omega) (by omega) rfl (by simp) (.head _) fun H1 hS1 => ?_
    refine Ev.prim (addL (by omega)) ?_
    have hq : (r * 4294967296 + xs.getD m 0) / d < 4294967296 := Nat.div_lt_of_lt_mul (by
      have : (r + 1) * 4294967296 ≤ d * 4294967296 := Nat.mul_le_mul_right _ hr
      omega)
    refine ih (i + 1) _ _ H1 (by omega) (by simp [hz]) (hsm.set _ hq) (Nat.mod_lt _ (by omega)) ?_ hS1
    rw [List.drop_set, if_neg (by omega), Nat.sub_self, List.drop_eq_getElem_cons (by omega), List.drop_eq_getElem_cons (l := zs) (by omega), List.set_cons_zero, val, val, hv]
    have e := Nat.div_add_mod (r * 4294967296 + xs.getD m 0) d
    rw [List.getD_eq_getElem?_getD, List.getElem?_eq_getElem (by omega)] at e ⊢
    simp only [Option.getD_some] at e ⊢
    generalize (r * 4294967296 + xs[m]) / d = q1 at *
    generalize (r * 4294967296 + xs[m]) % d = q2 at *
    rw [Nat.mul_add d, Nat.mul_left_comm d]
    omega
theorem short_spec {B H : AH} {xs : List Nat} {a : Value} {d : Nat} (ha : RdN B a xs) (hd : d < 4294967296) (hd0 : d ≠ 0) (hm : xs.length < 137438953472) (hL : Le B H) :
    Ev (fun k _ => rn k 111 [a, u32 d] H) (An B H fun B' v => ∃ q r, v = .tuple #[q, r, .bool true] ∧ RdN B' q (limbs (val xs / d)) ∧ RdN B' r (limbs (val xs % d))) := by
  refine Ev.fn (fun k => f111_eq k _ _ H) ?_
  refine Ev.prim (ha.lenN Ew) ?_
  refine Ev.mkS Ew (St.start hL) (by omega) (by omega) fun bo B1 H1 hm1 hS1 => ?_
  rw [map_replicate] at hS1
  refine Ev.prim (ha.lenN Ew) ?_
  refine Ev.bind (Ev.loop (short_loop (ha.mono hm1) (d := d) hd (by omega) xs.length 0 (List.replicate xs.length 0) 0 H1 (by omega) (by simp) (small_replicate _) (by omega) (by simp [val]) hS1)) ?_
  rintro _ ⟨zs, r, H2, rfl, hz, hsm, hr, hv, hS2⟩
  refine Ev.eq (fun k _ => f111_A0_x0 k _ _ H2) ?_
  obtain ⟨B4, hm4, hr4, hS4⟩ := hS2.freezeN (n := xs.length) (cap := xs.length) hsm hz.symm (by omega)
  refine Ev.call hS4 (Trim_spec (by omega) hr4) fun v B5 H5 hm5 hS5 h5 => ?_
  refine Ev.prim (toU64 (by omega) Uw Uq) ?_
  refine Ev.call hS5 (From_spec (by omega)) fun v2 B6 H6 hm6 hS6 h6 => ?_
  refine Ev.done hS6 ⟨v, v2, rfl, ?_, ?_⟩
  · rw [hv, Nat.mul_comm, Nat.add_comm, Nat.add_mul_div_right _ _ (by omega), Nat.div_eq_of_lt hr, Nat.zero_add]
    exact h5.mono hm6
  · rw [hv, Nat.mul_add_mod, Nat.mod_eq_of_lt hr]
    exact h6
end Go.AM.Y
set_option linter.unusedVariables false
set_option linter.unusedSimpArgs false
set_option maxRecDepth 100000
namespace Go.AM.Y
open Go Go.AM Go.Proofs
attribute [local irreducible] run bin un ld st box newV mkS fldA fld ixA ix slc slc3 build buildS cv cvS ap cpy lenV gOp pickV b2 aIf aChk evalK resume iterD Option.bind

theorem take_loop {H0 B0 B : AH} {L : List (Nat × Blk)} {us ys : List Nat} {b : Value} {bu g j N cap : Nat} (hb : RdN B b ys) (hg : g < 4294967296) (hN : j + N ≤ us.length) (hyN : ys.length < N) (hlen : us.length < 549755813888) :
    ∀ (m i : Nat) (zs : List Nat) (c bo : Nat) (H : AH), i + m = ys.length → zs.length = us.length → small zs → c < 4294967296 → bo ≤ 1 →
    val zs + 4294967296 ^ j * (g * val (ys.take i)) = val us + 4294967296 ^ (j + i) * (c + bo) → zs.take j = us.take j → zs.drop (j + N) = us.drop (j + N) →
    St H0 B0 B ((bu, ⟨zs.map u32, 67, .fix⟩) :: L) H →
    Ev (fun k n => f132_L0 k (sl bu j N cap) b (u64 g) (u64 c) (u32 bo) b (i64 ys.length) (i64 i) n H)
      (fun o => ∃ zs c bo H, o = (.exit 0, f132_X_L0 (sl bu j N cap) b (u64 c) (u32 bo), H) ∧ zs.length = us.length ∧ small zs ∧ c < 4294967296 ∧ bo ≤ 1 ∧
        val zs + 4294967296 ^ j * (g * val ys) = val us + 4294967296 ^ (j + ys.length) * (c + bo) ∧ zs.take j = us.take j ∧ zs.drop (j + N) = us.drop (j + N) ∧ St H0 B0 B ((bu, ⟨zs.map u32, 67, .fix⟩) :: L) H) := by
  intro m
  induction m with
  | zero =>
    intro i zs c bo H hi hz hsm hc hbo hv ht hdr hS
    refine Ev.succ (fun k n => f132_L0_succ k _ _ _ _ _ _ _ _ n H) ?_
    refine Ev.prim lssN ?_
    refine Ev.ifp (fun h => absurd h (by omega)) fun _ => ?_
    refine Ev.ret ⟨zs, c, bo, H, rfl, hz, hsm, hc, hbo, ?_, ht, hdr, hS⟩
    have : i = ys.length := by omega
    subst this
    rw [List.take_of_length_le (Nat.le_refl _)] at hv
    exact hv
  | succ m ih =>
    intro i zs c bo H hi hz hsm hc hbo hv ht hdr hS
    refine Ev.succ (fun k n => f132_L0_succ k _ _ _ _ _ _ _ _ n H) ?_
    refine Ev.prim lssN ?_
    refine Ev.ifp (fun _ => ?_) fun h => absurd (by omega) h
    obtain ⟨p, hp1, hp2⟩ := hb.ixN (k := .i64) (i := i) Ew (by omega)
    refine Ev.prim hp1 ?_
    refine Ev.prim (hp2 H hS.le) ?_
    have hy := hb.2.getD i
    have hxy : ys.getD i 0 * g ≤ 4294967295 * 4294967295 := Nat.mul_le_mul (by omega) (by omega)
    have ho := hsm.getD (j + i)
    refine Ev.prim (toU64 (by omega) Uw Uq) ?_
    refine Ev.prim (mulQ (by omega)) ?_
    refine Ev.prim (addQ (by omega)) ?_
    refine Ev.prim (shrL (by decide)) ?_
    refine Ev.prim (ixA_own Ew (by omega)) ?_
    refine Ev.ldW Ew hS (.head _) (j := j + i) (by omega) rfl ?_
    refine Ev.prim (toU32 Uq Uw) ?_
    refine Ev.callP (Sub32_spec ho (Nat.mod_lt _ (by decide)) hbo) ?_
    refine Ev.prim ext_0 ?_
    refine Ev.prim ext_1 ?_
    refine Ev.prim (ixA_own Ew (by omega)) ?_
    refine Ev.stW Ew hS (.head _) (j := j + i) (by omega) rfl rfl (by simp) (.head _) fun H1 hS1 => ?_
    refine Ev.prim (addL (by omega)) ?_
    refine ih (i + 1) _ _ _ H1 (by omega) (by simp [hz]) (hsm.set _ (Nat.mod_lt _ (by decide))) (by omega) (by split <;> omega) ?_ (by rw [List.take_set_of_le (by omega)]; exact ht) (by rw [List.drop_set_of_lt (by omega)]; exact hdr) hS1
    have e1 := val_set (zs := zs) (j := j + i) (w := (zs.getD (j + i) 0 + 8589934592 - (ys.getD i 0 * g + c) % 4294967296 - bo) % 4294967296) (by omega)
    have e2 : (zs.getD (j + i) 0 + 8589934592 - (ys.getD i 0 * g + c) % 4294967296 - bo) % 4294967296 + ((ys.getD i 0 * g + c) % 4294967296 + bo) = zs.getD (j + i) 0 + 4294967296 * (if zs.getD (j + i) 0 < (ys.getD i 0 * g + c) % 4294967296 + bo then 1 else 0) := by
      have := Nat.mod_lt (ys.getD i 0 * g + c) (show 0 < 4294967296 by decide)
      split <;> omega
    have e3 : ys.getD i 0 * g + c = (ys.getD i 0 * g + c) % 4294967296 + 4294967296 * ((ys.getD i 0 * g + c) / 2 ^ 32) := by omega
    rw [val_take_succ']
    generalize (if zs.getD (j + i) 0 < (ys.getD i 0 * g + c) % 4294967296 + bo then 1 else 0) = bo' at *
    generalize (zs.getD (j + i) 0 + 8589934592 - (ys.getD i 0 * g + c) % 4294967296 - bo) % 4294967296 = w at *
    generalize (ys.getD i 0 * g + c) % 4294967296 = s1 at *
    generalize (ys.getD i 0 * g + c) / 2 ^ 32 = s2 at *
    generalize zs.getD (j + i) 0 = o at *
    generalize ys.getD i 0 = y at *
    have e4 := congrArg (4294967296 ^ (j + i) * ·) e2
    have e5 := congrArg (4294967296 ^ (j + i) * ·) e3
    simp only [Nat.mul_add] at e4 e5
    rw [show j + (i + 1) = j + i + 1 by omega, Nat.pow_succ, Nat.mul_assoc, Nat.mul_add g, Nat.mul_left_comm g, Nat.mul_add (4294967296 ^ j), ← Nat.mul_assoc (4294967296 ^ j) (4294967296 ^ i), ← Nat.pow_add, Nat.mul_comm g y]
    simp only [Nat.mul_add] at hv ⊢
    omega
theorem take_spec {H0 B0 B : AH} {L : List (Nat × Blk)} {us ys : List Nat} {b : Value} {bu g j cap : Nat} {H : AH} (hb : RdN B b ys) (hg : g < 4294967296) (hN : j + (ys.length + 1) ≤ us.length) (hlen : us.length < 549755813888) (hsm : small us)
    (hS : St H0 B0 B ((bu, ⟨us.map u32, 67, .fix⟩) :: L) H) :
    Ev (fun k _ => rn k 132 [sl bu j (ys.length + 1) cap, b, u64 g] H)
      (fun r => ∃ zs bo H, r = (.bool (decide (0 < bo)), H) ∧ zs.length = us.length ∧ small zs ∧ bo ≤ 1 ∧ val zs + 4294967296 ^ j * (g * val ys) = val us + 4294967296 ^ (j + (ys.length + 1)) * bo ∧
        zs.take j = us.take j ∧ zs.drop (j + (ys.length + 1)) = us.drop (j + (ys.length + 1)) ∧ St H0 B0 B ((bu, ⟨zs.map u32, 67, .fix⟩) :: L) H) := by
  refine Ev.fn (fun k => f132_eq k _ _ _ H) ?_
  refine Ev.prim (hb.lenN Ew) ?_
  refine Ev.bind (Ev.loop (take_loop (N := ys.length + 1) hb hg hN (by omega) hlen ys.length 0 us 0 0 H (by omega) rfl hsm (by decide) (by decide) (by simp [val]) rfl rfl hS)) ?_
  rintro _ ⟨zs, c, bo, H1, rfl, hz, hsm, hc, hbo, hv, ht, hdr, hS⟩
  refine Ev.eq (fun k _ => f132_A0_x0 k _ _ _ _ H1) ?_
  refine Ev.prim (hb.lenN Ew) ?_
  refine Ev.prim (hb.lenN Ew) ?_
  refine Ev.prim (ixA_own Ew (by omega)) ?_
  have ho := hsm.getD (j + ys.length)
  refine Ev.ldW Ew hS (.head _) (j := j + ys.length) (by omega) rfl ?_
  refine Ev.prim (toU32 Uq Uw) ?_
  rw [Nat.mod_eq_of_lt hc]
  refine Ev.callP (Sub32_spec ho hc hbo) ?_
  refine Ev.prim ext_0 ?_
  refine Ev.prim ext_1 ?_
  refine Ev.prim (ixA_own Ew (by omega)) ?_
  refine Ev.stW Ew hS (.head _) (j := j + ys.length) (by omega) rfl rfl (by simp) (.head _) fun H1 hS1 => ?_
  refine Ev.prim gtrL ?_
  refine Ev.ret ⟨_, _, H1, rfl, by simp [hz], hsm.set _ (Nat.mod_lt _ (by decide)), by split <;> omega, ?_, by rw [List.take_set_of_le (by omega)]; exact ht, by rw [List.drop_set_of_lt (by omega)]; exact hdr, hS1⟩
  have e1 := val_set (zs := zs) (j := j + ys.length) (w := (zs.getD (j + ys.length) 0 + 8589934592 - c - bo) % 4294967296) (by omega)
  have e2 : (zs.getD (j + ys.length) 0 + 8589934592 - c - bo) % 4294967296 + (c + bo) = zs.getD (j + ys.length) 0 + 4294967296 * (if zs.getD (j + ys.length) 0 < c + bo then 1 else 0) := by
    split <;> omega
  generalize (if zs.getD (j + ys.length) 0 < c + bo then 1 else 0) = bo' at *
  generalize (zs.getD (j + ys.length) 0 + 8589934592 - c - bo) % 4294967296 = w at *
  generalize zs.getD (j + ys.length) 0 = o at *
  have e4 := congrArg (4294967296 ^ (j + ys.length) * ·) e2
  simp only [Nat.mul_add] at e4
  rw [show j + (ys.length + 1) = j + ys.length + 1 by omega, Nat.pow_succ, Nat.mul_assoc]
  simp only [Nat.mul_add] at hv
  omega
theorem give_loop {H0 B0 B : AH} {L : List (Nat × Blk)} {us ys : List Nat} {b : Value} {bu j N cap : Nat} (hb : RdN B b ys) (hN : j + N ≤ us.length) (hyN : ys.length < N) (hlen : us.length < 549755813888) :
    ∀ (m i : Nat) (zs : List Nat) (c : Nat) (H : AH), i + m = ys.length → zs.length = us.length → small zs → c ≤ 1 →
    val zs + 4294967296 ^ (j + i) * c = val us + 4294967296 ^ j * val (ys.take i) → zs.take j = us.take j → zs.drop (j + N) = us.drop (j + N) →
    St H0 B0 B ((bu, ⟨zs.map u32, 67, .fix⟩) :: L) H →
    Ev (fun k n => f133_L0 k (sl bu j N cap) b (u32 c) b (i64 ys.length) (i64 i) n H)
      (fun o => ∃ zs c H, o = (.exit 0, f133_X_L0 (sl bu j N cap) b (u32 c), H) ∧ zs.length = us.length ∧ small zs ∧ c ≤ 1 ∧
        val zs + 4294967296 ^ (j + ys.length) * c = val us + 4294967296 ^ j * val ys ∧ zs.take j = us.take j ∧ zs.drop (j + N) = us.drop (j + N) ∧ St H0 B0 B ((bu, ⟨zs.map u32, 67, .fix⟩) :: L) H) := by
  intro m
  induction m with
  | zero =>
    intro i zs c H hi hz hsm hc hv ht hdr hS
    refine Ev.succ (fun k n => f133_L0_succ k _ _ _ _ _ _ n H) ?_
    refine Ev.prim lssN ?_
    refine Ev.ifp (fun h => absurd h (by omega)) fun _ => ?_
    refine Ev.ret ⟨zs, c, H, rfl, hz, hsm, hc, ?_, ht, hdr, hS⟩
    have : i = ys.length := by omega
    subst this
    rw [List.take_of_length_le (Nat.le_refl _)] at hv
    exact hv
  | succ m ih =>
    intro i zs c H hi hz hsm hc hv ht hdr hS
    refine Ev.succ (fun k n => f133_L0_succ k _ _ _ _ _ _ n H) ?_
    refine Ev.prim lssN ?_
    refine Ev.ifp (fun _ => ?_) fun h => absurd (by omega) h
    obtain ⟨p, hp1, hp2⟩ := hb.ixN (k := .i64) (i := i) Ew (by omega)
    refine Ev.prim hp1 ?_
    refine Ev.prim (hp2 H hS.le) ?_
    have hy := hb.2.getD i
    have ho := hsm.getD (j + i)
    refine Ev.prim (ixA_own Ew (by omega)) ?_
    refine Ev.ldW Ew hS (.head _) (j := j + i) (by omega) rfl ?_
    refine Ev.callP (Add32_spec ho hy (by omega)) ?_
    refine Ev.prim ext_0 ?_
    refine Ev.prim ext_1 ?_
    refine Ev.prim (ixA_own Ew (by omega)) ?_
    refine Ev.stW Ew hS (.head _) (j := j + i) (by omega) rfl rfl (by simp) (.head _) fun H1 hS1 => ?_
    refine Ev.prim (addL (by omega)) ?_
    refine ih (i + 1) _ _ H1 (by omega) (by simp [hz]) (hsm.set _ (Nat.mod_lt _ (by decide))) (by omega) ?_ (by rw [List.take_set_of_le (by omega)]; exact ht) (by rw [List.drop_set_of_lt (by omega)]; exact hdr) hS1
    have e1 := val_set (zs := zs) (j := j + i) (w := (zs.getD (j + i) 0 + ys.getD i 0 + c) % 4294967296) (by omega)
    have e2 : (zs.getD (j + i) 0 + ys.getD i 0 + c) % 4294967296 + 4294967296 * ((zs.getD (j + i) 0 + ys.getD i 0 + c) / 4294967296) = zs.getD (j + i) 0 + ys.getD i 0 + c := by omega
    rw [val_take_succ']
    generalize (zs.getD (j + i) 0 + ys.getD i 0 + c) % 4294967296 = w at *
    generalize (zs.getD (j + i) 0 + ys.getD i 0 + c) / 4294967296 = c' at *
    generalize zs.getD (j + i) 0 = o at *
    generalize ys.getD i 0 = y at *
    have e4 := congrArg (4294967296 ^ (j + i) * ·) e2
    simp only [Nat.mul_add] at e4
    rw [show j + (i + 1) = j + i + 1 by omega, Nat.pow_succ, Nat.mul_assoc, Nat.mul_add (4294967296 ^ j), ← Nat.mul_assoc (4294967296 ^ j) (4294967296 ^ i), ← Nat.pow_add]
    omega
theorem give_spec {H0 B0 B : AH} {L : List (Nat × Blk)} {us ys : List Nat} {b : Value} {bu j cap : Nat} {H : AH} (hb : RdN B b ys) (hN : j + (ys.length + 1) ≤ us.length) (hlen : us.length < 549755813888) (hsm : small us)
    (hS : St H0 B0 B ((bu, ⟨us.map u32, 67, .fix⟩) :: L) H) :
    Ev (fun k _ => rn k 133 [sl bu j (ys.length + 1) cap, b] H)
      (fun r => ∃ zs c H, r = (.tuple #[], H) ∧ zs.length = us.length ∧ small zs ∧ c ≤ 1 ∧ val zs + 4294967296 ^ (j + (ys.length + 1)) * c = val us + 4294967296 ^ j * val ys ∧
        zs.take j = us.take j ∧ zs.drop (j + (ys.length + 1)) = us.drop (j + (ys.length + 1)) ∧ St H0 B0 B ((bu, ⟨zs.map u32, 67, .fix⟩) :: L) H) := by
  refine Ev.fn (fun k => f133_eq k _ _ H) ?_
  refine Ev.prim (hb.lenN Ew) ?_
  refine Ev.bind (Ev.loop (give_loop (N := ys.length + 1) hb hN (by omega) hlen ys.length 0 us 0 H (by omega) rfl hsm (by decide) (by simp [val]) rfl rfl hS)) ?_
  rintro _ ⟨zs, c, H1, rfl, hz, hsm, hc, hv, ht, hdr, hS⟩
  refine Ev.eq (fun k _ => f133_A0_x0 k _ _ _ H1) ?_
  refine Ev.prim (hb.lenN Ew) ?_
  refine Ev.prim (ixA_own Ew (by omega)) ?_
  have ho := hsm.getD (j + ys.length)
  refine Ev.ldW Ew hS (.head _) (j := j + ys.length) (by omega) rfl ?_
  refine Ev.prim addW ?_
  refine Ev.prim (ixA_own Ew (by omega)) ?_
  refine Ev.stW Ew hS (.head _) (j := j + ys.length) (by omega) rfl rfl (by simp) (.head _) fun H1 hS1 => ?_
  refine Ev.ret ⟨_, (zs.getD (j + ys.length) 0 + c) / 4294967296, H1, rfl, by simp [hz], hsm.set _ (Nat.mod_lt _ (by decide)), by omega, ?_, by rw [List.take_set_of_le (by omega)]; exact ht, by rw [List.drop_set_of_lt (by omega)]; exact hdr, hS1⟩
  have e1 := val_set (zs := zs) (j := j + ys.length) (w := (zs.getD (j + ys.length) 0 + c) % 4294967296) (by omega)
  have e2 : (zs.getD (j + ys.length) 0 + c) % 4294967296 + 4294967296 * ((zs.getD (j + ys.length) 0 + c) / 4294967296) = zs.getD (j + ys.length) 0 + c := by omega
  generalize (zs.getD (j + ys.length) 0 + c) % 4294967296 = w at *
  generalize (zs.getD (j + ys.length) 0 + c) / 4294967296 = c' at *
  generalize zs.getD (j + ys.length) 0 = o at *
  have e4 := congrArg (4294967296 ^ (j + ys.length) * ·) e2
  simp only [Nat.mul_add] at e4
  rw [show j + (ys.length + 1) = j + ys.length + 1 by omega, Nat.pow_succ, Nat.mul_assoc]
  omega
end Go.AM.Y
set_option linter.unusedVariables false
namespace Go.AM
theorem knuth_over {p g rest vt v2 vl u2 ul top : Nat} (hul : ul < p) (h1 : g * vt + rest = top) (h2 : rest * 4294967296 + u2 < g * v2) :
    ul + p * (u2 + 4294967296 * top) < g * (vl + p * (v2 + 4294967296 * vt)) := by
  have e1 : g * (vl + p * (v2 + 4294967296 * vt)) = g * vl + p * (g * v2 + 4294967296 * (g * vt)) := by
    rw [Nat.mul_add, Nat.mul_left_comm g p, Nat.mul_add g, Nat.mul_left_comm g 4294967296]
  have e2 : p * (u2 + 4294967296 * top + 1) ≤ p * (g * v2 + 4294967296 * (g * vt)) := Nat.mul_le_mul_left _ (by omega)
  rw [e1]
  rw [Nat.mul_add p _ 1, Nat.mul_one] at e2
  omega
theorem knuth_near {p g rest vt v2 vl u2 ul top : Nat} (hvl : vl < p) (hg : g < 4294967296) (hvt : 1 ≤ vt) (h1 : g * vt + rest = top) (h2 : g * v2 ≤ rest * 4294967296 + u2) :
    g * (vl + p * (v2 + 4294967296 * vt)) < ul + p * (u2 + 4294967296 * top) + (vl + p * (v2 + 4294967296 * vt)) := by
  have e1 : g * (vl + p * (v2 + 4294967296 * vt)) = g * vl + p * (g * v2 + 4294967296 * (g * vt)) := by
    rw [Nat.mul_add, Nat.mul_left_comm g p, Nat.mul_add g, Nat.mul_left_comm g 4294967296]
  have e2 : p * (g * v2 + 4294967296 * (g * vt)) ≤ p * (u2 + 4294967296 * top) := Nat.mul_le_mul_left _ (by omega)
  have e3 : g * vl ≤ 4294967295 * vl := Nat.mul_le_mul_right _ (by omega)
  have e4 : p * (4294967296 * 1) ≤ p * (v2 + 4294967296 * vt) := Nat.mul_le_mul_left _ (by omega)
  rw [e1]
  omega
theorem knuth_first {p vt v2 vl u2 ul top : Nat} (hul : ul < p) (hu2 : u2 < 4294967296) (hvt : 1 ≤ vt) :
    ul + p * (u2 + 4294967296 * top) < (top / vt + 1) * (vl + p * (v2 + 4294967296 * vt)) := by
  have h := Nat.lt_div_mul_add (a := top) (b := vt) hvt
  have h' : top < (top / vt + 1) * vt := by rw [Nat.add_mul, Nat.one_mul]; omega
  generalize top / vt + 1 = g at *
  have e1 : g * (vl + p * (v2 + 4294967296 * vt)) = g * vl + p * (g * v2 + 4294967296 * (g * vt)) := by
    rw [Nat.mul_add, Nat.mul_left_comm g p, Nat.mul_add g, Nat.mul_left_comm g 4294967296]
  have e2 : p * (u2 + 4294967296 * top + 1) ≤ p * (g * v2 + 4294967296 * (g * vt)) := Nat.mul_le_mul_left _ (by omega)
  rw [e1]
  rw [Nat.mul_add p _ 1, Nat.mul_one] at e2
  omega
theorem knuth_top {p vt v2 vl u2 ul top : Nat} (hvl : vl < p) (hv2 : v2 < 4294967296) (h : ul + p * (u2 + 4294967296 * top) < 4294967296 * (vl + p * (v2 + 4294967296 * vt))) :
    top < 4294967296 * vt + 4294967296 := by
  have hp : 0 < p := by omega
  have e1 : vl + p * (v2 + 4294967296 * vt) < p * (4294967296 * vt + 4294967296) := by
    have : p * (v2 + 4294967296 * vt + 1) ≤ p * (4294967296 * vt + 4294967296) := Nat.mul_le_mul_left _ (by omega)
    rw [Nat.mul_add p _ 1, Nat.mul_one] at this
    omega
  have e2 : p * (4294967296 * top) ≤ p * (u2 + 4294967296 * top) := Nat.mul_le_mul_left _ (by omega)
  have e3 : p * (4294967296 * top) < p * (4294967296 * (4294967296 * vt + 4294967296)) := by
    rw [Nat.mul_left_comm p 4294967296 (4294967296 * vt + 4294967296)]
    omega
  have := Nat.lt_of_mul_lt_mul_left e3
  omega
/-- A list by its lower digits, and the two at the end. -/
theorem val_two {ys : List Nat} {n : Nat} (h : ys.length = n + 2) : val ys = val (ys.take n) + 4294967296 ^ n * (ys.getD n 0 + 4294967296 * ys.getD (n + 1) 0) := by
  have e : val ys = val (ys.take (n + 2)) := by rw [List.take_of_length_le (by omega)]
  rw [e, val_take_succ', val_take_succ', Nat.pow_succ, Nat.mul_add, Nat.mul_assoc]; omega
theorem val_three {w : List Nat} {n : Nat} (hs : small w) (h : val w < 4294967296 ^ (n + 3)) : val w = val (w.take n) + 4294967296 ^ n * (w.getD n 0 + 4294967296 * (w.getD (n + 2) 0 * 4294967296 + w.getD (n + 1) 0)) := by
  have e : val w = val (w.take (n + 3)) := by rw [← (val_div_mod hs (n + 3)).2, Nat.mod_eq_of_lt h]
  rw [e, val_take_succ', val_take_succ', val_take_succ', Nat.pow_add _ n 2, Nat.pow_add _ n 1]
  generalize val (w.take n) = V
  generalize w.getD n 0 = d0
  generalize w.getD (n + 1) 0 = d1
  generalize w.getD (n + 2) 0 = d2
  generalize 4294967296 ^ n = p
  have a1 : p * 4294967296 ^ 1 * d1 = 4294967296 * (p * d1) := by rw [Nat.pow_one, Nat.mul_comm p, Nat.mul_assoc]
  have a2 : p * 4294967296 ^ 2 * d2 = 18446744073709551616 * (p * d2) := by rw [Nat.mul_comm p, Nat.mul_assoc]
  have a3 : p * (d0 + 4294967296 * (d2 * 4294967296 + d1)) = p * d0 + 4294967296 * (4294967296 * (p * d2) + p * d1) := by
    rw [Nat.mul_add, Nat.mul_left_comm p 4294967296, Nat.mul_add p, Nat.mul_comm d2, Nat.mul_left_comm p 4294967296]
  rw [a1, a2, a3]; omega
end Go.AM
namespace Go.AM
theorem getD_drop (xs : List Nat) (m i : Nat) : (xs.drop m).getD i 0 = xs.getD (m + i) 0 := by
  rw [List.getD_eq_getElem?_getD, List.getElem?_drop, ← List.getD_eq_getElem?_getD]
theorem val_drop_cons {xs : List Nat} {m : Nat} (h : m < xs.length) : val (xs.drop m) = xs.getD m 0 + 4294967296 * val (xs.drop (m + 1)) := by
  rw [List.drop_eq_getElem_cons h, val, List.getD_eq_getElem?_getD, List.getElem?_eq_getElem h]; rfl
end Go.AM
namespace Go.AM
theorem long_step (v p B Y T z d : Nat) : v * (p * B * Y) + (T + p * (z + d * v)) = v * (p * (d + B * Y)) + (T + p * z) := by
  rw [Nat.mul_add p z, Nat.mul_add p d, Nat.mul_add v, Nat.mul_assoc p B Y, ← Nat.mul_assoc p d v, Nat.mul_comm (p * d) v]; omega
end Go.AM
namespace Go.AM
theorem long_fin1 {z g v U X w : Nat} (h1 : z + (g + 1) * v = U + X * 1) (h2 : w + X * 1 = z + v) : w + g * v = U := by
  rw [Nat.add_mul, Nat.one_mul, Nat.mul_one] at h1; rw [Nat.mul_one] at h2; omega
theorem long_fin2 {z g v U X : Nat} (h1 : z + g * v = U + X * 1) (h2 : z < X) : U < g * v := by rw [Nat.mul_one] at h1; omega
end Go.AM
set_option linter.unusedVariables false
set_option linter.unusedSimpArgs false
set_option maxRecDepth 100000
namespace Go.AM.Y
open Go Go.AM Go.Proofs
attribute [local irreducible] run bin un ld st box newV mkS fldA fld ixA ix slc slc3 build buildS cv cvS ap cpy lenV gOp pickV b2 aIf aChk evalK resume iterD Option.bind

theorem subQL {t : TypeId} {a : Nat} (h : 1 ≤ a ∧ a < 18446744073709551616) : bin Try.prog .sub t (u64 a) (.int .u64 1) = some (u64 (a - 1)) := subQ (b := 1) h
theorem slc_own {b len cap lo hi : Nat} (h : lo ≤ hi ∧ hi ≤ len ∧ lo < cap) : slc Try.prog 22 (sl b 0 len cap) (some (i64 lo)) (some (i64 hi)) = some (sl b lo (hi - lo) (cap - lo)) := by
  unfold slc sl; rw [Us]; simp only [intOr, Option.bind_some]
  rw [if_pos ⟨Iw, by omega, by omega, by omega⟩, Int.toNat_natCast, Int.toNat_natCast, if_neg (by omega), Sw, Nat.zero_add, Nat.mul_one]
theorem guess_step {H0 B0 B H : AH} {L : List (Nat × Blk)} {us ys : List Nat} {b s4 s7 : Value} {bu j n Lu top U vt v2 u2 : Nat} (hS : St H0 B0 B ((bu, ⟨us.map u32, 67, .fix⟩) :: L) H) (hb : RdN B b ys) (hn : ys.length = n + 2) (hlu : us.length = Lu)
    (hj : j + (n + 3) ≤ Lu) (hlen : Lu < 549755813888) (hvt : ys.getD (n + 1) 0 = vt) (hv2 : ys.getD n 0 = v2) (hu2 : us.getD (j + n) 0 = u2) (hsmall : u2 < 4294967296) (hvtB : vt < 4294967296) (hvt0 : 1 ≤ vt) (hv2B : v2 < 4294967296)
    (hover : ∀ g rest, g * vt + rest = top → rest * 4294967296 + u2 < g * v2 → U < g * val ys) (hnear : ∀ g rest, g < 4294967296 → g * vt + rest = top → g * v2 ≤ rest * 4294967296 + u2 → g * val ys < U + val ys)
    (hUv : U < 4294967296 * val ys) (htop : top < 4294967296 * vt + 4294967296) (htB : top < 18446744073709551616) (g rest : Nat) (h1 : g * vt + rest = top) (hr : rest < 4294967296) (hU : U < (g + 1) * val ys)
    (hnext : 1 ≤ g → rest + vt < 4294967296 → U < g * val ys → Ev (fun k l => f112_L1 k b s4 s7 (i64 (n + 2)) (sl bu 0 Lu Lu) (i64 j) (u64 (g - 1)) (u64 (rest + vt)) l H)
      (fun o => ∃ g, o = (.exit 2, f112_X_L1 b s4 s7 (i64 (n + 2)) (sl bu 0 Lu Lu) (i64 j) (u64 g), H) ∧ g < 4294967296 ∧ U < (g + 1) * val ys ∧ g * val ys < U + val ys)) :
    Ev (fun k l => f112_L1 k b s4 s7 (i64 (n + 2)) (sl bu 0 Lu Lu) (i64 j) (u64 g) (u64 rest) l H)
      (fun o => ∃ g, o = (.exit 2, f112_X_L1 b s4 s7 (i64 (n + 2)) (sl bu 0 Lu Lu) (i64 j) (u64 g), H) ∧ g < 4294967296 ∧ U < (g + 1) * val ys ∧ g * val ys < U + val ys) := by
  refine Ev.succ (fun k l => f112_L1_succ k _ _ _ _ _ _ _ _ l H) ?_
  have hgB : g < 18446744073709551616 := by
    have : g * 1 ≤ g * vt := Nat.mul_le_mul_left _ hvt0
    omega
  obtain ⟨p, hp1, hp2⟩ := hb.ixN (k := .i64) (i := n + 1) Ew (by omega)
  obtain ⟨q, hq1, hq2⟩ := hb.ixN (k := .i64) (i := n) Ew (by omega)
  have hp3 := hp2 H hS.le
  have hq3 := hq2 H hS.le
  rw [hvt] at hp3
  rw [hv2] at hq3
  have more : U < g * val ys → Ev (fun k l => (bin Try.prog .sub 111 (u64 g) (.int .u64 1)).bind fun v70 =>
      (bin Try.prog .sub 3 (i64 (n + 2)) (.int .i64 1)).bind fun v71 => (ixA Try.prog 22 b v71).bind fun v72 => (ld Try.prog 67 H v72).bind fun v73 => (cv Try.prog 67 111 v73).bind fun v74 =>
      (bin Try.prog .add 111 (u64 rest) v74).bind fun v75 => (bin Try.prog .geq 111 v75 (.int .u64 4294967296)).bind fun v76 =>
      aIf v76 (some (EX.exit 2, f112_X_L1 b s4 s7 (i64 (n + 2)) (sl bu 0 Lu Lu) (i64 j) v70, H)) (f112_L1 k b s4 s7 (i64 (n + 2)) (sl bu 0 Lu Lu) (i64 j) v70 v75 l H))
      (fun o => ∃ g, o = (.exit 2, f112_X_L1 b s4 s7 (i64 (n + 2)) (sl bu 0 Lu Lu) (i64 j) (u64 g), H) ∧ g < 4294967296 ∧ U < (g + 1) * val ys ∧ g * val ys < U + val ys) := by
    intro hUg
    have hg1 : 1 ≤ g := by
      rcases Nat.eq_zero_or_pos g with h | h
      · subst h; omega
      · exact h
    refine Ev.prim (subQL ⟨hg1, hgB⟩) ?_
    refine Ev.prim (subL ⟨by omega, by omega⟩) ?_
    refine Ev.prim hp1 ?_
    refine Ev.prim hp3 ?_
    refine Ev.prim (toU64 (by omega) Uw Uq) ?_
    refine Ev.prim (addQ (by omega)) ?_
    refine Ev.prim geqL ?_
    obtain ⟨g', rfl⟩ : ∃ g', g = g' + 1 := ⟨g - 1, by omega⟩
    rw [Nat.add_sub_cancel] at hnext ⊢
    have h1' : g' * vt + (rest + vt) = top := by rw [Nat.add_mul] at h1; omega
    refine Ev.ifp (fun h => ?_) fun h => hnext hg1 (by omega) hUg
    have hgB' : g' < 4294967296 := by
      rcases Nat.lt_or_ge g' 4294967296 with h' | h'
      · exact h'
      · have : 4294967296 * vt ≤ g' * vt := Nat.mul_le_mul_right _ h'
        omega
    have hm : g' * v2 ≤ 4294967295 * 4294967295 := Nat.mul_le_mul (by omega) (by omega)
    exact Ev.ret ⟨g', rfl, hgB', hUg, hnear g' (rest + vt) hgB' h1' (by omega)⟩
  refine Ev.prim geqL ?_
  rcases Nat.lt_or_ge g 4294967296 with hg | hg
  · rw [decide_eq_false (by omega : ¬ 4294967296 ≤ g)]
    refine Ev.gDo (Ev.some2 ?_)
    refine Ev.gDo (Ev.some2 ?_)
    refine Ev.gDo (Ev.some2 ?_)
    refine Ev.gDo (Ev.gPrim (subL (a := n + 2) ⟨by omega, by omega⟩) rfl ?_)
    rw [Nat.add_sub_cancel]
    refine Ev.gDo (Ev.gPrim hq1 rfl ?_)
    refine Ev.gDo (Ev.gPrim hq3 rfl ?_)
    refine Ev.gDo (Ev.gPrim (toU64 (by omega) Uw Uq) rfl ?_)
    have hm : g * v2 ≤ 4294967295 * 4294967295 := Nat.mul_le_mul (by omega) (by omega)
    refine Ev.gDo (Ev.gPrim (mulQ (by omega)) rfl ?_)
    refine Ev.gDo (Ev.some2 ?_)
    refine Ev.gDo (Ev.gPrim (shlQL ⟨by decide, by omega⟩) rfl ?_)
    refine Ev.gDo (Ev.some2 ?_)
    refine Ev.gDo (Ev.some2 ?_)
    refine Ev.gDo (Ev.some2 ?_)
    refine Ev.gDo (Ev.gPrim (addN (by omega)) rfl ?_)
    refine Ev.gDo (Ev.gPrim (subL ⟨by omega, by omega⟩) rfl ?_)
    rw [show j + (n + 2) - 2 = j + n by omega]
    refine Ev.gDo (Ev.gPrim (ixA_own Ew (by omega)) rfl ?_)
    have hld : ld Try.prog 67 H (ptr bu (0 + (j + n))) = some (u32 u2) := by
      rw [ld_blk (hS.get (.head _)), ldK_own Ew, List.getElem?_map, Nat.zero_add, ← hu2, List.getD_eq_getElem?_getD, List.getElem?_eq_getElem (by omega)]; rfl
    refine Ev.gDo (Ev.gPrim hld rfl ?_)
    refine Ev.gDo (Ev.gPrim (toU64 (by omega) Uw Uq) rfl ?_)
    refine Ev.gDo (Ev.gPrim (orQ ⟨by omega, by omega⟩) rfl ?_)
    rw [Nat.or_comm, or_add (by omega), show u2 + rest * 2 ^ 32 = rest * 4294967296 + u2 by omega]
    refine Ev.gDo (Ev.gPrim gtrN rfl ?_)
    refine Ev.prim pick_f ?_
    refine Ev.ifp (fun h => more (hover g rest h1 h)) fun h => ?_
    exact Ev.ret ⟨g, rfl, hg, hU, hnear g rest hg h1 (by omega)⟩
  · rw [decide_eq_true hg]
    repeat refine Ev.gSkipF ?_
    refine Ev.prim pick_t ?_
    refine Ev.tt ?_
    refine more (Nat.lt_of_lt_of_le hUv (Nat.mul_le_mul_right _ hg))
theorem guess_loop {H0 B0 B H : AH} {L : List (Nat × Blk)} {us ys : List Nat} {b s4 s7 : Value} {bu j n Lu top U vt v2 u2 : Nat} (hS : St H0 B0 B ((bu, ⟨us.map u32, 67, .fix⟩) :: L) H) (hb : RdN B b ys) (hn : ys.length = n + 2) (hlu : us.length = Lu)
    (hj : j + (n + 3) ≤ Lu) (hlen : Lu < 549755813888) (hvt : ys.getD (n + 1) 0 = vt) (hv2 : ys.getD n 0 = v2) (hu2 : us.getD (j + n) 0 = u2) (hsmall : u2 < 4294967296) (hvtB : vt < 4294967296) (hvt0 : 1 ≤ vt) (hv2B : v2 < 4294967296)
    (hover : ∀ g rest, g * vt + rest = top → rest * 4294967296 + u2 < g * v2 → U < g * val ys) (hnear : ∀ g rest, g < 4294967296 → g * vt + rest = top → g * v2 ≤ rest * 4294967296 + u2 → g * val ys < U + val ys)
    (hUv : U < 4294967296 * val ys) (htop : top < 4294967296 * vt + 4294967296) (htB : top < 18446744073709551616) :
    ∀ (g rest : Nat), g * vt + rest = top → rest < 4294967296 → U < (g + 1) * val ys →
    Ev (fun k l => f112_L1 k b s4 s7 (i64 (n + 2)) (sl bu 0 Lu Lu) (i64 j) (u64 g) (u64 rest) l H)
      (fun o => ∃ g, o = (.exit 2, f112_X_L1 b s4 s7 (i64 (n + 2)) (sl bu 0 Lu Lu) (i64 j) (u64 g), H) ∧ g < 4294967296 ∧ U < (g + 1) * val ys ∧ g * val ys < U + val ys) := by
  intro g
  induction g with
  | zero =>
    intro rest h1 hr hU
    exact guess_step hS hb hn hlu hj hlen hvt hv2 hu2 hsmall hvtB hvt0 hv2B hover hnear hUv htop htB 0 rest h1 hr hU fun h => absurd h (by decide)
  | succ g ih =>
    intro rest h1 hr hU
    exact guess_step hS hb hn hlu hj hlen hvt hv2 hu2 hsmall hvtB hvt0 hv2B hover hnear hUv htop htB (g + 1) rest h1 hr hU fun _ h2 h3 => ih (rest + vt) (by rw [Nat.add_mul] at h1; omega) h2 h3
end Go.AM.Y
set_option linter.unusedVariables false
set_option linter.unusedSimpArgs false
set_option maxRecDepth 100000
namespace Go.AM.Y
open Go Go.AM Go.Proofs
attribute [local irreducible] run bin un ld st box newV mkS fldA fld ixA ix slc slc3 build buildS cv cvS ap cpy lenV gOp pickV b2 aIf aChk evalK resume iterD Option.bind

theorem long_loop {H0 B0 B : AH} {ys : List Nat} {b s7 : Value} {bu bq n M Lu N : Nat} (hb : RdN B b ys) (hn : ys.length = n + 2) (hLu : Lu = M + (n + 2)) (hlen : Lu < 549755813888) (hvt : 2147483648 ≤ ys.getD (n + 1) 0) :
    ∀ (m : Nat) (us qs : List Nat) (H : AH), m ≤ M → us.length = Lu → qs.length = M → small us → small qs → val (us.drop m) < val ys → N = val ys * (4294967296 ^ m * val (qs.drop m)) + val us →
    St H0 B0 B [(bu, ⟨us.map u32, 67, .fix⟩), (bq, ⟨qs.map u32, 67, .fix⟩)] H →
    Ev (fun k l => f112_L0 k b (sl bq 0 M M) s7 (i64 (n + 2)) (sl bu 0 Lu Lu) (.int .i64 ((m : Int) - 1)) l H)
      (fun o => ∃ us qs H, o = (.exit 0, f112_X_L0 (sl bq 0 M M) s7 (i64 (n + 2)) (sl bu 0 Lu Lu), H) ∧ us.length = Lu ∧ qs.length = M ∧ small us ∧ small qs ∧ val us < val ys ∧ N = val ys * val qs + val us ∧
        St H0 B0 B [(bu, ⟨us.map u32, 67, .fix⟩), (bq, ⟨qs.map u32, 67, .fix⟩)] H) := by
  intro m
  induction m with
  | zero =>
    intro us qs H hm hus hqs hsu hsq hv hN hS
    refine Ev.succ (fun k l => f112_L0_succ k _ _ _ _ _ _ l H) ?_
    refine Ev.prim bin_geq ?_
    refine Ev.ifp (fun h => absurd h (by omega)) fun _ => ?_
    rw [List.drop_zero] at hv hN
    rw [Nat.pow_zero, Nat.one_mul] at hN
    exact Ev.ret ⟨us, qs, H, rfl, hus, hqs, hsu, hsq, hv, hN, hS⟩
  | succ m ih =>
    intro us qs H hm hus hqs hsu hsq hv hN hS
    refine Ev.succ (fun k l => f112_L0_succ k _ _ _ _ _ _ l H) ?_
    rw [show (((m + 1 : Nat) : Int) - 1) = ((m : Nat) : Int) by omega]
    refine Ev.prim geqL ?_
    refine Ev.ifp (fun _ => ?_) fun h => absurd (Nat.zero_le _) h
    -- the numbers
    have hyl := val_lt hb.2
    rw [hn] at hyl
    have hU := val_drop_cons (xs := us) (m := m) (by omega)
    have hum := hsu.getD m
    have hUv : val (us.drop m) < 4294967296 * val ys := by
      have : 4294967296 * (val (us.drop (m + 1)) + 1) ≤ 4294967296 * val ys := Nat.mul_le_mul_left _ hv
      omega
    have hUB : val (us.drop m) < 4294967296 ^ (n + 3) := by
      rw [show n + 3 = (n + 2) + 1 by omega, Nat.pow_succ, Nat.mul_comm]
      exact Nat.lt_of_lt_of_le hUv (Nat.mul_le_mul_left _ (Nat.le_of_lt hyl))
    have hU3 := val_three (hsu.drop m) hUB
    have hv2 := val_two hn
    rw [getD_drop, getD_drop, getD_drop] at hU3
    have hul := val_take_lt (hsu.drop m) n
    have hvl := val_take_lt hb.2 n
    have hu2B := hsu.getD (m + n)
    have htB1 := hsu.getD (m + (n + 1))
    have htB2 := hsu.getD (m + (n + 2))
    have hvtB := hb.2.getD (n + 1)
    have hv2B := hb.2.getD n
    have hlow : val ((us.drop m).drop (n + 3)) = 0 := by
      rw [← (val_div_mod (hsu.drop m) (n + 3)).1, Nat.div_eq_of_lt hUB]
    generalize hvt' : ys.getD (n + 1) 0 = vt at *
    generalize hv2' : ys.getD n 0 = v2 at *
    generalize hu2' : us.getD (m + n) 0 = u2 at *
    generalize ht1' : us.getD (m + (n + 1)) 0 = t1 at *
    generalize ht2' : us.getD (m + (n + 2)) 0 = t2 at *
    generalize hul' : val ((us.drop m).take n) = ul at *
    generalize hvl' : val (ys.take n) = vl at *
    generalize hp' : 4294967296 ^ n = p at *
    -- the walk
    refine Ev.prim (addN (by omega)) ?_
    refine Ev.prim (ixA_own Ew (by omega)) ?_
    refine Ev.ldW Ew hS (.head _) (j := m + (n + 2)) (by omega) (by omega) ?_
    rw [ht2']
    refine Ev.prim (toU64 (by omega) Uw Uq) ?_
    refine Ev.prim (shlQL ⟨by decide, by omega⟩) ?_
    refine Ev.prim (addN (by omega)) ?_
    refine Ev.prim (subL ⟨by omega, by omega⟩) ?_
    refine Ev.prim (ixA_own Ew (by omega)) ?_
    refine Ev.ldW Ew hS (.head _) (j := m + (n + 1)) (by omega) (by omega) ?_
    rw [ht1']
    refine Ev.prim (toU64 (by omega) Uw Uq) ?_
    refine Ev.prim (orQ ⟨by omega, by omega⟩) ?_
    rw [Nat.or_comm, or_add (by omega), show t1 + t2 * 2 ^ 32 = t2 * 4294967296 + t1 by omega]
    obtain ⟨a, ha1, ha2⟩ := hb.ixN (k := .i64) (i := n + 1) Ew (by omega)
    have ha3 := ha2 H hS.le
    rw [hvt'] at ha3
    refine Ev.prim (subL (a := n + 2) ⟨by omega, by omega⟩) ?_
    refine Ev.prim ha1 ?_
    refine Ev.prim ha3 ?_
    refine Ev.prim (toU64 (by omega) Uw Uq) ?_
    refine Ev.prim (quoQ ⟨by omega, by omega⟩) ?_
    refine Ev.prim (subL (a := n + 2) ⟨by omega, by omega⟩) ?_
    refine Ev.prim ha1 ?_
    refine Ev.prim ha3 ?_
    refine Ev.prim (toU64 (by omega) Uw Uq) ?_
    refine Ev.prim (remN (by omega)) ?_
    have hUe := hU3
    have hve := hv2
    generalize htop : t2 * 4294967296 + t1 = top at *
    have hkt := knuth_top (u2 := u2) (ul := ul) (top := top) hvl hv2B (by rw [← hUe, ← hve]; exact hUv)
    have hkf := knuth_first (p := p) (vt := vt) (v2 := v2) (vl := vl) (u2 := u2) (ul := ul) (top := top) hul hu2B (by omega)
    rw [← hUe, ← hve] at hkf
    refine Ev.bind (Ev.loop (guess_loop (U := val (us.drop m)) (top := top) hS hb hn hus (j := m) (by omega) hlen hvt' hv2' hu2' hu2B hvtB (by omega) hv2B
      (fun g rest h1 h2 => by rw [hUe, hve]; exact knuth_over hul h1 h2) (fun g rest hg h1 h2 => by rw [hUe, hve]; exact knuth_near hvl hg (by omega) h1 h2)
      hUv hkt (by omega) (top / vt) (top % vt) (by rw [Nat.mul_comm]; exact Nat.div_add_mod ..) (Nat.lt_trans (Nat.mod_lt _ (by omega)) hvtB) hkf)) ?_
    rintro _ ⟨g, rfl, hgB, hg1, hg2⟩
    refine Ev.eq (fun k l => f112_A1_x2 k l _ _ _ _ _ _ _ H) ?_
    refine Ev.prim (addN (by omega)) ?_
    refine Ev.prim (addL (by omega)) ?_
    refine Ev.prim (slc_own ⟨by omega, by omega, by omega⟩) ?_
    rw [show m + (n + 2) + 1 - m = ys.length + 1 by omega]
    have last : ∀ (d : Nat) (zs : List Nat) (H : AH), d < 4294967296 → zs.length = Lu → small zs → val (zs.drop m) + d * val ys = val (us.drop m) → val (us.drop m) < (d + 1) * val ys → zs.take m = us.take m →
        St H0 B0 B [(bu, ⟨zs.map u32, 67, .fix⟩), (bq, ⟨qs.map u32, 67, .fix⟩)] H → Ev (fun k l => f112_J0 k l b (sl bq 0 M M) s7 (i64 (n + 2)) (sl bu 0 Lu Lu) (i64 m) (u64 d) H)
      (fun o => ∃ us qs H, o = (.exit 0, f112_X_L0 (sl bq 0 M M) s7 (i64 (n + 2)) (sl bu 0 Lu Lu), H) ∧ us.length = Lu ∧ qs.length = M ∧ small us ∧ small qs ∧ val us < val ys ∧ N = val ys * val qs + val us ∧
        St H0 B0 B [(bu, ⟨us.map u32, 67, .fix⟩), (bq, ⟨qs.map u32, 67, .fix⟩)] H) := by
      intro d zs H hd hzl hzs hz1 hz2 hz3 hS
      refine Ev.eq (fun k l => f112_J0_eq k l _ _ _ _ _ _ _ H) ?_
      refine Ev.prim (toU32 Uq Uw) ?_
      rw [Nat.mod_eq_of_lt hd]
      refine Ev.prim (ixA_own Ew (by omega)) ?_
      refine Ev.stW Ew hS (.tail _ (.head _)) (j := m) (by omega) (by omega) rfl (by simp) (.tail _ (.head _)) fun H1 hS1 => ?_
      refine Ev.prim (bin_sub64 (by omega)) ?_
      refine ih zs _ H1 (by omega) hzl (by simp [hqs]) hzs (hsq.set _ hd) (by rw [Nat.add_mul] at hz2; omega) ?_ hS1
      have e1 := val_drop zs m
      have e2 := val_drop us m
      rw [hz3] at e1
      rw [val_drop_cons (xs := qs.set m d) (by simp; omega), getD_set_self (by omega), List.drop_set_of_lt (by omega), hN, e1, e2, ← hz1, Nat.pow_succ]
      exact long_step ..
    refine Ev.b2 (take_spec hb hgB (by omega) (by omega) hsu hS) ?_
    rintro v H1 ⟨zs, bo, H2, e, hzl, hzs, hbo, hzv, hz1, hz2, hS1⟩
    cases e
    have e1 := val_drop zs m
    have e2 := val_drop us m
    rw [hz1] at e1
    have hlen3 : m + (ys.length + 1) = m + (n + 3) := by omega
    rw [hlen3] at hz2 hzv
    have hzlow : val ((zs.drop m).drop (n + 3)) = 0 := by rw [List.drop_drop, hz2, ← List.drop_drop]; exact hlow
    have hzlt : val (zs.drop m) < 4294967296 ^ (n + 3) := by
      have := val_drop (zs.drop m) (n + 3)
      rw [hzlow, Nat.mul_zero, Nat.add_zero] at this
      rw [this]; exact val_take_lt (hzs.drop m) (n + 3)
    have hpm : 0 < 4294967296 ^ m := Nat.pow_pos (by decide)
    have hz3 : val (zs.drop m) + g * val ys = val (us.drop m) + 4294967296 ^ (n + 3) * bo := by
      refine Nat.eq_of_mul_eq_mul_left hpm ?_
      rw [Nat.mul_add, Nat.mul_add, ← Nat.mul_assoc (4294967296 ^ m) (4294967296 ^ (n + 3)), ← Nat.pow_add]
      omega
    refine Ev.ifp (fun h => ?_) fun h => ?_
    · have hb1 : bo = 1 := by omega
      subst hb1
      obtain ⟨g', rfl⟩ : ∃ g', g = g' + 1 := by
        refine ⟨g - 1, ?_⟩
        have : g ≠ 0 := by intro e; subst e; omega
        omega
      refine Ev.prim (subQL ⟨by omega, by omega⟩) ?_
      refine Ev.prim (addN (by omega)) ?_
      refine Ev.prim (addL (by omega)) ?_
      refine Ev.prim (slc_own ⟨by omega, by omega, by omega⟩) ?_
      rw [show m + (n + 2) + 1 - m = ys.length + 1 by omega, Nat.add_sub_cancel]
      refine Ev.b2 (give_spec hb (by omega) (by omega) hzs hS1) ?_
      rintro v H1 ⟨ws, c, H3, e, hwl, hws, hc, hwv, hw1, hw2, hS2⟩
      cases e
      rw [hlen3] at hw2 hwv
      have e3 := val_drop ws m
      rw [hw1, hz1] at e3
      have hwlow : val ((ws.drop m).drop (n + 3)) = 0 := by rw [List.drop_drop, hw2, hz2, ← List.drop_drop]; exact hlow
      have hwlt : val (ws.drop m) < 4294967296 ^ (n + 3) := by
        have := val_drop (ws.drop m) (n + 3)
        rw [hwlow, Nat.mul_zero, Nat.add_zero] at this
        rw [this]; exact val_take_lt (hws.drop m) (n + 3)
      have hw3 : val (ws.drop m) + 4294967296 ^ (n + 3) * c = val (zs.drop m) + val ys := by
        refine Nat.eq_of_mul_eq_mul_left hpm ?_
        rw [Nat.mul_add, Nat.mul_add, ← Nat.mul_assoc (4294967296 ^ m) (4294967296 ^ (n + 3)), ← Nat.pow_add]
        omega
      have hc1 : c = 1 := by
        rcases Nat.eq_zero_or_pos c with h0 | h0
        · subst h0; omega
        · omega
      subst hc1
      exact last g' ws _ (by omega) (by omega) hws (long_fin1 hz3 hw3) (long_fin2 hz3 hzlt) (by rw [hw1, hz1]) hS2
    · have hb0 : bo = 0 := by omega
      subst hb0
      rw [Nat.mul_zero, Nat.add_zero] at hz3
      exact last g zs _ hgB (by omega) hzs hz3 hg1 hz1 hS1
end Go.AM.Y
set_option linter.unusedVariables false
namespace Go.AM
variable {R : Type} {P : Program} {t e : TypeId} {z : Value} {sz : Nat}
theorem Ev.cpyW {H0 B0 B L L' H} {b cap : Nat} {v : Value} {us xs : List Nat} {kd : BK} {f : Nat → Nat → Value → AH → Option R} {Q : R → Prop} (hE : Elt P t e z sz) (hS : St H0 B0 B L H) (hm : (b, ⟨us.map u32, e, kd⟩) ∈ L)
    (hx : RdN B v xs) (hl : xs.length ≤ us.length) (hk : kd ≠ .ro) (hu : Upd b ⟨us.map u32, e, kd⟩ ⟨(xs ++ us.drop xs.length).map u32, e, kd⟩ L L') (h : ∀ H', St H0 B0 B L' H' → Ev (fun k n => f k n (i64 xs.length) H') Q) :
    Ev (fun k n => Go.AM.b2 (cpy P t H (sl b 0 us.length cap) v) (f k n)) Q := by
  have hx' := hx.1.up hS.le
  have e1 := sliceCells_of hx'
  have e2 := lenOf_of hx'
  rw [List.length_map] at e1 e2
  have hmin : min xs.length us.length = xs.length := Nat.min_eq_left hl
  by_cases h0 : xs.length = 0
  · have : xs = [] := List.length_eq_zero_iff.mp h0
    subst this
    rw [List.nil_append, List.length_nil, List.drop_zero] at hu
    have hLL : L' = L := by
      clear hm hS h
      induction hu with
      | head => rfl
      | tail x _ ih => rw [ih]
    subst hLL
    refine Ev.prim2 ?_ (h H hS)
    unfold cpy sl
    rw [hE.U]; simp only
    rw [hE.I, if_neg (by simp), e2, Option.bind_some, hmin, hE.S, e1, Option.bind_some, if_pos h0]; rfl
  · refine Ev.prim2 ?_ (h _ (hS.put (cs := (xs ++ us.drop xs.length).map u32) hu))
    unfold cpy sl
    rw [hE.U]; simp only
    rw [hE.I, if_neg (by simp), e2, Option.bind_some, hmin, hE.S, e1, Option.bind_some, if_neg h0, hS.get hm, Option.bind_some]
    simp only
    rw [if_pos ⟨hk, by simp; omega, all_u32 xs⟩]
    simp [spl]
end Go.AM
set_option linter.unusedVariables false
set_option linter.unusedSimpArgs false
set_option maxRecDepth 100000
namespace Go.AM.Y
open Go Go.AM Go.Proofs
attribute [local irreducible] run bin un ld st box newV mkS fldA fld ixA ix slc slc3 build buildS cv cvS ap cpy lenV gOp pickV b2 aIf aChk evalK resume iterD Option.bind

theorem norm_top {y n : Nat} (hn : (limbs y).length = n + 2) : (limbs (y * 2 ^ (32 - nbits ((limbs y).getD (n + 1) 0)))).length = n + 2 ∧ 2147483648 ≤ (limbs (y * 2 ^ (32 - nbits ((limbs y).getD (n + 1) 0)))).getD (n + 1) 0 := by
  have hy : y ≠ 0 := by intro e; subst e; rw [limbs_zero] at hn; cases hn
  have h1 := nbits_limbs hy
  rw [hn, show n + 2 - 1 = n + 1 by omega] at h1
  have h32 : nbits ((limbs y).getD (n + 1) 0) ≤ 32 := nbits_le.mpr ((small_limbs y).getD _)
  generalize nbits ((limbs y).getD (n + 1) 0) = t at *
  have h2 := nbits_mul_pow (k := 32 - t) hy
  generalize hz : y * 2 ^ (32 - t) = z at *
  have hz0 : z ≠ 0 := by intro e; rw [e] at h2; have := nbits_pos hy; rw [nbits_zero] at h2; omega
  have h3 := nbits_limbs hz0
  have h4 : nbits ((limbs z).getD ((limbs z).length - 1) 0) ≤ 32 := nbits_le.mpr ((small_limbs z).getD _)
  have hl : (limbs z).length ≠ 0 := fun e => hz0 (limbs_eq_nil.mp (List.length_eq_zero_iff.mp e))
  have hne : (limbs z).getD ((limbs z).length - 1) 0 ≠ 0 := by
    refine limbs_getLast (n := z) _ ?_
    rw [List.getLast?_eq_getElem?, List.getD_eq_getElem?_getD, List.getElem?_eq_getElem (by omega)]; rfl
  have h5 := nbits_pos hne
  have hlen : (limbs z).length = n + 2 := by omega
  refine ⟨hlen, ?_⟩
  rw [hlen, show n + 2 - 1 = n + 1 by omega] at h3 hne
  exact nbits_ge (n := (limbs z).getD (n + 1) 0) hne |> fun h => by
    rw [show nbits ((limbs z).getD (n + 1) 0) = 32 by omega] at h; exact h
theorem long_spec {B H : AH} {a b : Value} {x y n : Nat} (ha : RdN B a (limbs x)) (hb : RdN B b (limbs y)) (hn : (limbs y).length = n + 2) (hxy : y ≤ x) (hm : (limbs x).length < 137438953472) (hL : Le B H) :
    Ev (fun k _ => rn k 112 [a, b] H) (An B H fun B' v => ∃ q r, v = .tuple #[q, r, .bool true] ∧ RdN B' q (limbs (x / y)) ∧ RdN B' r (limbs (x % y))) := by
  refine Ev.fn (fun k => f112_eq k _ _ H) ?_
  have hlen := limbs_length_mono hxy
  obtain ⟨hl1, hl2⟩ := norm_top hn
  have h32 : nbits ((limbs y).getD (n + 1) 0) ≤ 32 := nbits_le.mpr ((small_limbs y).getD _)
  have hS := St.start hL
  refine Ev.prim (hb.lenN Ew) ?_
  refine Ev.prim (subL ⟨by omega, by omega⟩) ?_
  obtain ⟨p, hp1, hp2⟩ := hb.ixN (k := .i64) (i := (limbs y).length - 1) Ew (by omega)
  refine Ev.prim hp1 ?_
  refine Ev.prim (hp2 H hL.le) ?_
  rw [show (limbs y).length - 1 = n + 1 by omega]
  refine Ev.callU (LZ_spec ((small_limbs y).getD _)) ?_
  rintro _ rfl
  generalize hk : 32 - nbits ((limbs y).getD (n + 1) 0) = k at *
  refine Ev.call hS (Shl_spec (n := k) hb (by omega) (by omega)) fun v B1 H1 hm1 hS1 h1 => ?_
  obtain ⟨b', rfl, hb'⟩ := h1
  rw [val_limbs] at hb'
  refine Ev.prim ext_0 ?_
  refine Ev.prim ext_1 ?_
  refine Ev.prim (hb'.lenN Ew) ?_
  refine Ev.prim (ha.lenN Ew) ?_
  refine Ev.prim (addL (by omega)) ?_
  refine Ev.mkS Ew hS1 (by omega) (by omega) fun bu B2 H2 hm2 hS2 => ?_
  rw [map_replicate] at hS2
  refine Ev.call hS2 (Shl_spec (n := k) (ha.mono (hm1.trans hm2)) (by omega) (by omega)) fun v B3 H3 hm3 hS3 h3 => ?_
  obtain ⟨up, rfl, hup⟩ := h3
  rw [val_limbs] at hup
  refine Ev.prim ext_0 ?_
  refine Ev.prim ext_1 ?_
  have hxl := val_lt (small_limbs x)
  rw [val_limbs] at hxl
  have hk32 : k ≤ 32 := by omega
  have hpk : 2 ^ k ≤ 4294967296 := Nat.pow_le_pow_right (n := 2) (by decide) hk32
  have hupl : (limbs (x * 2 ^ k)).length ≤ (limbs x).length + 1 := limbs_length_le (by
    rw [Nat.pow_succ]
    exact Nat.lt_of_lt_of_le (Nat.mul_lt_mul_of_pos_right hxl (Nat.pow_pos (by decide))) (Nat.mul_le_mul_left _ hpk))
  have hrl : (List.replicate ((limbs x).length + 1) 0).length = (limbs x).length + 1 := List.length_replicate
  rw [← hrl]
  refine Ev.cpyW Ew hS3 (.head _) hup (by omega) (by simp) (.head _) fun H4 hS4 => ?_
  rw [hrl]
  refine Ev.prim (ha.lenN Ew) ?_
  rw [hl1]
  refine Ev.prim (subN ⟨by omega, by omega⟩) ?_
  refine Ev.prim (addL (by omega)) ?_
  refine Ev.mkS Ew hS4 (by omega) (by omega) fun bq B5 H5 hm5 hS5 => ?_
  rw [map_replicate] at hS5
  refine Ev.prim (ha.lenN Ew) ?_
  refine Ev.prim (subN ⟨by omega, by omega⟩) ?_
  have hyB : 4294967296 ^ (n + 1) ≤ y := by
    rcases Nat.lt_or_ge y (4294967296 ^ (n + 1)) with h | h
    · have := limbs_length_le h; omega
    · exact h
  generalize hu0 : limbs (x * 2 ^ k) ++ (List.replicate ((limbs x).length + 1) 0).drop (limbs (x * 2 ^ k)).length = us at *
  have hul : us.length = (limbs x).length + 1 := by rw [← hu0]; simp; omega
  have hus : small us := by rw [← hu0]; exact (small_limbs _).append ((small_replicate _).drop _)
  have huv : val us = x * 2 ^ k := by rw [← hu0, val_append, val_limbs, List.drop_replicate, val_replicate, Nat.mul_zero, Nat.add_zero]
  obtain ⟨M, hM⟩ : ∃ M, (limbs x).length + 1 = M + (n + 2) := ⟨(limbs x).length + 1 - (n + 2), by omega⟩
  rw [show (limbs x).length - (n + 2) + 1 = M by omega] at hS5 ⊢
  rw [show i64 ((limbs x).length - (n + 2)) = Value.int .i64 ((M : Int) - 1) from int_eq (by omega)]
  have hb5 := hb'.mono ((hm2.trans hm3).trans hm5)
  have hS6 := hS5.perm (L' := [(bu, ⟨us.map u32, 67, .fix⟩), (bq, ⟨(List.replicate M 0).map u32, 67, .fix⟩)]) (List.Perm.swap ..)
  have hdv : val (us.drop M) < val (limbs (y * 2 ^ k)) := by
    rw [val_limbs, ← (val_div_mod hus M).1, huv]
    refine Nat.div_lt_of_lt_mul ?_
    rw [← Nat.mul_assoc]
    refine Nat.mul_lt_mul_of_pos_right ?_ (Nat.pow_pos (by decide))
    refine Nat.lt_of_lt_of_le hxl ?_
    rw [show (limbs x).length = M + (n + 1) by omega, Nat.pow_add]
    exact Nat.mul_le_mul_left _ hyB
  refine Ev.bind (Ev.loop (long_loop (s7 := i64 k) (M := M) (Lu := (limbs x).length + 1) (N := x * 2 ^ k) hb5 hl1 hM (by omega) hl2 M us (List.replicate M 0) H5 (Nat.le_refl _) hul (by simp) hus (small_replicate _) hdv
    (by rw [List.drop_eq_nil_of_le (by simp)]; simp [val, huv]) hS6)) ?_
  rintro _ ⟨us, qs, H7, rfl, hul, hql, hus, hqs, hlt, hN, hS7⟩
  rw [val_limbs] at hlt hN
  have h2k : 0 < 2 ^ k := Nat.pow_pos (by decide)
  have hy0 : 0 < y := Nat.lt_of_lt_of_le (Nat.pow_pos (by decide)) hyB
  have hq : val qs = x / y := by
    rw [← Nat.mul_div_mul_right x y h2k, hN, Nat.mul_add_div (Nat.mul_pos hy0 h2k), Nat.div_eq_of_lt hlt, Nat.add_zero]
  have hr : val us / 2 ^ k = x % y := by
    have h := Nat.mul_mod_mul_right (2 ^ k) x y
    rw [hN, Nat.mul_add_mod, Nat.mod_eq_of_lt hlt] at h
    rw [h, Nat.mul_div_cancel _ h2k]
  refine Ev.eq (fun k _ => f112_A0_x0 k _ _ _ _ H7) ?_
  obtain ⟨B8, hm8, hu8, hS8⟩ := hS7.freezeN (n := (limbs x).length + 1) (cap := (limbs x).length + 1) hus hul.symm (by omega)
  obtain ⟨B9, hm9, hq9, hS9⟩ := hS8.freezeN (n := M) (cap := M) hqs hql.symm (by omega)
  refine Ev.call hS9 (Trim_spec (by omega) hq9) fun q Ba Ha hma hSa hqa => ?_
  obtain ⟨v, hv1, hv2⟩ := (hu8.mono (hm9.trans hma)).uptoN (k := .i64) (i := n + 2) Ew (by omega)
  refine Ev.prim hv1 ?_
  have ht : val (us.take (n + 2)) = val us := by
    rw [← (val_div_mod hus (n + 2)).2, Nat.mod_eq_of_lt]
    have := val_lt (small_limbs (y * 2 ^ k))
    rw [val_limbs, hl1] at this
    exact Nat.lt_trans hlt this
  refine Ev.call hSa (Shr_spec hv2 (by rw [List.length_take]; omega) (by omega)) fun r Bb Hb hmb hSb hrb => ?_
  rw [hq] at hqa
  rw [ht, hr] at hrb
  exact Ev.done hSb ⟨q, r, rfl, hqa.mono hmb, hrb⟩
end Go.AM.Y
set_option linter.unusedVariables false
set_option linter.unusedSimpArgs false
set_option maxRecDepth 100000
namespace Go.AM.Y
open Go Go.AM Go.Proofs
attribute [local irreducible] run bin un ld st box newV mkS fldA fld ixA ix slc slc3 build buildS cv cvS ap cpy lenV gOp pickV b2 aIf aChk evalK resume iterD Option.bind

theorem cmpN_lt {a b : Nat} : cmpN a b < 0 ↔ a < b := by
  unfold cmpN; by_cases h : a < b
  · rw [if_pos h]; omega
  · rw [if_neg h]; by_cases h' : b < a
    · rw [if_pos h']; omega
    · rw [if_neg h']; omega
theorem DivMod_spec {B H : AH} {xs ys : List Nat} {a b : Value} (ha : RdN B a xs) (hb : RdN B b ys) (hm : xs.length < 137438953472) (hm' : ys.length < 137438953472) (hy : val ys ≠ 0) (hL : Le B H) :
    Ev (fun k _ => rn k 66 [a, b] H) (An B H fun B' v => ∃ q r, v = .tuple #[q, r, .bool true] ∧ RdN B' q (limbs (val xs / val ys)) ∧ RdN B' r (limbs (val xs % val ys))) := by
  refine Ev.fn (fun k => f66_eq k _ _ H) ?_
  have hx := limbs_length_le (val_lt ha.2)
  have hyl := limbs_length_le (val_lt hb.2)
  refine Ev.call (St.start hL) (Trim_spec (by omega) hb) fun b B1 H1 hm1 hS1 hb => ?_
  refine Ev.call hS1 (Trim_spec (by omega) (ha.mono hm1)) fun a B2 H2 hm2 hS2 ha => ?_
  have hb := hb.mono hm2
  generalize val xs = x at *
  generalize val ys = y at *
  have hyne : (limbs y).length ≠ 0 := fun e => hy (limbs_eq_nil.mp (List.length_eq_zero_iff.mp e))
  refine Ev.prim (hb.lenN Ew) ?_
  refine Ev.prim eqlL ?_
  refine Ev.ifp (fun h => absurd h hyne) fun _ => ?_
  refine Ev.callU (Cmp_spec ha hb (by omega) (by omega) hS2.lel) ?_
  rintro _ rfl
  rw [val_limbs, val_limbs]
  refine Ev.prim bin_lss ?_
  refine Ev.ifp (fun h => ?_) fun h => ?_
  · rw [cmpN_lt] at h
    refine Ev.done hS2 ⟨_, _, rfl, ?_, ?_⟩
    · rw [Nat.div_eq_of_lt h, limbs_zero]; exact RdN.nil
    · rw [Nat.mod_eq_of_lt h]; exact ha
  rw [cmpN_lt] at h
  refine Ev.prim (hb.lenN Ew) ?_
  refine Ev.prim eqlL ?_
  refine Ev.ifp (fun h1 => ?_) fun h1 => ?_
  · obtain ⟨p, hp1, hp2⟩ := hb.ixN (k := .i64) (i := 0) Ew (by omega)
    refine Ev.prim hp1 ?_
    refine Ev.prim (hp2 H2 hS2.le) ?_
    have hd : y = (limbs y).getD 0 0 := by
      conv => lhs; rw [← val_limbs y]
      match limbs y, h1 with
      | [d], _ => simp [val]
    have hd0 := (small_limbs y).getD 0
    rw [← hd] at hd0 ⊢
    refine Ev.call hS2 (short_spec ha hd0 hy (by omega)) fun v B3 H3 hm3 hS3 h3 => ?_
    obtain ⟨q, r, rfl, hq, hr⟩ := h3
    rw [val_limbs] at hq hr
    repeat (first | refine Ev.some2 ?_ | refine Ev.some1 ?_ | refine Ev.gDo ?_ | refine Ev.gSkipT ?_ | refine Ev.gSkipF ?_ | refine Ev.gUndef ?_ | refine Ev.gCall ?_ | refine Ev.tt ?_ | refine Ev.ff ?_ | refine Ev.gPrim (by (first | with_reducible exact lssL | with_reducible exact gtrL | with_reducible exact eqlL | with_reducible exact neqL | with_reducible exact leqL | with_reducible exact geqL | with_reducible exact lssN | with_reducible exact gtrN | with_reducible exact eqlN | with_reducible exact neqN | with_reducible exact leqN | with_reducible exact geqN | (with_reducible refine addL ?_; omega) | (with_reducible refine subL ?_; omega) | (with_reducible refine quoL ?_; omega) | (with_reducible refine mulL ?_; omega) | (with_reducible refine lmul ?_; omega) | (with_reducible refine addN ?_; omega) | (with_reducible refine subN ?_; omega) | (with_reducible refine quoN ?_; omega) | (with_reducible refine mulN ?_; omega) | (with_reducible refine addQ ?_; omega) | (with_reducible refine subQ ?_; omega) | (with_reducible refine mulQ ?_; omega) | (with_reducible refine shlQL ?_; omega) | (with_reducible refine shlQ ?_; omega) | (with_reducible refine remL ?_; decide) | (with_reducible refine shrL ?_; decide) | (with_reducible refine remN ?_; omega) | (with_reducible refine toU64 ?_ Uw Uq; omega) | (with_reducible exact toU32 Uq Uw) | exact bin_lss | exact bin_gtr | exact bin_eql | exact bin_neq | exact bin_leq | exact bin_geq | exact lenV_sl Us | exact ext_0 | exact ext_1 | exact ext_2 | exact pick_t | exact pick_f | exact bin_add64 (by omega) | exact bin_sub64 (by omega) | exact un_not | exact cv_int Uq Uw | exact cv_int Uw Uq | exact bin_add | exact bin_sub | exact bin_mul | rfl)) rfl ?_ | refine Ev.prim (by (first | with_reducible exact lssL | with_reducible exact gtrL | with_reducible exact eqlL | with_reducible exact neqL | with_reducible exact leqL | with_reducible exact geqL | with_reducible exact lssN | with_reducible exact gtrN | with_reducible exact eqlN | with_reducible exact neqN | with_reducible exact leqN | with_reducible exact geqN | (with_reducible refine addL ?_; omega) | (with_reducible refine subL ?_; omega) | (with_reducible refine quoL ?_; omega) | (with_reducible refine mulL ?_; omega) | (with_reducible refine lmul ?_; omega) | (with_reducible refine addN ?_; omega) | (with_reducible refine subN ?_; omega) | (with_reducible refine quoN ?_; omega) | (with_reducible refine mulN ?_; omega) | (with_reducible refine addQ ?_; omega) | (with_reducible refine subQ ?_; omega) | (with_reducible refine mulQ ?_; omega) | (with_reducible refine shlQL ?_; omega) | (with_reducible refine shlQ ?_; omega) | (with_reducible refine remL ?_; decide) | (with_reducible refine shrL ?_; decide) | (with_reducible refine remN ?_; omega) | (with_reducible refine toU64 ?_ Uw Uq; omega) | (with_reducible exact toU32 Uq Uw) | exact bin_lss | exact bin_gtr | exact bin_eql | exact bin_neq | exact bin_leq | exact bin_geq | exact lenV_sl Us | exact ext_0 | exact ext_1 | exact ext_2 | exact pick_t | exact pick_f | exact bin_add64 (by omega) | exact bin_sub64 (by omega) | exact un_not | exact cv_int Uq Uw | exact cv_int Uw Uq | exact bin_add | exact bin_sub | exact bin_mul | rfl)) ?_)
    exact Ev.done hS3 ⟨q, r, rfl, hq, hr⟩
  · obtain ⟨n, hn⟩ : ∃ n, (limbs y).length = n + 2 := ⟨(limbs y).length - 2, by omega⟩
    refine Ev.call hS2 (long_spec ha hb hn (by omega) (by omega)) fun v B3 H3 hm3 hS3 h3 => ?_
    obtain ⟨q, r, rfl, hq, hr⟩ := h3
    repeat (first | refine Ev.some2 ?_ | refine Ev.some1 ?_ | refine Ev.gDo ?_ | refine Ev.gSkipT ?_ | refine Ev.gSkipF ?_ | refine Ev.gUndef ?_ | refine Ev.gCall ?_ | refine Ev.tt ?_ | refine Ev.ff ?_ | refine Ev.gPrim (by (first | with_reducible exact lssL | with_reducible exact gtrL | with_reducible exact eqlL | with_reducible exact neqL | with_reducible exact leqL | with_reducible exact geqL | with_reducible exact lssN | with_reducible exact gtrN | with_reducible exact eqlN | with_reducible exact neqN | with_reducible exact leqN | with_reducible exact geqN | (with_reducible refine addL ?_; omega) | (with_reducible refine subL ?_; omega) | (with_reducible refine quoL ?_; omega) | (with_reducible refine mulL ?_; omega) | (with_reducible refine lmul ?_; omega) | (with_reducible refine addN ?_; omega) | (with_reducible refine subN ?_; omega) | (with_reducible refine quoN ?_; omega) | (with_reducible refine mulN ?_; omega) | (with_reducible refine addQ ?_; omega) | (with_reducible refine subQ ?_; omega) | (with_reducible refine mulQ ?_; omega) | (with_reducible refine shlQL ?_; omega) | (with_reducible refine shlQ ?_; omega) | (with_reducible refine remL ?_; decide) | (with_reducible refine shrL ?_; decide) | (with_reducible refine remN ?_; omega) | (with_reducible refine toU64 ?_ Uw Uq; omega) | (with_reducible exact toU32 Uq Uw) | exact bin_lss | exact bin_gtr | exact bin_eql | exact bin_neq | exact bin_leq | exact bin_geq | exact lenV_sl Us | exact ext_0 | exact ext_1 | exact ext_2 | exact pick_t | exact pick_f | exact bin_add64 (by omega) | exact bin_sub64 (by omega) | exact un_not | exact cv_int Uq Uw | exact cv_int Uw Uq | exact bin_add | exact bin_sub | exact bin_mul | rfl)) rfl ?_ | refine Ev.prim (by (first | with_reducible exact lssL | with_reducible exact gtrL | with_reducible exact eqlL | with_reducible exact neqL | with_reducible exact leqL | with_reducible exact geqL | with_reducible exact lssN | with_reducible exact gtrN | with_reducible exact eqlN | with_reducible exact neqN | with_reducible exact leqN | with_reducible exact geqN | (with_reducible refine addL ?_; omega) | (with_reducible refine subL ?_; omega) | (with_reducible refine quoL ?_; omega) | (with_reducible refine mulL ?_; omega) | (with_reducible refine lmul ?_; omega) | (with_reducible refine addN ?_; omega) | (with_reducible refine subN ?_; omega) | (with_reducible refine quoN ?_; omega) | (with_reducible refine mulN ?_; omega) | (with_reducible refine addQ ?_; omega) | (with_reducible refine subQ ?_; omega) | (with_reducible refine mulQ ?_; omega) | (with_reducible refine shlQL ?_; omega) | (with_reducible refine shlQ ?_; omega) | (with_reducible refine remL ?_; decide) | (with_reducible refine shrL ?_; decide) | (with_reducible refine remN ?_; omega) | (with_reducible refine toU64 ?_ Uw Uq; omega) | (with_reducible exact toU32 Uq Uw) | exact bin_lss | exact bin_gtr | exact bin_eql | exact bin_neq | exact bin_leq | exact bin_geq | exact lenV_sl Us | exact ext_0 | exact ext_1 | exact ext_2 | exact pick_t | exact pick_f | exact bin_add64 (by omega) | exact bin_sub64 (by omega) | exact un_not | exact cv_int Uq Uw | exact cv_int Uw Uq | exact bin_add | exact bin_sub | exact bin_mul | rfl)) ?_)
    exact Ev.done hS3 ⟨q, r, rfl, hq, hr⟩
end Go.AM.Y
namespace Go.AM
theorem amgm (a b : Nat) : 4 * (a * b) ≤ (a + b) * (a + b) := by
  rcases Nat.le_total a b with h | h
  · obtain ⟨d, rfl⟩ : ∃ d, b = a + d := ⟨b - a, by omega⟩
    have : (a + (a + d)) * (a + (a + d)) = 4 * (a * (a + d)) + d * d := by grind
    omega
  · obtain ⟨d, rfl⟩ : ∃ d, a = b + d := ⟨a - b, by omega⟩
    have : (b + d + b) * (b + d + b) = 4 * ((b + d) * b) + d * d := by grind
    omega
theorem newton_above {A s : Nat} (hs : 0 < s) : A < ((s + A / s) / 2 + 1) * ((s + A / s) / 2 + 1) := by
  have h1 : A < s * (A / s + 1) := by
    have := Nat.div_add_mod A s
    have := Nat.mod_lt A hs
    rw [Nat.mul_add]; omega
  generalize A / s = q at *
  have h2 : s + (q + 1) ≤ 2 * ((s + q) / 2 + 1) := by omega
  generalize (s + q) / 2 + 1 = t at *
  have h3 := amgm s (q + 1)
  have h4 : (s + (q + 1)) * (s + (q + 1)) ≤ (2 * t) * (2 * t) := Nat.mul_le_mul h2 h2
  have h5 : (2 * t) * (2 * t) = 4 * (t * t) := by grind
  omega
theorem newton_stop {A s : Nat} (hs : 0 < s) (h : s ≤ (s + A / s) / 2) : s * s ≤ A := by
  have : s ≤ A / s := by omega
  exact (Nat.le_div_iff_mul_le hs).mp this
theorem newton_first {A : Nat} : A < (2 ^ ((nbits A + 1) / 2) + 1) * (2 ^ ((nbits A + 1) / 2) + 1) := by
  have h := lt_nbits_self A
  have h1 : 2 ^ nbits A ≤ 2 ^ ((nbits A + 1) / 2) * 2 ^ ((nbits A + 1) / 2) := by
    rw [← Nat.pow_add]; exact Nat.pow_le_pow_right (by decide) (by omega)
  generalize 2 ^ ((nbits A + 1) / 2) = t at *
  have : t * t ≤ (t + 1) * (t + 1) := Nat.mul_le_mul (by omega) (by omega)
  omega
end Go.AM
set_option linter.unusedVariables false
set_option linter.unusedSimpArgs false
set_option maxRecDepth 100000
namespace Go.AM.Y
open Go Go.AM Go.Proofs
attribute [local irreducible] run bin un ld st box newV mkS fldA fld ixA ix slc slc3 build buildS cv cvS ap cpy lenV gOp pickV b2 aIf aChk evalK resume iterD Option.bind

theorem sqrt_loop {H0 B0 : AH} {A K : Nat} {a : Value} (hA : A ≠ 0) (hK : K < 68719476736) (hm : A < 4294967296 ^ K) :
    ∀ (s : Nat) (B H : AH) (v : Value), RdN B a (limbs A) → RdN B v (limbs s) → A < (s + 1) * (s + 1) → s < 4294967296 ^ K → St H0 B0 B [] H →
    Ev (fun k n => f71_L0 k a v n H) (fun o => ∃ s B H v, o = (.exit 0, f71_X_L0 a v, H) ∧ RdN B a (limbs A) ∧ RdN B v (limbs s) ∧ s * s ≤ A ∧ A < (s + 1) * (s + 1) ∧ s < 4294967296 ^ K ∧ St H0 B0 B [] H) := by
  intro s
  induction s using Nat.strongRecOn with
  | ind s ih =>
    intro B H v ha hv hs hl hS
    have hAl := limbs_length_le hm
    have hll := limbs_length_le hl
    have hs0 : 0 < s := by
      rcases Nat.eq_zero_or_pos s with h | h
      · subst h; omega
      · exact h
    refine Ev.succ (fun k n => f71_L0_succ k _ _ n H) ?_
    refine Ev.call hS (DivMod_spec ha hv (by omega) (by omega) (by rw [val_limbs]; omega)) fun w B1 H1 hm1 hS1 h1 => ?_
    obtain ⟨q, r, rfl, hq, _⟩ := h1
    rw [val_limbs, val_limbs] at hq
    have hqA : A / s ≤ A := Nat.div_le_self ..
    have hql := limbs_length_mono hqA
    repeat (first | refine Ev.some2 ?_ | refine Ev.some1 ?_ | refine Ev.gDo ?_ | refine Ev.gSkipT ?_ | refine Ev.gSkipF ?_ | refine Ev.gUndef ?_ | refine Ev.gCall ?_ | refine Ev.tt ?_ | refine Ev.ff ?_ | refine Ev.gPrim (by (first | with_reducible exact lssL | with_reducible exact gtrL | with_reducible exact eqlL | with_reducible exact neqL | with_reducible exact leqL | with_reducible exact geqL | with_reducible exact lssN | with_reducible exact gtrN | with_reducible exact eqlN | with_reducible exact neqN | with_reducible exact leqN | with_reducible exact geqN | (with_reducible refine addL ?_; omega) | (with_reducible refine subL ?_; omega) | (with_reducible refine quoL ?_; omega) | (with_reducible refine mulL ?_; omega) | (with_reducible refine lmul ?_; omega) | (with_reducible refine addN ?_; omega) | (with_reducible refine subN ?_; omega) | (with_reducible refine quoN ?_; omega) | (with_reducible refine mulN ?_; omega) | (with_reducible refine addQ ?_; omega) | (with_reducible refine subQ ?_; omega) | (with_reducible refine mulQ ?_; omega) | (with_reducible refine shlQL ?_; omega) | (with_reducible refine shlQ ?_; omega) | (with_reducible refine remL ?_; decide) | (with_reducible refine shrL ?_; decide) | (with_reducible refine remN ?_; omega) | (with_reducible refine toU64 ?_ Uw Uq; omega) | (with_reducible exact toU32 Uq Uw) | exact bin_lss | exact bin_gtr | exact bin_eql | exact bin_neq | exact bin_leq | exact bin_geq | exact lenV_sl Us | exact ext_0 | exact ext_1 | exact ext_2 | exact pick_t | exact pick_f | exact bin_add64 (by omega) | exact bin_sub64 (by omega) | exact un_not | exact cv_int Uq Uw | exact cv_int Uw Uq | exact bin_add | exact bin_sub | exact bin_mul | rfl)) rfl ?_ | refine Ev.prim (by (first | with_reducible exact lssL | with_reducible exact gtrL | with_reducible exact eqlL | with_reducible exact neqL | with_reducible exact leqL | with_reducible exact geqL | with_reducible exact lssN | with_reducible exact gtrN | with_reducible exact eqlN | with_reducible exact neqN | with_reducible exact leqN | with_reducible exact geqN | (with_reducible refine addL ?_; omega) | (with_reducible refine subL ?_; omega) | (with_reducible refine quoL ?_; omega) | (with_reducible refine mulL ?_; omega) | (with_reducible refine lmul ?_; omega) | (with_reducible refine addN ?_; omega) | (with_reducible refine subN ?_; omega) | (with_reducible refine quoN ?_; omega) | (with_reducible refine mulN ?_; omega) | (with_reducible refine addQ ?_; omega) | (with_reducible refine subQ ?_; omega) | (with_reducible refine mulQ ?_; omega) | (with_reducible refine shlQL ?_; omega) | (with_reducible refine shlQ ?_; omega) | (with_reducible refine remL ?_; decide) | (with_reducible refine shrL ?_; decide) | (with_reducible refine remN ?_; omega) | (with_reducible refine toU64 ?_ Uw Uq; omega) | (with_reducible exact toU32 Uq Uw) | exact bin_lss | exact bin_gtr | exact bin_eql | exact bin_neq | exact bin_leq | exact bin_geq | exact lenV_sl Us | exact ext_0 | exact ext_1 | exact ext_2 | exact pick_t | exact pick_f | exact bin_add64 (by omega) | exact bin_sub64 (by omega) | exact un_not | exact cv_int Uq Uw | exact cv_int Uw Uq | exact bin_add | exact bin_sub | exact bin_mul | rfl)) ?_)
    refine Ev.call hS1 (Add_spec (hv.mono hm1) hq (by omega) (by omega)) fun t B2 H2 hm2 hS2 h2 => ?_
    rw [val_limbs, val_limbs] at h2
    have hsl : (limbs (s + A / s)).length ≤ K + 1 := by
      refine limbs_length_le ?_
      rw [Nat.pow_succ]
      generalize 4294967296 ^ K = p at *
      omega
    refine Ev.call hS2 (Shr_spec (n := 1) h2 (by omega) (by decide)) fun u B3 H3 hm3 hS3 h3 => ?_
    rw [val_limbs, Nat.pow_one] at h3
    have hnx := newton_above (A := A) hs0
    have hnl : (limbs ((s + A / s) / 2)).length ≤ K + 1 := by
      have := limbs_length_mono (Nat.div_le_self (s + A / s) 2); omega
    have hv3 := (hv.mono hm1).mono (hm2.trans hm3)
    have ha3 := (ha.mono hm1).mono (hm2.trans hm3)
    refine Ev.callU (Cmp_spec h3 hv3 (by omega) (by omega) hS3.lel) ?_
    rintro _ rfl
    rw [val_limbs, val_limbs]
    refine Ev.prim bin_geq ?_
    refine Ev.ifp (fun h => ?_) fun h => ?_
    · have h' : s ≤ (s + A / s) / 2 := by
        have : ¬ cmpN ((s + A / s) / 2) s < 0 := by omega
        rw [cmpN_lt] at this; omega
      exact Ev.ret ⟨s, B3, H3, v, rfl, ha3, hv3, newton_stop hs0 h', hs, hl, hS3⟩
    · have h' : (s + A / s) / 2 < s := cmpN_lt.mp (by omega)
      exact ih _ h' B3 H3 u ha3 h3 hnx (Nat.lt_trans h' hl) hS3
theorem Sqrt_spec {B H : AH} {xs : List Nat} {a : Value} (ha : RdN B a xs) (hm : xs.length < 2147483648) (hb : nbits (val xs) ≤ 199999) (hL : Le B H) :
    Ev (fun k _ => rn k 71 [a] H) (An B H fun B' v => ∃ q r s, v = .tuple #[q, r] ∧ RdN B' q (limbs s) ∧ RdN B' r (limbs (val xs - s * s)) ∧ s * s ≤ val xs ∧ val xs < (s + 1) * (s + 1)) := by
  refine Ev.fn (fun k => f71_eq k _ H) ?_
  have hx := limbs_length_le (val_lt ha.2)
  refine Ev.call (St.start hL) (Trim_spec (by omega) ha) fun a B1 H1 hm1 hS1 ha => ?_
  generalize val xs = A at *
  refine Ev.prim (ha.lenN Ew) ?_
  refine Ev.prim eqlL ?_
  refine Ev.ifp (fun h => ?_) fun h => ?_
  · have : A = 0 := limbs_eq_nil.mp (List.length_eq_zero_iff.mp h)
    subst this
    exact Ev.done hS1 ⟨_, _, 0, rfl, by rw [limbs_zero]; exact RdN.nil, by rw [limbs_zero]; exact RdN.nil, by decide, by decide⟩
  have hA : A ≠ 0 := fun e => h (by rw [e, limbs_zero]; rfl)
  obtain ⟨K, hK⟩ : ∃ K, K = 6250 := ⟨_, rfl⟩
  have hAK : A < 4294967296 ^ K := by
    rw [show (4294967296 : Nat) = 2 ^ 32 by decide, ← Nat.pow_mul]
    exact Nat.lt_of_lt_of_le (lt_nbits_self A) (Nat.pow_le_pow_right (by decide) (by omega))
  have hsK : 2 ^ ((nbits A + 1) / 2) < 4294967296 ^ K := by
    rw [show (4294967296 : Nat) = 2 ^ 32 by decide, ← Nat.pow_mul]
    exact Nat.pow_lt_pow_right (by decide) (by omega)
  have h1l : (limbs 1).length ≤ 1 := limbs_length_le (k := 1) (by decide)
  refine Ev.call hS1 (From_spec (n := 1) (by decide)) fun v B2 H2 hm2 hS2 hv => ?_
  refine Ev.callU (Bits_spec (by omega) (ha.mono hm2) hS2.lel) ?_
  rintro _ rfl
  rw [val_limbs]
  refine Ev.prim (addL (by omega)) ?_
  refine Ev.prim (quoL ⟨by decide, by omega⟩) ?_
  refine Ev.call hS2 (Shl_spec (n := (nbits A + 1) / 2) hv (by omega) (by omega)) fun w B3 H3 hm3 hS3 h3 => ?_
  obtain ⟨w, rfl, hw⟩ := h3
  rw [val_limbs, Nat.one_mul] at hw
  refine Ev.prim ext_0 ?_
  refine Ev.prim ext_1 ?_
  refine Ev.bind (Ev.loop (sqrt_loop hA (K := K) (by omega) hAK _ B3 H3 w (ha.mono (hm2.trans hm3)) hw newton_first hsK hS3)) ?_
  rintro _ ⟨s, B4, H4, v, rfl, ha4, hv4, hs1, hs2, hs3, hS4⟩
  have hsl := limbs_length_le hs3
  refine Ev.eq (fun k _ => f71_A0_x0 k _ _ H4) ?_
  refine Ev.call hS4 (Mul_spec hv4 hv4 (by omega) (by omega)) fun m B5 H5 hm5 hS5 h5 => ?_
  rw [val_limbs] at h5
  have hml := limbs_length_mono hs1
  refine Ev.call hS5 (Sub_spec (ha4.mono hm5) h5 (by omega) (by omega)) fun m B6 H6 hm6 hS6 h6 => ?_
  rw [val_limbs, val_limbs] at h6
  rcases h6 with ⟨h6, _⟩ | ⟨_, r, rfl, h6⟩
  · omega
  refine Ev.prim ext_0 ?_
  refine Ev.prim ext_1 ?_
  exact Ev.done hS6 ⟨v, r, s, rfl, hv4.mono (hm5.trans hm6), h6, hs1, hs2⟩
end Go.AM.Y
set_option linter.unusedVariables false
namespace Go.AM
variable {R : Type} {P : Program} {t : TypeId}
theorem Ev.boxA {H0 B0 B L H} {l : List Value} {f : Nat → Nat → Value → AH → Option R} {Q : R → Prop} (hS : St H0 B0 B L H) (hv : l.all isCell = true)
    (h : ∀ b H', St H0 B0 B ((b, ⟨l, t, .fix⟩) :: L) H' → Ev (fun k n => f k n (ptr b 0) H') Q) : Ev (fun k n => Go.AM.b2 (Go.AM.box t H (.agg ⟨l⟩)) (f k n)) Q :=
  Ev.prim2 (by unfold Go.AM.box; rw [if_pos (show okCells (.agg ⟨l⟩) = true from hv)]; rfl) (h H.length _ (hS.mkB' l t .fix))
theorem cells_one {v : Value} (h : isCell v = true) : v.cells.toList = [v] := by
  cases v with
  | agg cs => exact absurd h (by simp [isCell])
  | tuple cs => exact absurd h (by simp [isCell])
  | _ => rfl
theorem Ev.newA {H0 B0 B L H} {l : List Value} {f : Nat → Nat → Value → AH → Option R} {Q : R → Prop} (hz : zeroT P t = some (.agg ⟨l⟩)) (hS : St H0 B0 B L H) (hv : l.all isCell = true)
    (h : ∀ b H', St H0 B0 B ((b, ⟨l, t, .fix⟩) :: L) H' → Ev (fun k n => f k n (ptr b 0) H') Q) : Ev (fun k n => Go.AM.b2 (Go.AM.newV P t H) (f k n)) Q := by
  have e : Go.AM.newV P t H = Go.AM.box t H (.agg ⟨l⟩) := by unfold Go.AM.newV; rw [hz]; rfl
  rw [e]; exact Ev.boxA hS hv h
theorem RdN.cell {B : AH} {v : Value} {xs : List Nat} (h : RdN B v xs) : isCell v = true := by
  rcases h.1 with ⟨rfl, _⟩ | ⟨b, off, cap, rfl, _⟩ <;> rfl
end Go.AM
set_option linter.unusedVariables false
namespace Go.AM
/-- How often two divides it. -/
def ctz (n : Nat) : Nat := if h : n = 0 then 0 else if n % 2 = 1 then 0 else ctz (n / 2) + 1
termination_by n
decreasing_by omega
theorem ctz_odd {n : Nat} (h : n % 2 = 1) : ctz n = 0 := by
  unfold ctz; rw [dif_neg (by omega), if_pos h]
theorem ctz_even {n : Nat} (h : n ≠ 0) : ctz (2 * n) = ctz n + 1 := by
  conv => lhs; unfold ctz
  rw [dif_neg (by omega), if_neg (by omega), show 2 * n / 2 = n by omega]
theorem ctz_mul {q : Nat} (hq : q ≠ 0) (k : Nat) : ctz (2 ^ k * q) = ctz q + k := by
  induction k with
  | zero => simp
  | succ k ih =>
    have hp : 2 ^ k * q ≠ 0 := Nat.mul_ne_zero (Nat.pos_iff_ne_zero.mp (Nat.pow_pos (by decide))) hq
    rw [Nat.pow_succ, Nat.mul_comm (2 ^ k) 2, Nat.mul_assoc, ctz_even hp, ih]; omega
theorem ctz_spec {n : Nat} (h : n ≠ 0) : 2 ^ ctz n * (n / 2 ^ ctz n) = n ∧ (n / 2 ^ ctz n) % 2 = 1 := by
  induction n using Nat.strongRecOn with
  | ind n ih =>
    by_cases ho : n % 2 = 1
    · rw [ctz_odd ho]; simp [ho]
    · obtain ⟨m, rfl⟩ : ∃ m, n = 2 * m := ⟨n / 2, by omega⟩
      have hm : m ≠ 0 := by omega
      obtain ⟨h1, h2⟩ := ih m (by omega) hm
      rw [ctz_even hm, Nat.pow_succ, Nat.mul_comm (2 ^ ctz m) 2, Nat.mul_div_mul_left _ _ (by decide), Nat.mul_assoc, h1]
      exact ⟨rfl, h2⟩
theorem low_zero {n j : Nat} (h : ∀ t, t < j → n.testBit t = false) : n % 2 ^ j = 0 := by
  apply Nat.eq_of_testBit_eq
  intro i
  rw [Nat.testBit_mod_two_pow, Nat.zero_testBit]
  by_cases hi : i < j
  · rw [h i hi, Bool.and_false]
  · rw [decide_eq_false hi, Bool.false_and]
theorem ctz_of {n j : Nat} (h : ∀ t, t < j → n.testBit t = false) (hj : n.testBit j = true) : ctz n = j := by
  have h1 := low_zero h
  have h2 := Nat.div_add_mod n (2 ^ j)
  rw [h1, Nat.add_zero] at h2
  have h3 : n / 2 ^ j % 2 = 1 := by
    have := Nat.testBit_eq_decide_div_mod_eq (x := n) (i := j)
    rw [hj] at this
    exact of_decide_eq_true this.symm
  rw [← h2, ctz_mul (by omega), ctz_odd h3]; omega
theorem ctz_le_nbits {n : Nat} (h : n ≠ 0) : ctz n < nbits n := by
  refine lt_nbits.mpr ?_
  have h1 := (ctz_spec h).1
  have h2 := (ctz_spec h).2
  have : 1 ≤ n / 2 ^ ctz n := by generalize n / 2 ^ ctz n = q at h2; omega
  calc 2 ^ ctz n = 2 ^ ctz n * 1 := by omega
    _ ≤ 2 ^ ctz n * (n / 2 ^ ctz n) := Nat.mul_le_mul_left _ this
    _ = n := h1
def sg (neg : Bool) (n : Nat) : Int := if neg then -(n : Int) else n
theorem sg_neg {neg : Bool} {n : Nat} : (neg && decide (n ≠ 0)) = decide (sg neg n < 0) := by
  unfold sg; cases neg with
  | false => rw [Bool.false_and]; exact (decide_eq_false (by simp)).symm
  | true => rw [Bool.true_and]; exact decide_eq_decide.mpr (by simp; omega)
theorem sg_abs {neg : Bool} {n : Nat} : (sg neg n).natAbs = n := by unfold sg; cases neg <;> simp
def rightI (neg : Bool) (xs : List Nat) : Bool := if xs.length = 0 then !neg else decide (xs.getD (xs.length - 1) 0 ≠ 0)
theorem sg_mul {c : Bool} {x k : Nat} : sg c (x * k) = sg c x * (k : Int) := by
  unfold sg; cases c <;> simp [Int.natCast_mul, Int.neg_mul]
structure Dy where
  neg : Bool
  mag : List Nat
  e : Int
theorem nbits_val {xs : List Nat} (h : small xs) : nbits (val xs) ≤ 32 * xs.length := by
  refine nbits_le.mpr ?_
  have := val_lt h
  rwa [show (4294967296 : Nat) = 2 ^ 32 by decide, ← Nat.pow_mul] at this
def inRangeD (d : Dy) : Bool := decide (d.mag.length = 0 ∨ ((-65536 ≤ d.e + nbits (val d.mag) ∧ d.e + nbits (val d.mag) ≤ 65536) ∧ (-131072 ≤ d.e ∧ d.e ≤ 131072)) ∧ nbits (val d.mag) ≤ 262144)
def rightD (d : Dy) : Bool := rightI d.neg d.mag && decide (if d.mag.length = 0 then d.e = 0 else d.mag.getD 0 0 % 2 = 1 ∧ (-131072 ≤ d.e ∧ d.e ≤ 131072))
structure Fit (d : Dy) : Prop where
  len : d.mag.length < 34359738368
  lo : -4611686018427387904 ≤ d.e
  hi : d.e < 4611686018427387904
abbrev zeroDy : Dy := ⟨false, [], 0⟩
def toldR (e0 : Int) (d : Dy) : Dy × Int := if e0 ≠ 0 then (zeroDy, e0) else if inRangeD d = true then (d, 0) else (zeroDy, 4)
def canon (z e : Int) : Dy := if z = 0 then zeroDy else ⟨decide (z < 0), limbs (z.natAbs / 2 ^ ctz z.natAbs), e + ctz z.natAbs⟩
theorem limbs_shl_len {x k : Nat} : (limbs (x * 2 ^ k)).length ≤ (limbs x).length + k / 32 + 1 := by
  refine limbs_length_le ?_
  have h1 := val_lt (small_limbs x)
  rw [val_limbs, show (4294967296 : Nat) = 2 ^ 32 by decide, ← Nat.pow_mul] at h1
  rw [show (4294967296 : Nat) = 2 ^ 32 by decide, ← Nat.pow_mul]
  calc x * 2 ^ k < 2 ^ (32 * (limbs x).length) * 2 ^ k := Nat.mul_lt_mul_of_pos_right h1 (Nat.pow_pos (by decide))
    _ = 2 ^ (32 * (limbs x).length + k) := (Nat.pow_add ..).symm
    _ ≤ 2 ^ (32 * ((limbs x).length + k / 32 + 1)) := Nat.pow_le_pow_right (by decide) (by omega)
def dz (d : Dy) : Int := sg d.neg (val d.mag)
theorem sg_int (z : Int) : sg (decide (z < 0)) z.natAbs = z := by
  unfold sg; by_cases h : z < 0
  · rw [decide_eq_true h]; simp; omega
  · rw [decide_eq_false h]; simp; omega
theorem canon_fit {z e : Int} {l : Nat} (hl : (limbs z.natAbs).length ≤ l) (hl2 : l < 34359738368) (he : -2305843009213693952 ≤ e ∧ e ≤ 2305843009213693952) : Fit (canon z e) := by
  unfold canon
  by_cases h : z = 0
  · rw [if_pos h]; exact ⟨by simp, by decide, by decide⟩
  · rw [if_neg h]
    have hz : z.natAbs ≠ 0 := by omega
    have h1 := ctz_le_nbits hz
    have h2 := nbits_val (small_limbs z.natAbs)
    rw [val_limbs] at h2
    have h3 : (limbs (z.natAbs / 2 ^ ctz z.natAbs)).length ≤ (limbs z.natAbs).length := limbs_length_mono (Nat.div_le_self _ _)
    exact ⟨by simp only; omega, by simp only; omega, by simp only; omega⟩
theorem right_bounds {d : Dy} (h : rightD d = true) : -131072 ≤ d.e ∧ d.e ≤ 131072 := by
  unfold rightD at h
  rw [Bool.and_eq_true, decide_eq_true_eq] at h
  have h := h.2
  split at h
  · omega
  · exact h.2
theorem add_len {X Y : Int} {a b : Nat} (h1 : (limbs X.natAbs).length ≤ a) (h2 : (limbs Y.natAbs).length ≤ b) : (limbs (X + Y).natAbs).length ≤ a + b + 1 := by
  refine limbs_length_le ?_
  have e1 := val_lt (small_limbs X.natAbs)
  have e2 := val_lt (small_limbs Y.natAbs)
  rw [val_limbs] at e1 e2
  have e3 : 4294967296 ^ (limbs X.natAbs).length ≤ 4294967296 ^ (a + b) := Nat.pow_le_pow_right (by decide) (by omega)
  have e4 : 4294967296 ^ (limbs Y.natAbs).length ≤ 4294967296 ^ (a + b) := Nat.pow_le_pow_right (by decide) (by omega)
  rw [Nat.pow_succ]
  generalize 4294967296 ^ (a + b) = P at *
  omega
theorem zeroFit : Fit zeroDy := ⟨by simp, by decide, by decide⟩
theorem told_one : toldR 1 zeroDy = (zeroDy, 1) := rfl
theorem told_three : toldR 3 zeroDy = (zeroDy, 3) := rfl
theorem told_zero : toldR 0 zeroDy = (zeroDy, 0) := rfl
def cutD (neg : Bool) (m : Nat) (e : Int) (sticky : Bool) (p : Nat) (away : Bool) : Dy :=
  canon (sg neg (if ((sticky || decide (m % 2 ^ (nbits m - p) ≠ 0)) && away) = true then m / 2 ^ (nbits m - p) + 1 else m / 2 ^ (nbits m - p))) (e + ((nbits m - p : Nat) : Int))
theorem mod_step {m j : Nat} (h : m % 2 ^ j = 0) : m % 2 ^ (j + 1) ≠ 0 ↔ m.testBit j = true := by
  have h1 : m % 2 ^ (j + 1) = m % 2 ^ j + 2 ^ j * (m / 2 ^ j % 2) := Nat.mod_pow_succ
  rw [h1, h, Nat.zero_add, Nat.testBit_eq_decide_div_mod_eq, decide_eq_true_eq]
  have := Nat.pow_pos (n := j) (show 0 < 2 by decide)
  constructor
  · intro hh
    have : m / 2 ^ j % 2 ≠ 0 := fun e => hh (by rw [e, Nat.mul_zero])
    generalize m / 2 ^ j = q at *
    omega
  · intro hh; rw [hh]; omega
theorem mod_more {m j k : Nat} (h : m % 2 ^ j ≠ 0) (hk : j ≤ k) : m % 2 ^ k ≠ 0 := by
  intro h0
  have hd : 2 ^ k ∣ m := Nat.dvd_of_mod_eq_zero h0
  exact h (Nat.mod_eq_zero_of_dvd (Nat.dvd_trans (Nat.pow_dvd_pow 2 hk) hd))
theorem right_limbs {d : Dy} (h : rightD d = true) (hs : small d.mag) : d.mag = limbs (val d.mag) := by
  unfold rightD rightI at h
  rw [Bool.and_eq_true] at h
  have h := h.1
  by_cases h0 : d.mag.length = 0
  · have : d.mag = [] := List.length_eq_zero_iff.mp h0
    rw [this]; exact limbs_zero.symm
  · rw [if_neg h0] at h
    have h := of_decide_eq_true h
    refine (limbs_val hs fun y hy => ?_).symm
    rw [List.getLast?_eq_getElem?] at hy
    rw [List.getD_eq_getElem?_getD, hy] at h
    exact h
theorem sg_len {neg : Bool} {n : Nat} : (limbs (sg neg n).natAbs).length = (limbs n).length := by rw [sg_abs]
theorem succ_len (q : Nat) : (limbs (q + 1)).length ≤ (limbs q).length + 1 := by
  refine limbs_length_le ?_
  have := val_lt (small_limbs q)
  rw [val_limbs] at this
  rw [Nat.pow_succ]
  generalize 4294967296 ^ (limbs q).length = PP at *
  omega
theorem cutD_fit {neg sticky away : Bool} {m p : Nat} {e : Int} (hl : (limbs m).length < 17179869184) (he : -1152921504606846976 ≤ e ∧ e ≤ 1152921504606846976) : Fit (cutD neg m e sticky p away) := by
  have hnb := nbits_val (small_limbs m)
  rw [val_limbs] at hnb
  unfold cutD
  refine canon_fit (l := (limbs m).length + 1) ?_ (by omega) (by omega)
  rw [sg_len]
  have h1 := limbs_length_mono (Nat.div_le_self m (2 ^ (nbits m - p)))
  split
  · exact Nat.le_trans (succ_len _) (by omega)
  · omega
def roundR (x : Dy) (p : Int) (up : Bool) : Dy × Int :=
  if rightD x = true ∧ 2 ≤ p ∧ p ≤ 400 then toldR 0 (cutD x.neg (val x.mag) x.e false p.toNat (up != x.neg)) else (zeroDy, 1)
def divK (x y : Dy) (p : Nat) : Nat := p + 2 + nbits (val y.mag) - nbits (val x.mag)
def divD (x y : Dy) (p : Nat) (away : Bool) : Dy :=
  cutD (x.neg != y.neg) (val x.mag * 2 ^ divK x y p / val y.mag) (x.e - y.e - (divK x y p : Nat)) (decide (val x.mag * 2 ^ divK x y p % val y.mag ≠ 0)) p (away != (x.neg != y.neg))
def divR (x y : Dy) (p : Int) (away : Bool) : Dy × Int :=
  if ((rightD x && rightD y) = true ∧ 2 ≤ p ∧ p ≤ 400) then (if y.mag.length = 0 then (zeroDy, 3) else if x.mag.length = 0 then (zeroDy, 0) else toldR 0 (divD x y p.toNat away)) else (zeroDy, 1)
theorem val_ne {xs : List Nat} (h : xs = limbs (val xs)) (h0 : xs.length ≠ 0) : val xs ≠ 0 := by
  intro e; rw [e, limbs_zero] at h; rw [h] at h0; exact h0 rfl
def sameD (x y : Dy) : Prop := x.e = y.e ∧ x.neg = y.neg ∧ x.mag = y.mag
instance {x y : Dy} : Decidable (sameD x y) := inferInstanceAs (Decidable (_ ∧ _ ∧ _))
/-- The whole root. -/
theorem isq_ex (n : Nat) : ∃ s, s * s ≤ n ∧ n < (s + 1) * (s + 1) := by
  induction n with
  | zero => exact ⟨0, by decide, by decide⟩
  | succ n ih =>
    obtain ⟨s, h1, h2⟩ := ih
    by_cases h : n + 1 < (s + 1) * (s + 1)
    · exact ⟨s, by omega, h⟩
    · refine ⟨s + 1, by omega, ?_⟩
      have : (s + 1 + 1) * (s + 1 + 1) = (s + 1) * (s + 1) + 2 * s + 3 := by
        simp only [Nat.add_mul, Nat.mul_add, Nat.mul_one, Nat.one_mul]; omega
      omega
noncomputable def isq (n : Nat) : Nat := Classical.choose (isq_ex n)
theorem isq_spec (n : Nat) : isq n * isq n ≤ n ∧ n < (isq n + 1) * (isq n + 1) := Classical.choose_spec (isq_ex n)
theorem isq_eq {n s : Nat} (h1 : s * s ≤ n) (h2 : n < (s + 1) * (s + 1)) : isq n = s := by
  obtain ⟨h3, h4⟩ := isq_spec n
  rcases Nat.lt_trichotomy (isq n) s with h | h | h
  · have : (isq n + 1) * (isq n + 1) ≤ s * s := Nat.mul_le_mul h h
    omega
  · exact h
  · have : (s + 1) * (s + 1) ≤ isq n * isq n := Nat.mul_le_mul h h
    omega
/-- How far the digits are moved ahead of a root. -/
def rk (n : Nat) (e : Int) (p : Nat) : Nat := (2 * p + 4 - n) + ((e - ((2 * p + 4 - n : Nat) : Int)) % 2).toNat
theorem rk_even (n : Nat) (e : Int) (p : Nat) : ∃ j : Int, e - (rk n e p : Nat) = 2 * j := by
  unfold rk
  exact ⟨(e - (rk n e p : Nat)) / 2, by unfold rk; omega⟩
noncomputable def sqrtD (x : Dy) (p : Nat) (away : Bool) : Dy :=
  cutD false (isq (val x.mag * 2 ^ rk (nbits (val x.mag)) x.e p)) ((x.e - (rk (nbits (val x.mag)) x.e p : Nat)) / 2)
    (decide (val x.mag * 2 ^ rk (nbits (val x.mag)) x.e p - isq (val x.mag * 2 ^ rk (nbits (val x.mag)) x.e p) * isq (val x.mag * 2 ^ rk (nbits (val x.mag)) x.e p) ≠ 0)) p away
noncomputable def sqrtR (x : Dy) (p : Int) (away : Bool) : Dy × Int :=
  if rightD x = true ∧ 2 ≤ p ∧ p ≤ 400 then (if x.neg = true then (zeroDy, 3) else if x.mag.length = 0 then (zeroDy, 0) else toldR 0 (sqrtD x p.toNat away)) else (zeroDy, 1)
end Go.AM
