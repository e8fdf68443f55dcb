/-
  Facts of the abstract evaluator and of the functions that the law reaches, part 2. Conditions: none.
-/
import Derived.Laws.BytesString
import Derived.Laws.CopyRow
import Derived.Test.YtffdllmhlaecgaaG1DyadRounds
set_option linter.unusedVariables false
set_option linter.unusedSimpArgs false
set_option linter.unnecessarySimpa false
set_option exponentiation.threshold 200000
set_option maxRecDepth 100000
set_option linter.unusedVariables false
set_option linter.unusedSimpArgs false
set_option maxRecDepth 100000
namespace Go.AM.Y
open Go Go.AM Go.Proofs
attribute [local irreducible] run bin un ld st box newV mkS fldA fld ixA ix slc slc3 build buildS cv cvS ap cpy lenV gOp pickV b2 aIf aChk evalK resume iterD Option.bind

theorem fill2 {v w a b : Value} (hv : isCell v = true) (hw : isCell w = true) : fillB (fun i => [(0, 1), (1, 1)][i]?) [a, b] [(0, v), (1, w)] = some [v, w] := by
  have h1 := cells_one hv
  have h2 := cells_one hw
  simp [fillB, size_cells h1, size_cells h2, okCells_of hv, okCells_of hw, h1, h2, spl]
theorem fill1 {v a : Value} (hv : isCell v = true) : fillB (fun i => [(0, 1)][i]?) [a] [(0, v)] = some [v] := by
  have h1 := cells_one hv
  simp [fillB, size_cells h1, okCells_of hv, h1, spl]
theorem buildInt {v w : Value} (hv : isCell v = true) (hw : isCell w = true) : build Try.prog 24 [(0, v), (1, w)] = some (.agg #[v, w]) := by
  have h : build Try.prog 24 [(0, v), (1, w)] = (fillB (fun i => [(0, 1), (1, 1)][i]?) [.bool false, .slice none 0 0] [(0, v), (1, w)]).map fun cs => .agg cs.toArray := by kernel_rfl
  rw [h, fill2 hv hw]; rfl
theorem buildSize {v : Value} (hv : isCell v = true) : build Try.prog 104 [(0, v)] = some (.agg #[v]) := by
  have h : build Try.prog 104 [(0, v)] = (fillB (fun i => [(0, 1)][i]?) [.slice none 0 0] [(0, v)]).map fun cs => .agg cs.toArray := by kernel_rfl
  rw [h, fill1 hv]; rfl
theorem buildSigned {v w : Value} (hv : isCell v = true) (hw : isCell w = true) : build Try.prog 106 [(0, .agg #[v]), (1, w)] = some (.agg #[v, w]) := by
  have h : build Try.prog 106 [(0, .agg #[v]), (1, w)] = (fillB (fun i => [(0, 1), (1, 1)][i]?) [.slice none 0 0, .bool false] [(0, .agg #[v]), (1, w)]).map fun cs => .agg cs.toArray := by kernel_rfl
  have h2 := cells_one hw
  have e1 : (Value.agg #[v]).cells.toList = [v] := rfl
  have e2 : okCells (.agg #[v]) = true := by simp [okCells, hv]
  rw [h]
  simp [fillB, show (Value.agg #[v]).cells.size = 1 from rfl, e1, e2, size_cells h2, okCells_of hw, h2, spl]
theorem fldInt0 {b o : Nat} : fldA Try.prog 24 (ptr b o) 0 = some (ptr b o) := by kernel_rfl
theorem fldInt1 {b o : Nat} : fldA Try.prog 24 (ptr b o) 1 = some (ptr b (o + 1)) := by kernel_rfl
theorem fldSig0 {b o : Nat} : fldA Try.prog 106 (ptr b o) 0 = some (ptr b o) := by kernel_rfl
theorem fldSig1 {b o : Nat} : fldA Try.prog 106 (ptr b o) 1 = some (ptr b (o + 1)) := by kernel_rfl
theorem fldSize0 {b o : Nat} : fldA Try.prog 104 (ptr b o) 0 = some (ptr b o) := by kernel_rfl
theorem zInt : zeroT Try.prog 24 = some (.agg ⟨[.bool false, .slice none 0 0]⟩) := by kernel_rfl
theorem zSig : zeroT Try.prog 106 = some (.agg ⟨[.slice none 0 0, .bool false]⟩) := by kernel_rfl
theorem aInt : aggT Try.prog 24 = some true := by kernel_rfl
theorem sInt : szT Try.prog 24 = 2 := by kernel_rfl
theorem aSig : aggT Try.prog 106 = some true := by kernel_rfl
theorem sSig : szT Try.prog 106 = 2 := by kernel_rfl
theorem aSize : aggT Try.prog 104 = some true := by kernel_rfl
theorem sSize : szT Try.prog 104 = 1 := by kernel_rfl
theorem aS : aggT Try.prog 22 = some false := by kernel_rfl
theorem aBo : aggT Try.prog 4 = some false := by kernel_rfl
theorem ldkInt {a b : Value} : ldK Try.prog 24 [a, b] 0 = some (.agg #[a, b]) := by unfold ldK; rw [aInt]; simp only [sInt]; rfl
theorem ldkSig {a b : Value} : ldK Try.prog 106 [a, b] 0 = some (.agg #[a, b]) := by unfold ldK; rw [aSig]; simp only [sSig]; rfl
theorem ldkSize {a b : Value} : ldK Try.prog 104 [a, b] 0 = some (.agg #[a]) := by unfold ldK; rw [aSize]; simp only [sSize]; rfl
theorem ldkS {cs : List Value} {i : Nat} : ldK Try.prog 22 cs i = cs[i]? := by unfold ldK; rw [aS]
theorem ldkBo {cs : List Value} {i : Nat} : ldK Try.prog 4 cs i = cs[i]? := by unfold ldK; rw [aBo]
theorem stkInt {a b c d : Value} (hc : isCell c = true) (hd : isCell d = true) : stK Try.prog 24 [a, b] 0 (.agg #[c, d]) = some [c, d] := by unfold stK; rw [aInt]; simp [sInt, spl, hc, hd]
theorem stkSig {a b c d : Value} (hc : isCell c = true) (hd : isCell d = true) : stK Try.prog 106 [a, b] 0 (.agg #[c, d]) = some [c, d] := by unfold stK; rw [aSig]; simp [sSig, spl, hc, hd]
theorem of_spec {B H : AH} {xs : List Nat} {m : Value} {neg : Bool} (hm : xs.length < 1099511627776) (ha : RdN B m xs) (hL : Le B H) :
    Ev (fun k _ => rn k 95 [.agg #[.bool neg, m]] H) (An B H fun B' v => ∃ w, v = .agg #[w, .bool (neg && decide (val xs ≠ 0))] ∧ RdN B' w (limbs (val xs))) := by
  refine Ev.fn (fun k => f95_eq k _ H) ?_
  refine Ev.boxA (St.start hL) (by have := ha.cell; simp only [List.all_cons, List.all_nil, this]; rfl) fun b1 H1 hS1 => ?_
  refine Ev.newA zSig hS1 rfl fun b2 H2 hS2 => ?_
  refine Ev.prim fldInt1 ?_
  refine Ev.ld hS2 (by (first | exact .head _ | exact .tail _ (.head _) | exact .tail _ (.tail _ (.head _)) | exact .tail _ (.tail _ (.tail _ (.head _))) | exact .tail _ (.tail _ (.tail _ (.tail _ (.head _)))))) (ldkS.trans rfl) ?_
  refine Ev.call hS2 (Trim_spec hm ha) fun w B3 H3 hm3 hS3 hw => ?_
  refine Ev.prim (buildSize hw.cell) ?_
  refine Ev.prim fldInt0 ?_
  refine Ev.ld hS3 (by (first | exact .head _ | exact .tail _ (.head _) | exact .tail _ (.tail _ (.head _)) | exact .tail _ (.tail _ (.tail _ (.head _))) | exact .tail _ (.tail _ (.tail _ (.tail _ (.head _)))))) (ldkBo.trans rfl) ?_
  have fin : ∀ c : Bool, c = (neg && decide (val xs ≠ 0)) → Ev (fun k n => (build Try.prog 106 [(0, .agg #[w]), (1, .bool c)]).bind fun v13 => (st Try.prog 106 H3 (ptr b2 0) v13).bind fun h14 => ((ld Try.prog 106 h14 (ptr b2 0)).bind fun v15 => some (v15 :: [])).bind fun vs => some (oneOf vs, h14))
      (An B H fun B' v => ∃ w, v = .agg #[w, .bool (neg && decide (val xs ≠ 0))] ∧ RdN B' w (limbs (val xs))) := by
    intro c hc
    refine Ev.prim (buildSigned hw.cell rfl) ?_
    refine Ev.st hS3 (.head _) (stkSig hw.cell rfl) (by simp) (.head _) fun H4 hS4 => ?_
    refine Ev.assoc ?_
    refine Ev.ld hS4 (.head _) ldkSig ?_
    refine Ev.some1 ?_
    exact Ev.done hS4 ⟨w, by rw [hc]; rfl, hw⟩
  cases neg with
  | false =>
    repeat (first | refine Ev.some2 ?_ | refine Ev.some1 ?_ | refine Ev.gDo ?_ | refine Ev.gSkipT ?_ | refine Ev.gSkipF ?_ | refine Ev.gUndef ?_ | refine Ev.gCall ?_ | refine Ev.tt ?_ | refine Ev.ff ?_ | refine Ev.gPrim (by (first | with_reducible exact lssL | with_reducible exact gtrL | with_reducible exact eqlL | with_reducible exact neqL | with_reducible exact leqL | with_reducible exact geqL | with_reducible exact lssN | with_reducible exact gtrN | with_reducible exact eqlN | with_reducible exact neqN | with_reducible exact leqN | with_reducible exact geqN | (with_reducible refine addL ?_; omega) | (with_reducible refine subL ?_; omega) | (with_reducible refine quoL ?_; omega) | (with_reducible refine mulL ?_; omega) | (with_reducible refine lmul ?_; omega) | (with_reducible refine addN ?_; omega) | (with_reducible refine subN ?_; omega) | (with_reducible refine quoN ?_; omega) | (with_reducible refine mulN ?_; omega) | (with_reducible refine addQ ?_; omega) | (with_reducible refine subQ ?_; omega) | (with_reducible refine mulQ ?_; omega) | (with_reducible refine shlQL ?_; omega) | (with_reducible refine shlQ ?_; omega) | (with_reducible refine remL ?_; decide) | (with_reducible refine shrL ?_; decide) | (with_reducible refine remN ?_; omega) | (with_reducible refine toU64 ?_ Uw Uq; omega) | (with_reducible exact toU32 Uq Uw) | exact bin_lss | exact bin_gtr | exact bin_eql | exact bin_neq | exact bin_leq | exact bin_geq | exact lenV_sl Us | exact ext_0 | exact ext_1 | exact ext_2 | exact pick_t | exact pick_f | exact bin_add64 (by omega) | exact bin_sub64 (by omega) | exact un_not | exact cv_int Uq Uw | exact cv_int Uw Uq | exact bin_add | exact bin_sub | exact bin_mul | rfl)) rfl ?_ | refine Ev.prim (by (first | with_reducible exact lssL | with_reducible exact gtrL | with_reducible exact eqlL | with_reducible exact neqL | with_reducible exact leqL | with_reducible exact geqL | with_reducible exact lssN | with_reducible exact gtrN | with_reducible exact eqlN | with_reducible exact neqN | with_reducible exact leqN | with_reducible exact geqN | (with_reducible refine addL ?_; omega) | (with_reducible refine subL ?_; omega) | (with_reducible refine quoL ?_; omega) | (with_reducible refine mulL ?_; omega) | (with_reducible refine lmul ?_; omega) | (with_reducible refine addN ?_; omega) | (with_reducible refine subN ?_; omega) | (with_reducible refine quoN ?_; omega) | (with_reducible refine mulN ?_; omega) | (with_reducible refine addQ ?_; omega) | (with_reducible refine subQ ?_; omega) | (with_reducible refine mulQ ?_; omega) | (with_reducible refine shlQL ?_; omega) | (with_reducible refine shlQ ?_; omega) | (with_reducible refine remL ?_; decide) | (with_reducible refine shrL ?_; decide) | (with_reducible refine remN ?_; omega) | (with_reducible refine toU64 ?_ Uw Uq; omega) | (with_reducible exact toU32 Uq Uw) | exact bin_lss | exact bin_gtr | exact bin_eql | exact bin_neq | exact bin_leq | exact bin_geq | exact lenV_sl Us | exact ext_0 | exact ext_1 | exact ext_2 | exact pick_t | exact pick_f | exact bin_add64 (by omega) | exact bin_sub64 (by omega) | exact un_not | exact cv_int Uq Uw | exact cv_int Uw Uq | exact bin_add | exact bin_sub | exact bin_mul | rfl)) ?_)
    exact fin false rfl
  | true =>
    repeat (first | refine Ev.some2 ?_ | refine Ev.some1 ?_ | refine Ev.gDo ?_ | refine Ev.gSkipT ?_ | refine Ev.gSkipF ?_ | refine Ev.gUndef ?_ | refine Ev.gCall ?_ | refine Ev.tt ?_ | refine Ev.ff ?_ | refine Ev.gPrim (by (first | with_reducible exact lssL | with_reducible exact gtrL | with_reducible exact eqlL | with_reducible exact neqL | with_reducible exact leqL | with_reducible exact geqL | with_reducible exact lssN | with_reducible exact gtrN | with_reducible exact eqlN | with_reducible exact neqN | with_reducible exact leqN | with_reducible exact geqN | (with_reducible refine addL ?_; omega) | (with_reducible refine subL ?_; omega) | (with_reducible refine quoL ?_; omega) | (with_reducible refine mulL ?_; omega) | (with_reducible refine lmul ?_; omega) | (with_reducible refine addN ?_; omega) | (with_reducible refine subN ?_; omega) | (with_reducible refine quoN ?_; omega) | (with_reducible refine mulN ?_; omega) | (with_reducible refine addQ ?_; omega) | (with_reducible refine subQ ?_; omega) | (with_reducible refine mulQ ?_; omega) | (with_reducible refine shlQL ?_; omega) | (with_reducible refine shlQ ?_; omega) | (with_reducible refine remL ?_; decide) | (with_reducible refine shrL ?_; decide) | (with_reducible refine remN ?_; omega) | (with_reducible refine toU64 ?_ Uw Uq; omega) | (with_reducible exact toU32 Uq Uw) | exact bin_lss | exact bin_gtr | exact bin_eql | exact bin_neq | exact bin_leq | exact bin_geq | exact lenV_sl Us | exact ext_0 | exact ext_1 | exact ext_2 | exact pick_t | exact pick_f | exact bin_add64 (by omega) | exact bin_sub64 (by omega) | exact un_not | exact cv_int Uq Uw | exact cv_int Uw Uq | exact bin_add | exact bin_sub | exact bin_mul | rfl)) rfl ?_ | refine Ev.prim (by (first | with_reducible exact lssL | with_reducible exact gtrL | with_reducible exact eqlL | with_reducible exact neqL | with_reducible exact leqL | with_reducible exact geqL | with_reducible exact lssN | with_reducible exact gtrN | with_reducible exact eqlN | with_reducible exact neqN | with_reducible exact leqN | with_reducible exact geqN | (with_reducible refine addL ?_; omega) | (with_reducible refine subL ?_; omega) | (with_reducible refine quoL ?_; omega) | (with_reducible refine mulL ?_; omega) | (with_reducible refine lmul ?_; omega) | (with_reducible refine addN ?_; omega) | (with_reducible refine subN ?_; omega) | (with_reducible refine quoN ?_; omega) | (with_reducible refine mulN ?_; omega) | (with_reducible refine addQ ?_; omega) | (with_reducible refine subQ ?_; omega) | (with_reducible refine mulQ ?_; omega) | (with_reducible refine shlQL ?_; omega) | (with_reducible refine shlQ ?_; omega) | (with_reducible refine remL ?_; decide) | (with_reducible refine shrL ?_; decide) | (with_reducible refine remN ?_; omega) | (with_reducible refine toU64 ?_ Uw Uq; omega) | (with_reducible exact toU32 Uq Uw) | exact bin_lss | exact bin_gtr | exact bin_eql | exact bin_neq | exact bin_leq | exact bin_geq | exact lenV_sl Us | exact ext_0 | exact ext_1 | exact ext_2 | exact pick_t | exact pick_f | exact bin_add64 (by omega) | exact bin_sub64 (by omega) | exact un_not | exact cv_int Uq Uw | exact cv_int Uw Uq | exact bin_add | exact bin_sub | exact bin_mul | rfl)) ?_)
    refine Ev.gPrim (hw.lenN Ew) rfl ?_
    repeat (first | refine Ev.some2 ?_ | refine Ev.some1 ?_ | refine Ev.gDo ?_ | refine Ev.gSkipT ?_ | refine Ev.gSkipF ?_ | refine Ev.gUndef ?_ | refine Ev.gCall ?_ | refine Ev.tt ?_ | refine Ev.ff ?_ | refine Ev.gPrim (by (first | with_reducible exact lssL | with_reducible exact gtrL | with_reducible exact eqlL | with_reducible exact neqL | with_reducible exact leqL | with_reducible exact geqL | with_reducible exact lssN | with_reducible exact gtrN | with_reducible exact eqlN | with_reducible exact neqN | with_reducible exact leqN | with_reducible exact geqN | (with_reducible refine addL ?_; omega) | (with_reducible refine subL ?_; omega) | (with_reducible refine quoL ?_; omega) | (with_reducible refine mulL ?_; omega) | (with_reducible refine lmul ?_; omega) | (with_reducible refine addN ?_; omega) | (with_reducible refine subN ?_; omega) | (with_reducible refine quoN ?_; omega) | (with_reducible refine mulN ?_; omega) | (with_reducible refine addQ ?_; omega) | (with_reducible refine subQ ?_; omega) | (with_reducible refine mulQ ?_; omega) | (with_reducible refine shlQL ?_; omega) | (with_reducible refine shlQ ?_; omega) | (with_reducible refine remL ?_; decide) | (with_reducible refine shrL ?_; decide) | (with_reducible refine remN ?_; omega) | (with_reducible refine toU64 ?_ Uw Uq; omega) | (with_reducible exact toU32 Uq Uw) | exact bin_lss | exact bin_gtr | exact bin_eql | exact bin_neq | exact bin_leq | exact bin_geq | exact lenV_sl Us | exact ext_0 | exact ext_1 | exact ext_2 | exact pick_t | exact pick_f | exact bin_add64 (by omega) | exact bin_sub64 (by omega) | exact un_not | exact cv_int Uq Uw | exact cv_int Uw Uq | exact bin_add | exact bin_sub | exact bin_mul | rfl)) rfl ?_ | refine Ev.prim (by (first | with_reducible exact lssL | with_reducible exact gtrL | with_reducible exact eqlL | with_reducible exact neqL | with_reducible exact leqL | with_reducible exact geqL | with_reducible exact lssN | with_reducible exact gtrN | with_reducible exact eqlN | with_reducible exact neqN | with_reducible exact leqN | with_reducible exact geqN | (with_reducible refine addL ?_; omega) | (with_reducible refine subL ?_; omega) | (with_reducible refine quoL ?_; omega) | (with_reducible refine mulL ?_; omega) | (with_reducible refine lmul ?_; omega) | (with_reducible refine addN ?_; omega) | (with_reducible refine subN ?_; omega) | (with_reducible refine quoN ?_; omega) | (with_reducible refine mulN ?_; omega) | (with_reducible refine addQ ?_; omega) | (with_reducible refine subQ ?_; omega) | (with_reducible refine mulQ ?_; omega) | (with_reducible refine shlQL ?_; omega) | (with_reducible refine shlQ ?_; omega) | (with_reducible refine remL ?_; decide) | (with_reducible refine shrL ?_; decide) | (with_reducible refine remN ?_; omega) | (with_reducible refine toU64 ?_ Uw Uq; omega) | (with_reducible exact toU32 Uq Uw) | exact bin_lss | exact bin_gtr | exact bin_eql | exact bin_neq | exact bin_leq | exact bin_geq | exact lenV_sl Us | exact ext_0 | exact ext_1 | exact ext_2 | exact pick_t | exact pick_f | exact bin_add64 (by omega) | exact bin_sub64 (by omega) | exact un_not | exact cv_int Uq Uw | exact cv_int Uw Uq | exact bin_add | exact bin_sub | exact bin_mul | rfl)) ?_)
    refine fin _ ?_
    rw [Bool.true_and]
    refine decide_eq_decide.mpr ?_
    rw [Nat.pos_iff_ne_zero, ne_eq, List.length_eq_zero_iff, limbs_eq_nil]
end Go.AM.Y
set_option linter.unusedVariables false
set_option linter.unusedSimpArgs false
set_option maxRecDepth 100000
namespace Go.AM.Y
open Go Go.AM Go.Proofs
attribute [local irreducible] run bin un ld st box newV mkS fldA fld ixA ix slc slc3 build buildS cv cvS ap cpy lenV gOp pickV b2 aIf aChk evalK resume iterD Option.bind

theorem zero_spec {B H : AH} {xs : List Nat} {m : Value} (hm : xs.length < 1099511627776) (ha : RdN B m xs) (hL : Le B H) :
    Ev (fun k _ => rn k 127 [.agg #[m]] H) (An B H fun _ v => v = .bool (decide (xs.length = 0))) := by
  refine Ev.fn (fun k => f127_eq k _ H) ?_
  refine Ev.boxA (St.start hL) (by have := ha.cell; simp only [List.all_cons, List.all_nil, this]; rfl) fun b1 H1 hS1 => ?_
  refine Ev.prim fldSize0 ?_
  refine Ev.ld hS1 (by (first | exact .head _ | exact .tail _ (.head _) | exact .tail _ (.tail _ (.head _)) | exact .tail _ (.tail _ (.tail _ (.head _))) | exact .tail _ (.tail _ (.tail _ (.tail _ (.head _)))))) (ldkS.trans rfl) ?_
  refine Ev.prim (ha.lenN Ew) ?_
  refine Ev.prim eqlL ?_
  exact Ev.done hS1 rfl
theorem out_spec {B H : AH} {n : Nat} {m : Value} {neg : Bool} (hm : (limbs n).length < 1099511627776) (ha : RdN B m (limbs n)) (hL : Le B H) :
    Ev (fun k _ => rn k 100 [.agg #[m, .bool neg]] H) (An B H fun _ v => v = .agg #[.bool (neg && decide (n ≠ 0)), m]) := by
  refine Ev.fn (fun k => f100_eq k _ H) ?_
  refine Ev.boxA (St.start hL) (by have := ha.cell; simp only [List.all_cons, List.all_nil, this]; rfl) fun b1 H1 hS1 => ?_
  refine Ev.newA zInt hS1 rfl fun b2 H2 hS2 => ?_
  refine Ev.prim fldSig1 ?_
  refine Ev.ld hS2 (by (first | exact .head _ | exact .tail _ (.head _) | exact .tail _ (.tail _ (.head _)) | exact .tail _ (.tail _ (.tail _ (.head _))) | exact .tail _ (.tail _ (.tail _ (.tail _ (.head _)))))) (ldkBo.trans rfl) ?_
  cases neg with
  | false =>
    repeat (first | refine Ev.some2 ?_ | refine Ev.some1 ?_ | refine Ev.gDo ?_ | refine Ev.gSkipT ?_ | refine Ev.gSkipF ?_ | refine Ev.gUndef ?_ | refine Ev.gCall ?_ | refine Ev.tt ?_ | refine Ev.ff ?_ | refine Ev.gPrim (by (first | with_reducible exact lssL | with_reducible exact gtrL | with_reducible exact eqlL | with_reducible exact neqL | with_reducible exact leqL | with_reducible exact geqL | with_reducible exact lssN | with_reducible exact gtrN | with_reducible exact eqlN | with_reducible exact neqN | with_reducible exact leqN | with_reducible exact geqN | (with_reducible refine addL ?_; omega) | (with_reducible refine subL ?_; omega) | (with_reducible refine quoL ?_; omega) | (with_reducible refine mulL ?_; omega) | (with_reducible refine lmul ?_; omega) | (with_reducible refine addN ?_; omega) | (with_reducible refine subN ?_; omega) | (with_reducible refine quoN ?_; omega) | (with_reducible refine mulN ?_; omega) | (with_reducible refine addQ ?_; omega) | (with_reducible refine subQ ?_; omega) | (with_reducible refine mulQ ?_; omega) | (with_reducible refine shlQL ?_; omega) | (with_reducible refine shlQ ?_; omega) | (with_reducible refine remL ?_; decide) | (with_reducible refine shrL ?_; decide) | (with_reducible refine remN ?_; omega) | (with_reducible refine toU64 ?_ Uw Uq; omega) | (with_reducible exact toU32 Uq Uw) | exact bin_lss | exact bin_gtr | exact bin_eql | exact bin_neq | exact bin_leq | exact bin_geq | exact lenV_sl Us | exact ext_0 | exact ext_1 | exact ext_2 | exact pick_t | exact pick_f | exact bin_add64 (by omega) | exact bin_sub64 (by omega) | exact un_not | exact cv_int Uq Uw | exact cv_int Uw Uq | exact bin_add | exact bin_sub | exact bin_mul | rfl)) rfl ?_ | refine Ev.prim (by (first | with_reducible exact lssL | with_reducible exact gtrL | with_reducible exact eqlL | with_reducible exact neqL | with_reducible exact leqL | with_reducible exact geqL | with_reducible exact lssN | with_reducible exact gtrN | with_reducible exact eqlN | with_reducible exact neqN | with_reducible exact leqN | with_reducible exact geqN | (with_reducible refine addL ?_; omega) | (with_reducible refine subL ?_; omega) | (with_reducible refine quoL ?_; omega) | (with_reducible refine mulL ?_; omega) | (with_reducible refine lmul ?_; omega) | (with_reducible refine addN ?_; omega) | (with_reducible refine subN ?_; omega) | (with_reducible refine quoN ?_; omega) | (with_reducible refine mulN ?_; omega) | (with_reducible refine addQ ?_; omega) | (with_reducible refine subQ ?_; omega) | (with_reducible refine mulQ ?_; omega) | (with_reducible refine shlQL ?_; omega) | (with_reducible refine shlQ ?_; omega) | (with_reducible refine remL ?_; decide) | (with_reducible refine shrL ?_; decide) | (with_reducible refine remN ?_; omega) | (with_reducible refine toU64 ?_ Uw Uq; omega) | (with_reducible exact toU32 Uq Uw) | exact bin_lss | exact bin_gtr | exact bin_eql | exact bin_neq | exact bin_leq | exact bin_geq | exact lenV_sl Us | exact ext_0 | exact ext_1 | exact ext_2 | exact pick_t | exact pick_f | exact bin_add64 (by omega) | exact bin_sub64 (by omega) | exact un_not | exact cv_int Uq Uw | exact cv_int Uw Uq | exact bin_add | exact bin_sub | exact bin_mul | rfl)) ?_)
    refine Ev.prim fldSig0 ?_
    refine Ev.prim fldSize0 ?_
    refine Ev.ld hS2 (by (first | exact .head _ | exact .tail _ (.head _) | exact .tail _ (.tail _ (.head _)) | exact .tail _ (.tail _ (.tail _ (.head _))) | exact .tail _ (.tail _ (.tail _ (.tail _ (.head _)))))) (ldkS.trans rfl) ?_
    refine Ev.chk (by rw [ld_blk (hS2.get (.tail _ (.head _))), ldkS]; rfl) ?_
    refine Ev.prim (buildInt rfl ha.cell) ?_
    refine Ev.st hS2 (.head _) (stkInt rfl ha.cell) (by simp) (.head _) fun H4 hS4 => ?_
    refine Ev.assoc ?_
    refine Ev.ld hS4 (.head _) ldkInt ?_
    refine Ev.some1 ?_
    exact Ev.done hS4 rfl
  | true =>
    refine Ev.gDo (Ev.gPrim fldSig0 rfl ?_)
    refine Ev.gDo (Ev.gPrim ((ld_blk (hS2.get (by (first | exact .head _ | exact .tail _ (.head _) | exact .tail _ (.tail _ (.head _)) | exact .tail _ (.tail _ (.tail _ (.head _))) | exact .tail _ (.tail _ (.tail _ (.tail _ (.head _)))))))).trans ldkSize) rfl ?_)
    refine Ev.gDo (Ev.gCall ?_)
    refine Ev.call hS2 (zero_spec hm ha) fun v B3 H3 hm3 hS3 hv => ?_
    subst hv
    refine Ev.gDo (Ev.gPrim un_not rfl ?_)
    repeat (first | refine Ev.some2 ?_ | refine Ev.some1 ?_ | refine Ev.gDo ?_ | refine Ev.gSkipT ?_ | refine Ev.gSkipF ?_ | refine Ev.gUndef ?_ | refine Ev.gCall ?_ | refine Ev.tt ?_ | refine Ev.ff ?_ | refine Ev.gPrim (by (first | with_reducible exact lssL | with_reducible exact gtrL | with_reducible exact eqlL | with_reducible exact neqL | with_reducible exact leqL | with_reducible exact geqL | with_reducible exact lssN | with_reducible exact gtrN | with_reducible exact eqlN | with_reducible exact neqN | with_reducible exact leqN | with_reducible exact geqN | (with_reducible refine addL ?_; omega) | (with_reducible refine subL ?_; omega) | (with_reducible refine quoL ?_; omega) | (with_reducible refine mulL ?_; omega) | (with_reducible refine lmul ?_; omega) | (with_reducible refine addN ?_; omega) | (with_reducible refine subN ?_; omega) | (with_reducible refine quoN ?_; omega) | (with_reducible refine mulN ?_; omega) | (with_reducible refine addQ ?_; omega) | (with_reducible refine subQ ?_; omega) | (with_reducible refine mulQ ?_; omega) | (with_reducible refine shlQL ?_; omega) | (with_reducible refine shlQ ?_; omega) | (with_reducible refine remL ?_; decide) | (with_reducible refine shrL ?_; decide) | (with_reducible refine remN ?_; omega) | (with_reducible refine toU64 ?_ Uw Uq; omega) | (with_reducible exact toU32 Uq Uw) | exact bin_lss | exact bin_gtr | exact bin_eql | exact bin_neq | exact bin_leq | exact bin_geq | exact lenV_sl Us | exact ext_0 | exact ext_1 | exact ext_2 | exact pick_t | exact pick_f | exact bin_add64 (by omega) | exact bin_sub64 (by omega) | exact un_not | exact cv_int Uq Uw | exact cv_int Uw Uq | exact bin_add | exact bin_sub | exact bin_mul | rfl)) rfl ?_ | refine Ev.prim (by (first | with_reducible exact lssL | with_reducible exact gtrL | with_reducible exact eqlL | with_reducible exact neqL | with_reducible exact leqL | with_reducible exact geqL | with_reducible exact lssN | with_reducible exact gtrN | with_reducible exact eqlN | with_reducible exact neqN | with_reducible exact leqN | with_reducible exact geqN | (with_reducible refine addL ?_; omega) | (with_reducible refine subL ?_; omega) | (with_reducible refine quoL ?_; omega) | (with_reducible refine mulL ?_; omega) | (with_reducible refine lmul ?_; omega) | (with_reducible refine addN ?_; omega) | (with_reducible refine subN ?_; omega) | (with_reducible refine quoN ?_; omega) | (with_reducible refine mulN ?_; omega) | (with_reducible refine addQ ?_; omega) | (with_reducible refine subQ ?_; omega) | (with_reducible refine mulQ ?_; omega) | (with_reducible refine shlQL ?_; omega) | (with_reducible refine shlQ ?_; omega) | (with_reducible refine remL ?_; decide) | (with_reducible refine shrL ?_; decide) | (with_reducible refine remN ?_; omega) | (with_reducible refine toU64 ?_ Uw Uq; omega) | (with_reducible exact toU32 Uq Uw) | exact bin_lss | exact bin_gtr | exact bin_eql | exact bin_neq | exact bin_leq | exact bin_geq | exact lenV_sl Us | exact ext_0 | exact ext_1 | exact ext_2 | exact pick_t | exact pick_f | exact bin_add64 (by omega) | exact bin_sub64 (by omega) | exact un_not | exact cv_int Uq Uw | exact cv_int Uw Uq | exact bin_add | exact bin_sub | exact bin_mul | rfl)) ?_)
    refine Ev.prim fldSig0 ?_
    refine Ev.prim fldSize0 ?_
    refine Ev.ld hS3 (by (first | exact .head _ | exact .tail _ (.head _) | exact .tail _ (.tail _ (.head _)) | exact .tail _ (.tail _ (.tail _ (.head _))) | exact .tail _ (.tail _ (.tail _ (.tail _ (.head _)))))) (ldkS.trans rfl) ?_
    refine Ev.chk (by rw [ld_blk (hS2.get (.tail _ (.head _))), ldkS]; rfl) ?_
    refine Ev.prim (buildInt rfl ha.cell) ?_
    refine Ev.st hS3 (.head _) (stkInt rfl ha.cell) (by simp) (.head _) fun H4 hS4 => ?_
    refine Ev.assoc ?_
    refine Ev.ld hS4 (.head _) ldkInt ?_
    refine Ev.some1 ?_
    refine Ev.done hS4 ?_
    have e : (!decide ((limbs n).length = 0)) = (true && decide (n ≠ 0)) := by
      rw [Bool.true_and, ← decide_not]
      exact decide_eq_decide.mpr (by rw [List.length_eq_zero_iff, limbs_eq_nil])
    rw [← e]; rfl
def IntV (B : AH) (v : Value) (z : Int) : Prop := ∃ m, v = .agg #[.bool (decide (z < 0)), m] ∧ RdN B m (limbs z.natAbs)
theorem IntV.mono {B B' : AH} {v : Value} {z : Int} (hm : Mo B B') (h : IntV B v z) : IntV B' v z := h.elim fun m hh => ⟨m, hh.1, hh.2.mono hm⟩
theorem Make_spec {B H : AH} {xs : List Nat} {m : Value} {neg : Bool} (hm : xs.length < 1099511627776) (ha : RdN B m xs) (hL : Le B H) :
    Ev (fun k _ => rn k 54 [.bool neg, m] H) (An B H fun B' v => IntV B' v (sg neg (val xs))) := by
  refine Ev.fn (fun k => f54_eq k _ _ H) ?_
  refine Ev.newA zInt (St.start hL) rfl fun b2 H2 hS2 => ?_
  refine Ev.prim (buildInt rfl ha.cell) ?_
  refine Ev.call hS2 (of_spec hm ha) fun v B3 H3 hm3 hS3 h3 => ?_
  obtain ⟨w, rfl, hw⟩ := h3
  have hl := limbs_length_le (val_lt ha.2)
  refine Ev.call hS3 (out_spec (by omega) hw) fun v B4 H4 hm4 hS4 h4 => ?_
  subst h4
  refine Ev.st hS4 (.head _) (stkInt rfl hw.cell) (by simp) (.head _) fun H5 hS5 => ?_
  refine Ev.assoc ?_
  refine Ev.ld hS5 (.head _) ldkInt ?_
  refine Ev.some1 ?_
  refine Ev.done hS5 ⟨w, ?_, by rw [sg_abs]; exact hw.mono hm4⟩
  rw [← sg_neg, Bool.and_assoc, Bool.and_self]; rfl
end Go.AM.Y
set_option linter.unusedVariables false
set_option linter.unusedSimpArgs false
set_option maxRecDepth 100000
namespace Go.AM.Y
open Go Go.AM Go.Proofs
attribute [local irreducible] run bin un ld st box newV mkS fldA fld ixA ix slc slc3 build buildS cv cvS ap cpy lenV gOp pickV b2 aIf aChk evalK resume iterD Option.bind

theorem zFrom_spec {B H : AH} {n : Int} (hn : -9223372036854775808 ≤ n ∧ n < 9223372036854775808) (hL : Le B H) :
    Ev (fun k _ => rn k 52 [.int .i64 n] H) (An B H fun B' v => IntV B' v n) := by
  refine Ev.fn (fun k => f52_eq k _ H) ?_
  refine Ev.newA zInt (St.start hL) rfl fun b2 H2 hS2 => ?_
  have fin : Ev (fun k _ => f52_J0 k (.int .i64 n) (ptr b2 0) (u64 n.natAbs) H2) (An B H fun B' v => IntV B' v n) := by
    refine Ev.eq (fun k _ => f52_J0_eq k _ _ _ H2) ?_
    refine Ev.prim bin_lss ?_
    refine Ev.call hS2 (From_spec (by omega)) fun v B3 H3 hm3 hS3 h3 => ?_
    have hl : (limbs n.natAbs).length ≤ 2 := limbs_length_le (by omega)
    refine Ev.call hS3 (Make_spec (by omega) h3) fun v B4 H4 hm4 hS4 h4 => ?_
    have e : sg (decide (n < 0)) (val (limbs n.natAbs)) = n := by
      rw [val_limbs]; unfold sg
      by_cases h : n < 0
      · rw [decide_eq_true h, if_pos rfl]; omega
      · rw [decide_eq_false h, if_neg (by decide)]; omega
    rw [e] at h4
    obtain ⟨w, rfl, hw⟩ := h4
    refine Ev.st hS4 (.head _) (stkInt rfl hw.cell) (by simp) (.head _) fun H5 hS5 => ?_
    refine Ev.assoc ?_
    refine Ev.ld hS5 (.head _) ldkInt ?_
    refine Ev.some1 ?_
    exact Ev.done hS5 ⟨w, rfl, hw⟩
  refine Ev.prim (cv_int Ui Uq) ?_
  refine Ev.prim bin_lss ?_
  refine Ev.ifp (fun h => ?_) fun h => ?_
  · refine Ev.prim un_neg ?_
    rw [wrapu64, wrapu64, show (0 - n % 18446744073709551616) % 18446744073709551616 = (n.natAbs : Int) by omega]
    exact fin
  · rw [wrapu64, show n % 18446744073709551616 = (n.natAbs : Int) by omega]
    exact fin
end Go.AM.Y
set_option linter.unusedVariables false
set_option linter.unusedSimpArgs false
set_option maxRecDepth 100000
namespace Go.AM.Y
open Go Go.AM Go.Proofs
attribute [local irreducible] run bin un ld st box newV mkS fldA fld ixA ix slc slc3 build buildS cv cvS ap cpy lenV gOp pickV b2 aIf aChk evalK resume iterD Option.bind

end Go.AM.Y
set_option linter.unusedVariables false
set_option linter.unusedSimpArgs false
set_option maxRecDepth 100000
namespace Go.AM.Y
open Go Go.AM Go.Proofs
attribute [local irreducible] run bin un ld st box newV mkS fldA fld ixA ix slc slc3 build buildS cv cvS ap cpy lenV gOp pickV b2 aIf aChk evalK resume iterD Option.bind

end Go.AM.Y
set_option linter.unusedVariables false
set_option linter.unusedSimpArgs false
set_option maxRecDepth 100000
namespace Go.AM.Y
open Go Go.AM Go.Proofs
attribute [local irreducible] run bin un ld st box newV mkS fldA fld ixA ix slc slc3 build buildS cv cvS ap cpy lenV gOp pickV b2 aIf aChk evalK resume iterD Option.bind

theorem Right_spec {B H : AH} {xs : List Nat} {m : Value} {neg : Bool} (hm : xs.length < 9223372036854775808) (ha : RdN B m xs) (hL : Le B H) :
    Ev (fun k _ => rn k 86 [.agg #[.bool neg, m]] H) (An B H fun _ v => v = .bool (rightI neg xs)) := by
  refine Ev.fn (fun k => f86_eq k _ H) ?_
  refine Ev.boxA (St.start hL) (by have := ha.cell; simp only [List.all_cons, List.all_nil, this]; rfl) fun b1 H1 hS1 => ?_
  refine Ev.prim fldInt1 ?_
  refine Ev.ld hS1 (by (first | exact .head _ | exact .tail _ (.head _) | exact .tail _ (.tail _ (.head _)) | exact .tail _ (.tail _ (.tail _ (.head _))) | exact .tail _ (.tail _ (.tail _ (.tail _ (.head _)))))) (ldkS.trans rfl) ?_
  refine Ev.prim (ha.lenN Ew) ?_
  refine Ev.prim eqlL ?_
  refine Ev.ifp (fun h => ?_) fun h => ?_
  · refine Ev.prim fldInt0 ?_
    refine Ev.ld hS1 (by (first | exact .head _ | exact .tail _ (.head _) | exact .tail _ (.tail _ (.head _)) | exact .tail _ (.tail _ (.tail _ (.head _))) | exact .tail _ (.tail _ (.tail _ (.tail _ (.head _)))))) (ldkBo.trans rfl) ?_
    refine Ev.prim un_not ?_
    exact Ev.done hS1 (by rw [rightI, if_pos h])
  · refine Ev.prim fldInt1 ?_
    refine Ev.ld hS1 (by (first | exact .head _ | exact .tail _ (.head _) | exact .tail _ (.tail _ (.head _)) | exact .tail _ (.tail _ (.tail _ (.head _))) | exact .tail _ (.tail _ (.tail _ (.tail _ (.head _)))))) (ldkS.trans rfl) ?_
    refine Ev.prim fldInt1 ?_
    refine Ev.ld hS1 (by (first | exact .head _ | exact .tail _ (.head _) | exact .tail _ (.tail _ (.head _)) | exact .tail _ (.tail _ (.tail _ (.head _))) | exact .tail _ (.tail _ (.tail _ (.tail _ (.head _)))))) (ldkS.trans rfl) ?_
    refine Ev.prim (ha.lenN Ew) ?_
    refine Ev.prim (subL (by omega)) ?_
    obtain ⟨p, hp1, hp2⟩ := ha.ixN (k := .i64) (i := xs.length - 1) Ew (by omega)
    refine Ev.prim hp1 ?_
    refine Ev.prim (hp2 H1 hS1.le) ?_
    refine Ev.prim neqL ?_
    exact Ev.done hS1 (by rw [rightI, if_neg h])
end Go.AM.Y
set_option linter.unusedVariables false
set_option linter.unusedSimpArgs false
set_option maxRecDepth 100000
namespace Go.AM.Y
open Go Go.AM Go.Proofs
attribute [local irreducible] run bin un ld st box newV mkS fldA fld ixA ix slc slc3 build buildS cv cvS ap cpy lenV gOp pickV b2 aIf aChk evalK resume iterD Option.bind

end Go.AM.Y
set_option linter.unusedVariables false
set_option linter.unusedSimpArgs false
set_option maxRecDepth 100000
namespace Go.AM.Y
open Go Go.AM Go.Proofs
attribute [local irreducible] run bin un ld st box newV mkS fldA fld ixA ix slc slc3 build buildS cv cvS ap cpy lenV gOp pickV b2 aIf aChk evalK resume iterD Option.bind

end Go.AM.Y
set_option linter.unusedVariables false
set_option linter.unusedSimpArgs false
set_option maxRecDepth 100000
namespace Go.AM.Y
open Go Go.AM Go.Proofs
attribute [local irreducible] run bin un ld st box newV mkS fldA fld ixA ix slc slc3 build buildS cv cvS ap cpy lenV gOp pickV b2 aIf aChk evalK resume iterD Option.bind

end Go.AM.Y
set_option linter.unusedVariables false
set_option linter.unusedSimpArgs false
namespace Go.AM
variable {α β R : Type} {P : Program}

class PrimEq (E : Option α) (a : outParam α) : Prop where
  eq : E = some a
class PrimC (E : Option α) (p : outParam Prop) (a : outParam α) : Prop where
  eq : p → E = some a
class IsCell (v : Value) : Prop where
  is : isCell v = true
class Nth (cs : List Value) (i : Nat) (v : outParam Value) : Prop where
  eq : cs[i]? = some v
class InL (b : Nat) (K : outParam Blk) (L : List (Nat × Blk)) : Prop where
  mem : (b, K) ∈ L
class UpL (b : Nat) (K : outParam Blk) (K' : Blk) (L : List (Nat × Blk)) (L' : outParam (List (Nat × Blk))) : Prop where
  upd : Upd b K K' L L'
class CellsOf (v : Value) (l : outParam (List Value)) : Prop where
  eq : v.cells.toList = l
  ok : okCells v = true
/-- A type's nought. -/
class ZeroOf (P : Program) (t : TypeId) (z : outParam Value) : Prop where
  eq : zeroT P t = some z
class AggOf (P : Program) (t : TypeId) (b : outParam Bool) : Prop where
  eq : aggT P t = some b
class SzOf (P : Program) (t : TypeId) (n : outParam Nat) : Prop where
  eq : szT P t = n
/-- Cells from one on. -/
class Cut (cs : List Value) (off n : Nat) (l : outParam (List Value)) : Prop where
  le : off + n ≤ cs.length
  eq : (cs.drop off).take n = l
class AllCell (l : List Value) : Prop where
  all : l.all isCell = true
class Und (P : Program) (t : TypeId) (D : outParam TypeDesc) : Prop where
  eq : P.underlying t = some D

instance {n : Int} {k : IntKind} : IsCell (.int k n) := ⟨rfl⟩
instance {b : Bool} : IsCell (.bool b) := ⟨rfl⟩
instance {s : ByteArray} : IsCell (.string s) := ⟨rfl⟩
instance {p : Option Addr} {n c : Nat} : IsCell (.slice p n c) := ⟨rfl⟩
instance {b o n c : Nat} : IsCell (sl b o n c) := ⟨rfl⟩
instance {b o : Nat} : IsCell (ptr b o) := ⟨rfl⟩
instance {p : Option Addr} : IsCell (.pointer p) := ⟨rfl⟩
instance {c : Fn} {x y : Array Value} : IsCell (.func c x y) := ⟨rfl⟩
instance : IsCell .nilFunc := ⟨rfl⟩
instance {B : AH} {v : Value} {xs : List Nat} [h : RdN B v xs] : IsCell v := ⟨h.cell⟩
instance : AllCell [] := ⟨rfl⟩
instance {v : Value} {l : List Value} [h : IsCell v] [k : AllCell l] : AllCell (v :: l) := ⟨by simp only [List.all_cons, h.is, k.all]; rfl⟩
instance {l : List Value} [h : AllCell l] : CellsOf (.agg (List.toArray l)) l := ⟨rfl, h.all⟩
instance (priority := low) {v : Value} [h : IsCell v] : CellsOf v [v] := ⟨cells_one h.is, okCells_of h.is⟩
instance {a : Value} {l : List Value} : Nth (a :: l) 0 a := ⟨rfl⟩
instance {a v : Value} {l : List Value} {n : Nat} [h : Nth l n v] : Nth (a :: l) (n + 1) v := ⟨h.eq⟩
instance {b : Nat} {K : Blk} {L : List (Nat × Blk)} : InL b K ((b, K) :: L) := ⟨.head _⟩
instance (priority := low) {b : Nat} {K : Blk} {x : Nat × Blk} {L : List (Nat × Blk)} [h : InL b K L] : InL b K (x :: L) := ⟨.tail _ h.mem⟩
instance {b : Nat} {K K' : Blk} {L : List (Nat × Blk)} : UpL b K K' ((b, K) :: L) ((b, K') :: L) := ⟨.head _⟩
instance (priority := low) {b : Nat} {K K' : Blk} {x : Nat × Blk} {L L' : List (Nat × Blk)} [h : UpL b K K' L L'] : UpL b K K' (x :: L) (x :: L') := ⟨.tail _ h.upd⟩
class CutN (cs : List Value) (n : Nat) (l : outParam (List Value)) : Prop where
  le : n ≤ cs.length
  eq : cs.take n = l
instance {cs : List Value} : CutN cs 0 [] := ⟨Nat.zero_le _, rfl⟩
instance {a : Value} {cs l : List Value} {n : Nat} [h : CutN cs n l] : CutN (a :: cs) (n + 1) (a :: l) := ⟨Nat.succ_le_succ h.le, by rw [List.take_succ_cons, h.eq]⟩
instance {cs l : List Value} {n : Nat} [h : CutN cs n l] : Cut cs 0 n l := ⟨by rw [Nat.zero_add]; exact h.le, h.eq⟩
instance {a : Value} {cs l : List Value} {off n : Nat} [h : Cut cs off n l] : Cut (a :: cs) (off + 1) n l := ⟨by have := h.le; simp only [List.length_cons]; omega, h.eq⟩
/-- Cells put over others. -/
class SplN (cs l : List Value) (r : outParam (List Value)) : Prop where
  le : l.length ≤ cs.length
  eq : l ++ cs.drop l.length = r
instance {cs : List Value} : SplN cs [] cs := ⟨Nat.zero_le _, rfl⟩
instance {a b : Value} {cs l r : List Value} [h : SplN cs l r] : SplN (a :: cs) (b :: l) (b :: r) := ⟨Nat.succ_le_succ h.le, by rw [List.length_cons, List.drop_succ_cons, List.cons_append, h.eq]⟩
class Spl (cs : List Value) (off : Nat) (l : List Value) (r : outParam (List Value)) : Prop where
  le : off + l.length ≤ cs.length
  eq : spl cs off l = r
instance {cs l r : List Value} [h : SplN cs l r] : Spl cs 0 l r := ⟨by rw [Nat.zero_add]; exact h.le, by unfold spl; rw [List.take_zero, List.nil_append, Nat.zero_add]; exact h.eq⟩
instance {a : Value} {cs l r : List Value} {off : Nat} [h : Spl cs off l r] : Spl (a :: cs) (off + 1) l (a :: r) :=
  ⟨by have := h.le; simp only [List.length_cons]; omega, by have := h.eq; unfold spl at this ⊢; rw [← this, Nat.add_right_comm, List.drop_succ_cons, List.take_succ_cons, List.cons_append]⟩

instance {t : TypeId} {cs : List Value} {off : Nat} {v : Value} [h : AggOf P t false] [k : Nth cs off v] : PrimEq (ldK P t cs off) v := ⟨by unfold ldK; rw [h.eq]; exact k.eq⟩
instance {t : TypeId} {cs l : List Value} {off n : Nat} [h : AggOf P t true] [s : SzOf P t n] [k : Cut cs off n l] : PrimEq (ldK P t cs off) (.agg (List.toArray l)) := ⟨by
  unfold ldK; rw [h.eq, s.eq]; simp only; rw [if_pos k.le, k.eq]⟩
instance {t : TypeId} {cs r : List Value} {off : Nat} {v : Value} [h : AggOf P t false] [s : SzOf P t 1] [c : IsCell v] [k : Spl cs off [v] r] : PrimEq (stK P t cs off v) r := ⟨by
  have hl : off < cs.length := by have := k.le; simp only [List.length_cons, List.length_nil] at this; omega
  unfold stK; rw [h.eq]; simp only; rw [if_pos ⟨s.eq, hl, c.is⟩, ← k.eq]
  unfold spl
  rw [List.set_eq_take_append_cons_drop, if_pos hl]; rfl⟩
instance {t : TypeId} {cs l r : List Value} {off n : Nat} [h : AggOf P t true] [s : SzOf P t n] [c : AllCell l] [k : Spl cs off l r] [hn : CutN l n l] : PrimEq (stK P t cs off (.agg (List.toArray l))) r := ⟨by
  have e : l.length = n := by have h1 := hn.le; have h2 := congrArg List.length hn.eq; rw [List.length_take] at h2; omega
  unfold stK; rw [h.eq]; simp only; rw [if_pos ⟨by rw [s.eq, ← e]; exact k.le, by rw [s.eq, ← e]; rfl, c.all⟩, ← k.eq]⟩
instance {H0 B0 B : AH} {L : List (Nat × Blk)} {H : AH} {b off : Nat} {K : Blk} {v : Value} {t : TypeId} [hS : St H0 B0 B L H] [hm : InL b K L] [hv : PrimEq (ldK P t K.cells off) v] : PrimEq (ld P t H (ptr b off)) v :=
  ⟨(ld_blk (hS.get hm.mem)).trans hv.eq⟩
theorem Ev.stC {H0 B0 B : AH} {L L' : List (Nat × Blk)} {H : AH} {b off : Nat} {cs0 : List Value} {e : TypeId} {v : Value} {cs : List Value} {t : TypeId} {f : Nat → Nat → AH → Option R} {Q : R → Prop} [hS : St H0 B0 B L H] [hm : InL b ⟨cs0, e, .fix⟩ L] [hs : PrimEq (stK P t cs0 off v) cs]
    [hu : UpL b ⟨cs0, e, .fix⟩ ⟨cs, e, .fix⟩ L L'] (h : ∀ H', St H0 B0 B L' H' → Ev (fun k n => f k n H') Q) : Ev (fun k n => (Go.AM.st P t H (ptr b off) v).bind (f k n)) Q :=
  Ev.st hS hm.mem hs.eq (fun h => by cases h) hu.upd h
theorem Ev.newC {H0 B0 B : AH} {L : List (Nat × Blk)} {H : AH} {t : TypeId} {z : Value} {l : List Value} {f : Nat → Nat → Value → AH → Option R} {Q : R → Prop} [hz : ZeroOf P t z] [hl : CellsOf z l] [hS : St H0 B0 B L H]
    (h : ∀ b H', St H0 B0 B ((b, ⟨l, t, .fix⟩) :: L) H' → Ev (fun k n => f k n (ptr b 0) H') Q) : Ev (fun k n => Go.AM.b2 (Go.AM.newV P t H) (f k n)) Q := by
  have e : Go.AM.newV P t H = Go.AM.box t H z := by unfold Go.AM.newV; rw [hz.eq]; rfl
  rw [e]
  exact Ev.prim2 (by unfold Go.AM.box; rw [if_pos hl.ok, hl.eq]) (h H.length _ (hS.mkB' l t .fix))
theorem Ev.boxC {H0 B0 B : AH} {L : List (Nat × Blk)} {H : AH} {t : TypeId} {v : Value} {l : List Value} {f : Nat → Nat → Value → AH → Option R} {Q : R → Prop} [hl : CellsOf v l] [hS : St H0 B0 B L H]
    (h : ∀ b H', St H0 B0 B ((b, ⟨l, t, .fix⟩) :: L) H' → Ev (fun k n => f k n (ptr b 0) H') Q) : Ev (fun k n => Go.AM.b2 (Go.AM.box t H v) (f k n)) Q :=
  Ev.prim2 (by unfold Go.AM.box; rw [if_pos hl.ok, hl.eq]) (h H.length _ (hS.mkB' l t .fix))

section
variable {t s d : TypeId} {a b n : Nat} {x y : Int} {k k' : IntKind}
instance (priority := 900) : PrimEq (bin P .lss t (.int k (a : Int)) (.int k (no_index (@OfNat.ofNat Int n instOfNat)))) (.bool (decide (a < @OfNat.ofNat Nat n (instOfNatNat n)))) := ⟨lssL⟩
instance (priority := 900) : PrimEq (bin P .leq t (.int k (a : Int)) (.int k (no_index (@OfNat.ofNat Int n instOfNat)))) (.bool (decide (a ≤ @OfNat.ofNat Nat n (instOfNatNat n)))) := ⟨leqL⟩
instance (priority := 900) : PrimEq (bin P .gtr t (.int k (a : Int)) (.int k (no_index (@OfNat.ofNat Int n instOfNat)))) (.bool (decide (@OfNat.ofNat Nat n (instOfNatNat n) < a))) := ⟨gtrL⟩
instance (priority := 900) : PrimEq (bin P .geq t (.int k (a : Int)) (.int k (no_index (@OfNat.ofNat Int n instOfNat)))) (.bool (decide (@OfNat.ofNat Nat n (instOfNatNat n) ≤ a))) := ⟨geqL⟩
instance (priority := 900) : PrimEq (bin P .eql t (.int k (a : Int)) (.int k (no_index (@OfNat.ofNat Int n instOfNat)))) (.bool (decide (a = @OfNat.ofNat Nat n (instOfNatNat n)))) := ⟨eqlL⟩
instance (priority := 900) : PrimEq (bin P .neq t (.int k (a : Int)) (.int k (no_index (@OfNat.ofNat Int n instOfNat)))) (.bool (decide (a ≠ @OfNat.ofNat Nat n (instOfNatNat n)))) := ⟨neqL⟩
instance (priority := 2000) : PrimEq (bin P .eql t (.int k x) (.int k x)) (.bool true) := ⟨by rw [bin_eql, decide_eq_true rfl]⟩
instance (priority := 2000) : PrimEq (bin P .neq t (.int k x) (.int k x)) (.bool false) := ⟨by rw [bin_neq, decide_eq_false (fun h => h rfl)]⟩
instance : PrimEq (bin P .lss t (.int k (a : Int)) (.int k (b : Int))) (.bool (decide (a < b))) := ⟨lssN⟩
instance : PrimEq (bin P .leq t (.int k (a : Int)) (.int k (b : Int))) (.bool (decide (a ≤ b))) := ⟨leqN⟩
instance : PrimEq (bin P .gtr t (.int k (a : Int)) (.int k (b : Int))) (.bool (decide (b < a))) := ⟨gtrN⟩
instance : PrimEq (bin P .geq t (.int k (a : Int)) (.int k (b : Int))) (.bool (decide (b ≤ a))) := ⟨geqN⟩
instance : PrimEq (bin P .eql t (.int k (a : Int)) (.int k (b : Int))) (.bool (decide (a = b))) := ⟨eqlN⟩
instance : PrimEq (bin P .neq t (.int k (a : Int)) (.int k (b : Int))) (.bool (decide (a ≠ b))) := ⟨neqN⟩
instance (priority := 100) : PrimEq (bin P .lss t (.int k x) (.int k y)) (.bool (decide (x < y))) := ⟨bin_lss⟩
instance (priority := 100) : PrimEq (bin P .leq t (.int k x) (.int k y)) (.bool (decide (x ≤ y))) := ⟨bin_leq⟩
instance (priority := 100) : PrimEq (bin P .gtr t (.int k x) (.int k y)) (.bool (decide (y < x))) := ⟨bin_gtr⟩
instance (priority := 100) : PrimEq (bin P .geq t (.int k x) (.int k y)) (.bool (decide (y ≤ x))) := ⟨bin_geq⟩
instance (priority := 100) : PrimEq (bin P .eql t (.int k x) (.int k y)) (.bool (decide (x = y))) := ⟨bin_eql⟩
instance (priority := 100) : PrimEq (bin P .neq t (.int k x) (.int k y)) (.bool (decide (x ≠ y))) := ⟨bin_neq⟩
instance (priority := low) {b : Bool} : PrimEq (un P .not (.bool b)) (.bool (!b)) := ⟨un_not⟩
instance : PrimEq (un P .not (.bool true)) (.bool false) := ⟨un_not⟩
instance : PrimEq (un P .not (.bool false)) (.bool true) := ⟨un_not⟩
instance : PrimEq (un P .neg (.int k x)) (.int k (k.wrap (0 - x))) := ⟨un_neg⟩
end
instance {x y : Value} : PrimEq (pickV (.bool true) x y) x := ⟨rfl⟩
instance {x y : Value} : PrimEq (pickV (.bool false) x y) y := ⟨rfl⟩
instance {b o : Nat} : PrimEq (nilChk (ptr b o)) (ptr b o) := ⟨rfl⟩
instance {f : FuncId} {a b : Array Value} : PrimEq (nilChk (.func (.func f) a b)) (.func (.func f) a b) := ⟨rfl⟩
instance {a : Value} {l : List Value} : PrimEq (ext (.tuple (List.toArray (a :: l))) 0) a := ⟨rfl⟩
instance {a b : Value} {l : List Value} : PrimEq (ext (.tuple (List.toArray (a :: b :: l))) 1) b := ⟨rfl⟩
instance {a b c : Value} {l : List Value} : PrimEq (ext (.tuple (List.toArray (a :: b :: c :: l))) 2) c := ⟨rfl⟩
instance {t e : TypeId} {b o n c : Nat} [h : Und P t (.slice e)] : PrimEq (lenV P t (sl b o n c)) (i64 n) := ⟨lenV_sl h.eq⟩
instance {t e : TypeId} [h : Und P t (.slice e)] : PrimEq (lenV P t (.slice none 0 0)) (.int .i64 0) := ⟨by unfold lenV; rw [h.eq]; rfl⟩
instance (priority := low) {t e : TypeId} {z : Value} {sz : Nat} {B : AH} {v : Value} {xs : List Nat} [hE : Elt P t e z sz] [h : RdN B v xs] : PrimEq (lenV P t v) (i64 xs.length) := ⟨h.lenN hE⟩
instance {x y : Value} {v : Value} [h : PrimEq (maxV x y) v] : PrimEq (fold1 maxV [x, y]) v := ⟨by show Option.bind _ _ = _; rw [h.eq]; rfl⟩
instance {x y : Value} {v : Value} [h : PrimEq (minV x y) v] : PrimEq (fold1 minV [x, y]) v := ⟨by show Option.bind _ _ = _; rw [h.eq]; rfl⟩
instance {k k' : IntKind} {x y : Int} : PrimEq (maxV (.int k x) (.int k' y)) (.int k (if y > x then y else x)) := ⟨rfl⟩
instance {k k' : IntKind} {x y : Int} : PrimEq (minV (.int k x) (.int k' y)) (.int k (if y < x then y else x)) := ⟨rfl⟩

class Step (g : Nat → Nat → Option R) (g' : outParam (Nat → Nat → Option R)) : Prop where
  step : ∀ {Q : R → Prop}, Ev g' Q → Ev g Q
theorem Ev.s {g g' : Nat → Nat → Option R} {Q : R → Prop} [h : Step g g'] (k : Ev g' Q) : Ev g Q := h.step k
instance {v : Value} {H : AH} {f : Nat → Nat → Value → AH → Option R} : Step (fun k n => Go.AM.b2 (some (v, H)) (f k n)) (fun k n => f k n v H) := ⟨fun h => h⟩
instance {a : α} {f : Nat → Nat → α → Option R} : Step (fun k n => (some a).bind (f k n)) (fun k n => f k n a) := ⟨fun h => h⟩
instance {x y : Nat → Nat → Option R} : Step (fun k n => aIf (.bool true) (x k n) (y k n)) x := ⟨fun h => h⟩
instance {x y : Nat → Nat → Option R} : Step (fun k n => aIf (.bool false) (x k n) (y k n)) y := ⟨fun h => h⟩
instance {x y : Nat → Nat → Option R} : Step (fun k n => aIf (.bool (!true)) (x k n) (y k n)) y := ⟨fun h => h⟩
instance {x y : Nat → Nat → Option R} : Step (fun k n => aIf (.bool (!false)) (x k n) (y k n)) x := ⟨fun h => h⟩
instance (priority := low) {E : Option α} {a : α} {f : Nat → Nat → α → Option R} [h : PrimEq E a] : Step (fun k n => E.bind (f k n)) (fun k n => f k n a) := ⟨fun h2 => Ev.prim h.eq h2⟩
instance {E : Nat → Nat → Option (Value × AH)} {H : AH} {f : Nat → Nat → Value → AH → Option R} : Step (fun k n => Go.AM.b2 (gOp (.bool true) true (E k n) H) (f k n)) (fun k n => Go.AM.b2 (E k n) (f k n)) := ⟨fun h => Ev.gDo h⟩
instance {E : Nat → Nat → Option (Value × AH)} {H : AH} {f : Nat → Nat → Value → AH → Option R} : Step (fun k n => Go.AM.b2 (gOp (.bool false) false (E k n) H) (f k n)) (fun k n => Go.AM.b2 (E k n) (f k n)) := ⟨fun h => Ev.gDo h⟩
instance {E : Nat → Nat → Option (Value × AH)} {H : AH} {f : Nat → Nat → Value → AH → Option R} : Step (fun k n => Go.AM.b2 (gOp (.bool true) false (E k n) H) (f k n)) (fun k n => f k n undef H) := ⟨fun h => Ev.gSkipF h⟩
instance {E : Nat → Nat → Option (Value × AH)} {H : AH} {f : Nat → Nat → Value → AH → Option R} : Step (fun k n => Go.AM.b2 (gOp (.bool false) true (E k n) H) (f k n)) (fun k n => f k n undef H) := ⟨fun h => Ev.gSkipT h⟩
instance {w : Bool} {E : Nat → Nat → Option (Value × AH)} {H : AH} {f : Nat → Nat → Value → AH → Option R} : Step (fun k n => Go.AM.b2 (gOp undef w (E k n) H) (f k n)) (fun k n => f k n undef H) := ⟨fun h => Ev.gUndef h⟩
instance {E : Nat → Nat → Option (Value × AH)} {H : AH} {f : Nat → Nat → Value → AH → Option R} : Step (fun k n => Go.AM.b2 (gOp (.bool (!true)) true (E k n) H) (f k n)) (fun k n => f k n undef H) := ⟨fun h => Ev.gSkipT h⟩
instance {E : Nat → Nat → Option (Value × AH)} {H : AH} {f : Nat → Nat → Value → AH → Option R} : Step (fun k n => Go.AM.b2 (gOp (.bool (!false)) true (E k n) H) (f k n)) (fun k n => Go.AM.b2 (E k n) (f k n)) := ⟨fun h => Ev.gDo h⟩
instance {E : Nat → Nat → Option (Value × AH)} {H : AH} {f : Nat → Nat → Value → AH → Option R} : Step (fun k n => Go.AM.b2 (gOp (.bool (!true)) false (E k n) H) (f k n)) (fun k n => Go.AM.b2 (E k n) (f k n)) := ⟨fun h => Ev.gDo h⟩
instance {E : Nat → Nat → Option (Value × AH)} {H : AH} {f : Nat → Nat → Value → AH → Option R} : Step (fun k n => Go.AM.b2 (gOp (.bool (!false)) false (E k n) H) (f k n)) (fun k n => f k n undef H) := ⟨fun h => Ev.gSkipF h⟩
instance {E : Option Value} {a : Value} {H : AH} {f : Nat → Nat → Value → AH → Option R} [h : PrimEq E a] : Step (fun k n => Go.AM.b2 (E.bind fun v => some (v, H)) (f k n)) (fun k n => f k n a H) := ⟨fun h2 => Ev.gPrim h.eq rfl h2⟩
instance {g : Nat → Nat → Option (Value × AH)} {f : Nat → Nat → Value → AH → Option R} : Step (fun k n => Go.AM.b2 (Go.AM.b2 (g k n) fun v H => some (v, H)) (f k n)) (fun k n => Go.AM.b2 (g k n) (f k n)) := ⟨fun h => Ev.gCall h⟩
instance {g : Nat → Nat → Option α} {f : Nat → Nat → α → Option β} {f2 : Nat → Nat → β → Option R} : Step (fun k n => ((g k n).bind (f k n)).bind (f2 k n)) (fun k n => (g k n).bind fun x => (f k n x).bind (f2 k n)) := ⟨fun h => Ev.assoc h⟩
instance {x : Nat → Nat → Option R} {E : Option α} {a : α} [h : PrimEq E a] : Step (fun k n => aChk (E = some a) (x k n)) x := ⟨fun h2 => Ev.chk h.eq h2⟩
instance {x : Nat → Nat → Option R} {q : Prop} {E : Option α} {a : α} [h : PrimEq E a] : Step (fun k n => aChk (q → E = some a) (x k n)) x := ⟨fun h2 => Ev.chk (fun _ => h.eq) h2⟩
instance (priority := high) {x : Nat → Nat → Option R} {p : Prop} : Step (fun k n => aChk (Value.bool false = .bool true → p) (x k n)) x := ⟨fun h2 => Ev.chk (fun h => by cases h) h2⟩
/-- With a condition. -/
theorem Ev.sc {E : Option α} {p : Prop} {a : α} {f : Nat → Nat → α → Option R} {Q : R → Prop} [h : PrimC E p a] (hp : p) (k : Ev (fun k n => f k n a) Q) : Ev (fun k n => E.bind (f k n)) Q := Ev.prim (h.eq hp) k
theorem Ev.scg {E : Option Value} {p : Prop} {a : Value} {H : AH} {f : Nat → Nat → Value → AH → Option R} {Q : R → Prop} [h : PrimC E p a] (hp : p) (k : Ev (fun k n => f k n a H) Q) : Ev (fun k n => Go.AM.b2 (E.bind fun v => some (v, H)) (f k n)) Q := Ev.gPrim (h.eq hp) rfl k
section
variable {t s d : TypeId} {a b n : Nat} {x y : Int} {k k' : IntKind}
instance (priority := 900) : PrimC (bin P .add t (i64 a) (.int .i64 (no_index (@OfNat.ofNat Int n instOfNat)))) (a + @OfNat.ofNat Nat n (instOfNatNat n) < 9223372036854775808) (i64 (a + @OfNat.ofNat Nat n (instOfNatNat n))) := ⟨addL⟩
instance (priority := 900) : PrimC (bin P .sub t (i64 a) (.int .i64 (no_index (@OfNat.ofNat Int n instOfNat)))) (@OfNat.ofNat Nat n (instOfNatNat n) ≤ a ∧ a < 9223372036854775808) (i64 (a - @OfNat.ofNat Nat n (instOfNatNat n))) := ⟨subL⟩
instance (priority := 900) : PrimC (bin P .mul t (i64 a) (.int .i64 (no_index (@OfNat.ofNat Int n instOfNat)))) (a * @OfNat.ofNat Nat n (instOfNatNat n) < 9223372036854775808) (i64 (a * @OfNat.ofNat Nat n (instOfNatNat n))) := ⟨mulL⟩
instance (priority := 900) : PrimC (bin P .mul t (.int .i64 (no_index (@OfNat.ofNat Int n instOfNat))) (i64 a)) (@OfNat.ofNat Nat n (instOfNatNat n) * a < 9223372036854775808) (i64 (@OfNat.ofNat Nat n (instOfNatNat n) * a)) := ⟨lmul⟩
instance (priority := 900) : PrimC (bin P .quo t (i64 a) (.int .i64 (no_index (@OfNat.ofNat Int n instOfNat)))) (@OfNat.ofNat Nat n (instOfNatNat n) ≠ 0 ∧ a < 9223372036854775808) (i64 (a / @OfNat.ofNat Nat n (instOfNatNat n))) := ⟨quoL⟩
instance (priority := 900) : PrimC (bin P .rem t (.int k (a : Int)) (.int k (no_index (@OfNat.ofNat Int n instOfNat)))) (@OfNat.ofNat Nat n (instOfNatNat n) ≠ 0) (.int k ((a % @OfNat.ofNat Nat n (instOfNatNat n) : Nat) : Int)) := ⟨remL⟩
instance : PrimC (bin P .add t (i64 a) (i64 b)) (a + b < 9223372036854775808) (i64 (a + b)) := ⟨addN⟩
instance : PrimC (bin P .sub t (i64 a) (i64 b)) (b ≤ a ∧ a < 9223372036854775808) (i64 (a - b)) := ⟨subN⟩
instance : PrimC (bin P .mul t (i64 a) (i64 b)) (a * b < 9223372036854775808) (i64 (a * b)) := ⟨mulN⟩
instance : PrimC (bin P .quo t (i64 a) (i64 b)) (b ≠ 0 ∧ a < 9223372036854775808) (i64 (a / b)) := ⟨quoN⟩
instance : PrimC (bin P .rem t (.int k (a : Int)) (.int k (b : Int))) (b ≠ 0) (.int k ((a % b : Nat) : Int)) := ⟨remN⟩
instance : PrimC (bin P .add t (u64 a) (u64 b)) (a + b < 18446744073709551616) (u64 (a + b)) := ⟨addQ⟩
instance : PrimC (bin P .sub t (u64 a) (u64 b)) (b ≤ a ∧ a < 18446744073709551616) (u64 (a - b)) := ⟨subQ⟩
instance : PrimC (bin P .mul t (u64 a) (u64 b)) (a * b < 18446744073709551616) (u64 (a * b)) := ⟨mulQ⟩
instance (priority := 100) : PrimC (bin P .add t (.int .i64 x) (.int .i64 y)) (-9223372036854775808 ≤ x + y ∧ x + y < 9223372036854775808) (.int .i64 (x + y)) := ⟨bin_add64⟩
instance (priority := 100) : PrimC (bin P .sub t (.int .i64 x) (.int .i64 y)) (-9223372036854775808 ≤ x - y ∧ x - y < 9223372036854775808) (.int .i64 (x - y)) := ⟨bin_sub64⟩
instance (priority := 100) : PrimC (bin P .mul t (.int .i64 x) (.int .i64 y)) (-9223372036854775808 ≤ x * y ∧ x * y < 9223372036854775808) (.int .i64 (x * y)) := ⟨bin_mul64⟩
end
/-- A call. -/
theorem Ev.callC {H0 B0 B : AH} {L : List (Nat × Blk)} {H : AH} {g : Nat → Nat → Option (Value × AH)} {Post : AH → Value → Prop} {f : Nat → Nat → Value → AH → Option R} {Q : R → Prop} [hS : St H0 B0 B L H]
    (hc : Le B H → Ev g (An B H Post)) (h : ∀ v B' H', Mo B B' → St H0 B0 B' L H' → Post B' v → Ev (fun k n => f k n v H') Q) : Ev (fun k n => Go.AM.b2 (g k n) (f k n)) Q := Ev.call hS hc h
theorem Ev.doneC {H0 B0 B : AH} {L : List (Nat × Blk)} {H : AH} {Post : AH → Value → Prop} {v : Value} [hS : St H0 B0 B L H] (hp : Post B v) : Ev (fun _ _ => some (v, H)) (An B0 H0 Post) := Ev.done hS hp
end Go.AM
set_option linter.unusedVariables false
set_option linter.unusedSimpArgs false
namespace Go.AM
variable {α β R : Type} {P : Program}
class PlusL (a b : Nat) (r : outParam Nat) : Prop where
  eq : a + b = r
instance (priority := low) {a b : Nat} : PlusL a b (a + b) := ⟨rfl⟩
instance {b : Nat} : PlusL 0 b b := ⟨Nat.zero_add b⟩
instance {a : Nat} : PlusL a 0 a := ⟨rfl⟩
instance : PlusL 1 1 2 := ⟨rfl⟩
instance : PlusL 1 2 3 := ⟨rfl⟩
instance : PlusL 1 3 4 := ⟨rfl⟩
instance : PlusL 1 4 5 := ⟨rfl⟩
instance : PlusL 1 5 6 := ⟨rfl⟩
instance : PlusL 1 6 7 := ⟨rfl⟩
instance : PlusL 1 7 8 := ⟨rfl⟩
instance : PlusL 1 8 9 := ⟨rfl⟩
instance : PlusL 2 1 3 := ⟨rfl⟩
instance : PlusL 2 2 4 := ⟨rfl⟩
instance : PlusL 2 3 5 := ⟨rfl⟩
instance : PlusL 2 4 6 := ⟨rfl⟩
instance : PlusL 2 5 7 := ⟨rfl⟩
instance : PlusL 2 6 8 := ⟨rfl⟩
instance : PlusL 2 7 9 := ⟨rfl⟩
instance : PlusL 2 8 10 := ⟨rfl⟩
instance : PlusL 3 1 4 := ⟨rfl⟩
instance : PlusL 3 2 5 := ⟨rfl⟩
instance : PlusL 3 3 6 := ⟨rfl⟩
instance : PlusL 3 4 7 := ⟨rfl⟩
instance : PlusL 3 5 8 := ⟨rfl⟩
instance : PlusL 3 6 9 := ⟨rfl⟩
instance : PlusL 3 7 10 := ⟨rfl⟩
instance : PlusL 3 8 11 := ⟨rfl⟩
instance : PlusL 4 1 5 := ⟨rfl⟩
instance : PlusL 4 2 6 := ⟨rfl⟩
instance : PlusL 4 3 7 := ⟨rfl⟩
instance : PlusL 4 4 8 := ⟨rfl⟩
instance : PlusL 4 5 9 := ⟨rfl⟩
instance : PlusL 4 6 10 := ⟨rfl⟩
instance : PlusL 4 7 11 := ⟨rfl⟩
instance : PlusL 4 8 12 := ⟨rfl⟩
instance : PlusL 5 1 6 := ⟨rfl⟩
instance : PlusL 5 2 7 := ⟨rfl⟩
instance : PlusL 5 3 8 := ⟨rfl⟩
instance : PlusL 5 4 9 := ⟨rfl⟩
instance : PlusL 5 5 10 := ⟨rfl⟩
instance : PlusL 5 6 11 := ⟨rfl⟩
instance : PlusL 5 7 12 := ⟨rfl⟩
instance : PlusL 5 8 13 := ⟨rfl⟩
instance : PlusL 6 1 7 := ⟨rfl⟩
instance : PlusL 6 2 8 := ⟨rfl⟩
instance : PlusL 6 3 9 := ⟨rfl⟩
instance : PlusL 6 4 10 := ⟨rfl⟩
instance : PlusL 6 5 11 := ⟨rfl⟩
instance : PlusL 6 6 12 := ⟨rfl⟩
instance : PlusL 6 7 13 := ⟨rfl⟩
instance : PlusL 6 8 14 := ⟨rfl⟩
instance : PlusL 7 1 8 := ⟨rfl⟩
instance : PlusL 7 2 9 := ⟨rfl⟩
instance : PlusL 7 3 10 := ⟨rfl⟩
instance : PlusL 7 4 11 := ⟨rfl⟩
instance : PlusL 7 5 12 := ⟨rfl⟩
instance : PlusL 7 6 13 := ⟨rfl⟩
instance : PlusL 7 7 14 := ⟨rfl⟩
instance : PlusL 7 8 15 := ⟨rfl⟩
instance : PlusL 8 1 9 := ⟨rfl⟩
instance : PlusL 8 2 10 := ⟨rfl⟩
instance : PlusL 8 3 11 := ⟨rfl⟩
instance : PlusL 8 4 12 := ⟨rfl⟩
instance : PlusL 8 5 13 := ⟨rfl⟩
instance : PlusL 8 6 14 := ⟨rfl⟩
instance : PlusL 8 7 15 := ⟨rfl⟩
instance : PlusL 8 8 16 := ⟨rfl⟩
class FieldOf (P : Program) (s : TypeId) (i : Nat) (off : outParam Nat) (ft : outParam TypeId) : Prop where
  ex : ∃ fs f, P.underlying s = some (.struct fs) ∧ fs[i]? = some f ∧ f.offset = off ∧ f.type = ft
  nz : szT P ft ≠ 0
class StructOf (P : Program) (s : TypeId) (l : outParam (List Value)) : Prop where
  zero : zeroT P s = some (.agg (List.toArray l))
  ex : ∃ fs, P.underlying s = some (.struct fs) ∧ fs.toList.all (fun f => (P.info? f.type).isSome) = true
instance {s : TypeId} {l : List Value} [h : StructOf P s l] : ZeroOf P s (.agg (List.toArray l)) := ⟨h.zero⟩
instance {s ft : TypeId} {i off b o r : Nat} [h : FieldOf P s i off ft] [p : PlusL o off r] : PrimEq (fldA P s (ptr b o) i) (ptr b r) := ⟨by
  obtain ⟨fs, f, h1, h2, h3, h4⟩ := h.ex
  unfold fldA ptr; rw [h1]; simp only [h2, Option.bind_some]; rw [if_neg (by rw [h4]; exact h.nz), h3, p.eq]⟩
instance {s ft : TypeId} {i off : Nat} {l : List Value} {v : Value} [h : FieldOf P s i off ft] [a : AggOf P ft false] [n : Nth l off v] : PrimEq (fld P s (.agg (List.toArray l)) i) v := ⟨by
  obtain ⟨fs, f, h1, h2, h3, h4⟩ := h.ex
  unfold fld; rw [h1]; simp only [h2, Option.bind_some]; unfold prt; rw [h4, a.eq, h3]; exact n.eq⟩
instance {s ft : TypeId} {i off n : Nat} {l r : List Value} [h : FieldOf P s i off ft] [a : AggOf P ft true] [z : SzOf P ft n] [c : Cut l off n r] : PrimEq (fld P s (.agg (List.toArray l)) i) (.agg (List.toArray r)) := ⟨by
  obtain ⟨fs, f, h1, h2, h3, h4⟩ := h.ex
  unfold fld; rw [h1]; simp only [h2, Option.bind_some]; unfold prt; rw [h4, a.eq, h3, z.eq]; simp only; rw [c.eq]⟩
class FillP (P : Program) (s : TypeId) (cs : List Value) (parts : List (Nat × Value)) (r : outParam (List Value)) : Prop where
  eq : ∀ fs, P.underlying s = some (.struct fs) → fillB (fun i => (fs[i]?).map fun f => (f.offset, szT P f.type)) cs parts = some r
instance {s : TypeId} {cs : List Value} : FillP P s cs [] cs := ⟨fun _ _ => rfl⟩
instance {s ft : TypeId} {i off n : Nat} {v : Value} {l cs cs' r : List Value} {ps : List (Nat × Value)} [h : FieldOf P s i off ft] [z : SzOf P ft n] [c : CellsOf v l] [k : CutN l n l] [sp : Spl cs off l cs'] [f : FillP P s cs' ps r] :
    FillP P s cs ((i, v) :: ps) r := ⟨fun fs hf => by
  obtain ⟨fs', g, h1, h2, h3, h4⟩ := h.ex
  rw [hf] at h1; cases h1
  have e : l.length = n := by have h1 := k.le; have h2 := congrArg List.length k.eq; rw [List.length_take] at h2; omega
  have e2 : v.cells.size = n := by rw [← e, ← c.eq]; rfl
  unfold fillB
  simp only [h2, Option.map_some, h3, h4, z.eq]
  rw [if_pos ⟨e2, by rw [← e]; exact sp.le, c.ok⟩, c.eq, sp.eq]
  exact f.eq fs hf⟩
instance {s : TypeId} {l r : List Value} {parts : List (Nat × Value)} [h : StructOf P s l] [f : FillP P s l parts r] : PrimEq (build P s parts) (.agg (List.toArray r)) := ⟨by
  obtain ⟨fs, h1, h2⟩ := h.ex
  unfold build; rw [h.zero]; simp only [Option.bind_some, h1]
  rw [if_neg (by rw [h2]; simp)]
  have := f.eq fs h1
  simp only [Value.cells]
  rw [this]; rfl⟩
section
variable {s d : TypeId} {D : TypeDesc} {a : Nat} {x : Int} {k k' : IntKind}
instance [hs : Und P s D] [hd : Und P d (.int .u32)] : PrimEq (cv P s d (.int k (a : Int))) (u32 (a % 4294967296)) := ⟨toU32 hs.eq hd.eq⟩
instance [hs : Und P s D] [hd : Und P d (.int .u8)] : PrimEq (cv P s d (.int k (a : Int))) (u8 (a % 256)) := ⟨toU8 hs.eq hd.eq⟩
instance [hs : Und P s D] [hd : Und P d (.int .u64)] : PrimC (cv P s d (.int k (a : Int))) (a < 18446744073709551616) (u64 a) := ⟨fun h => toU64 h hs.eq hd.eq⟩
instance [hs : Und P s D] [hd : Und P d (.int .i64)] : PrimC (cv P s d (.int k (a : Int))) (a < 9223372036854775808) (i64 a) := ⟨fun h => toI64 h hs.eq hd.eq⟩
end
class LdB (P : Program) (e : TypeId) (p : Value) (B : outParam AH) (v : outParam Value) : Prop where
  eq : ∀ H', Mo B H' → ld P e H' p = some v
instance {e : TypeId} {p v : Value} {H0 B0 B H : AH} {L : List (Nat × Blk)} [h : LdB P e p B v] [hS : St H0 B0 B L H] : PrimEq (ld P e H p) v := ⟨h.eq H hS.le⟩
section
variable {t e : TypeId} {z : Value} {sz : Nat} {H0 B0 B H : AH} {L : List (Nat × Blk)} {v : Value} {xs : List Nat} {k : IntKind}
theorem Ev.ixC {f : Nat → Nat → Value → Option R} {Q : R → Prop} {i : Int} [hE : Elt P t e z sz] [h : RdN B v xs] (j : Nat) (hi : i = (j : Int)) (hj : j < xs.length) (hk : ∀ p, LdB P e p B (u32 (xs.getD j 0)) → Ev (fun k n => f k n p) Q) :
    Ev (fun k' n => (ixA P t v (.int k i)).bind (f k' n)) Q := by
  subst hi
  obtain ⟨p, h1, h2⟩ := h.ixN (k := k) (i := j) hE hj
  exact Ev.prim h1 (hk p ⟨h2⟩)
theorem Ev.ixCg {f : Nat → Nat → Value → AH → Option R} {Q : R → Prop} {i : Int} {H1 : AH} [hE : Elt P t e z sz] [h : RdN B v xs] (j : Nat) (hi : i = (j : Int)) (hj : j < xs.length) (hk : ∀ p, LdB P e p B (u32 (xs.getD j 0)) → Ev (fun k n => f k n p H1) Q) :
    Ev (fun k' n => Go.AM.b2 ((ixA P t v (.int k i)).bind fun v => some (v, H1)) (f k' n)) Q := by
  subst hi
  obtain ⟨p, h1, h2⟩ := h.ixN (k := k) (i := j) hE hj
  exact Ev.gPrim h1 rfl (hk p ⟨h2⟩)
theorem Ev.uptoC {f : Nat → Nat → Value → Option R} {Q : R → Prop} {i : Int} [hE : Elt P t e z sz] [h : RdN B v xs] (j : Nat) (hi : i = (j : Int)) (hj : j ≤ xs.length) (hk : ∀ w, RdN B w (xs.take j) → Ev (fun k n => f k n w) Q) :
    Ev (fun k' n => (slc P t v none (some (.int k i))).bind (f k' n)) Q := by
  subst hi
  obtain ⟨w, h1, h2⟩ := h.uptoN (k := k) (i := j) hE hj
  exact Ev.prim h1 (hk w h2)
class Rep (n : Nat) (z : Value) (l : outParam (List Value)) : Prop where
  eq : List.replicate n z = l
instance {z : Value} : Rep 0 z [] := ⟨rfl⟩
instance {z : Value} {n : Nat} {l : List Value} [h : Rep n z l] : Rep (n + 1) z (z :: l) := ⟨by rw [List.replicate_succ, h.eq]⟩
class FillL (cs : List Value) (parts : List (Nat × Value)) (r : outParam (List Value)) : Prop where
  eq : fillB (fun i => some (i * 1, 1)) cs parts = some r
instance {cs : List Value} : FillL cs [] cs := ⟨rfl⟩
instance {i : Nat} {v : Value} {cs cs' r : List Value} {ps : List (Nat × Value)} [c : IsCell v] [sp : Spl cs i [v] cs'] [f : FillL cs' ps r] : FillL cs ((i, v) :: ps) r := ⟨by
  have h1 := cells_one c.is
  have h2 := f.eq
  simp only [Nat.mul_one] at h2
  unfold fillB
  simp only [Nat.mul_one]
  rw [if_pos ⟨size_cells h1, by have := sp.le; simpa using this, okCells_of c.is⟩, h1, sp.eq]
  exact h2⟩
theorem Ev.bsC {m : Nat} {parts : List (Nat × Value)} {l cs : List Value} {f : Nat → Nat → Value → AH → Option R} {Q : R → Prop} [hE : Elt P t e z sz] [hS : St H0 B0 B L H] [hr : Rep m z l] [hf : FillL l parts cs] (hm : m ≤ 16777216)
    (h : ∀ b H', St H0 B0 B ((b, ⟨cs, e, .fix⟩) :: L) H' → Ev (fun k n => f k n (sl b 0 m m) H') Q) : Ev (fun k n => Go.AM.b2 (Go.AM.buildS P t H m parts) (f k n)) Q := by
  refine Ev.prim2 ?_ (h H.length _ (hS.mkB' cs e .fix))
  unfold Go.AM.buildS
  rw [hE.U]; simp only [hE.Z, hE.S, hE.zn, Option.bind_some, rep_one]
  rw [if_pos ⟨by omega, size_cells hE.zn⟩, hr.eq, hf.eq]; rfl
end
end Go.AM
set_option linter.unusedVariables false
set_option linter.unusedSimpArgs false
namespace Go.AM
variable {α β R : Type} {P : Program}
/-- A call that changes what is the caller's. -/
def AnS (H0 B0 B : AH) (L : List (Nat × Blk)) (Post : AH → Value → Prop) (r : Value × AH) : Prop := ∃ B', Mo B B' ∧ St H0 B0 B' L r.2 ∧ Post B' r.1
theorem Ev.callS {H0 B0 B : AH} {L : List (Nat × Blk)} {g : Nat → Nat → Option (Value × AH)} {Post : AH → Value → Prop} {f : Nat → Nat → Value → AH → Option R} {Q : R → Prop}
    (hc : Ev g (AnS H0 B0 B L Post)) (h : ∀ v B' H', Mo B B' → St H0 B0 B' L H' → Post B' v → Ev (fun k n => f k n v H') Q) : Ev (fun k n => Go.AM.b2 (g k n) (f k n)) Q :=
  Ev.b2 hc fun v H' ha => by
    obtain ⟨B', hm, hS', hp⟩ := ha
    exact h v B' H' hm hS' hp
theorem Ev.doneS {H0 B0 B B1 : AH} {L : List (Nat × Blk)} {H : AH} {Post : AH → Value → Prop} {v : Value} [hS : St H0 B0 B L H] (hm : Mo B1 B) (hp : Post B v) : Ev (fun _ _ => some (v, H)) (AnS H0 B0 B1 L Post) := Ev.ret ⟨B, hm, hS, hp⟩
theorem AnS.an {H0 B0 B : AH} {L : List (Nat × Blk)} {Post : AH → Value → Prop} {g : Nat → Nat → Option (Value × AH)} (h : Ev g (AnS H0 B0 B L Post)) : Ev g (An B0 H0 Post) :=
  h.mono fun r ⟨B', hm, hS, hp⟩ => hS.an hp
class InfoOf (P : Program) (t : TypeId) : Prop where
  is : (P.info? t).isSome = true
class TimesL (a b : Nat) (r : outParam Nat) : Prop where
  eq : a * b = r
instance (priority := low) {a b : Nat} : TimesL a b (a * b) := ⟨rfl⟩
instance {b : Nat} : TimesL 0 b 0 := ⟨Nat.zero_mul b⟩
instance {b : Nat} : TimesL 1 b b := ⟨Nat.one_mul b⟩
instance {b : Nat} : TimesL b 1 b := ⟨Nat.mul_one b⟩
instance : TimesL 2 2 4 := ⟨rfl⟩
instance : TimesL 2 3 6 := ⟨rfl⟩
instance : TimesL 2 4 8 := ⟨rfl⟩
instance : TimesL 2 5 10 := ⟨rfl⟩
instance : TimesL 2 6 12 := ⟨rfl⟩
instance : TimesL 2 7 14 := ⟨rfl⟩
instance : TimesL 2 8 16 := ⟨rfl⟩
instance : TimesL 3 2 6 := ⟨rfl⟩
instance : TimesL 3 3 9 := ⟨rfl⟩
instance : TimesL 3 4 12 := ⟨rfl⟩
instance : TimesL 3 5 15 := ⟨rfl⟩
instance : TimesL 3 6 18 := ⟨rfl⟩
instance : TimesL 3 7 21 := ⟨rfl⟩
instance : TimesL 3 8 24 := ⟨rfl⟩
instance : TimesL 4 2 8 := ⟨rfl⟩
instance : TimesL 4 3 12 := ⟨rfl⟩
instance : TimesL 4 4 16 := ⟨rfl⟩
instance : TimesL 4 5 20 := ⟨rfl⟩
instance : TimesL 4 6 24 := ⟨rfl⟩
instance : TimesL 4 7 28 := ⟨rfl⟩
instance : TimesL 4 8 32 := ⟨rfl⟩
instance : TimesL 5 2 10 := ⟨rfl⟩
instance : TimesL 5 3 15 := ⟨rfl⟩
instance : TimesL 5 4 20 := ⟨rfl⟩
instance : TimesL 5 5 25 := ⟨rfl⟩
instance : TimesL 5 6 30 := ⟨rfl⟩
instance : TimesL 5 7 35 := ⟨rfl⟩
instance : TimesL 5 8 40 := ⟨rfl⟩
instance : TimesL 6 2 12 := ⟨rfl⟩
instance : TimesL 6 3 18 := ⟨rfl⟩
instance : TimesL 6 4 24 := ⟨rfl⟩
instance : TimesL 6 5 30 := ⟨rfl⟩
instance : TimesL 6 6 36 := ⟨rfl⟩
instance : TimesL 6 7 42 := ⟨rfl⟩
instance : TimesL 6 8 48 := ⟨rfl⟩
instance : TimesL 7 2 14 := ⟨rfl⟩
instance : TimesL 7 3 21 := ⟨rfl⟩
instance : TimesL 7 4 28 := ⟨rfl⟩
instance : TimesL 7 5 35 := ⟨rfl⟩
instance : TimesL 7 6 42 := ⟨rfl⟩
instance : TimesL 7 7 49 := ⟨rfl⟩
instance : TimesL 7 8 56 := ⟨rfl⟩
class AppL (a b : List Value) (r : outParam (List Value)) : Prop where
  eq : a ++ b = r
instance {b : List Value} : AppL [] b b := ⟨rfl⟩
instance {x : Value} {a b r : List Value} [h : AppL a b r] : AppL (x :: a) b (x :: r) := ⟨by rw [List.cons_append, h.eq]⟩
class RepA (n : Nat) (z : List Value) (l : outParam (List Value)) : Prop where
  eq : rep z n = l
instance {z : List Value} : RepA 0 z [] := ⟨rfl⟩
instance {z : List Value} {n : Nat} {l r : List Value} [h : RepA n z l] [k : AppL z l r] : RepA (n + 1) z r := ⟨by rw [rep, h.eq, k.eq]⟩
class FillE (sz : Nat) (cs : List Value) (parts : List (Nat × Value)) (r : outParam (List Value)) : Prop where
  eq : fillB (fun i => some (i * sz, sz)) cs parts = some r
instance {sz : Nat} {cs : List Value} : FillE sz cs [] cs := ⟨rfl⟩
instance {sz i o : Nat} {v : Value} {l cs cs' r : List Value} {ps : List (Nat × Value)} [t : TimesL i sz o] [c : CellsOf v l] [k : CutN l sz l] [sp : Spl cs o l cs'] [f : FillE sz cs' ps r] : FillE sz cs ((i, v) :: ps) r := ⟨by
  have e : l.length = sz := by have h1 := k.le; have h2 := congrArg List.length k.eq; rw [List.length_take] at h2; omega
  have e2 : v.cells.size = sz := by rw [← e, ← c.eq]; rfl
  have hf := f.eq
  have hl := sp.le
  have hs := sp.eq
  unfold fillB
  simp only [t.eq]
  rw [if_pos ⟨e2, by rw [← e]; exact hl, c.ok⟩, c.eq, hs]
  exact hf⟩
/-- A slice of structs that is laid. -/
theorem Ev.bsE {t e : TypeId} {z : List Value} {H0 B0 B H : AH} {L : List (Nat × Blk)} {sz m : Nat} {parts : List (Nat × Value)} {l cs : List Value} {f : Nat → Nat → Value → AH → Option R} {Q : R → Prop} [hU : Und P t (.slice e)] [hZ : StructOf P e z] [hs : SzOf P e sz] [hz : CutN z sz z] [hS : St H0 B0 B L H]
    [hr : RepA m z l] [hf : FillE sz l parts cs] (hm : m * sz ≤ 16777216)
    (h : ∀ b H', St H0 B0 B ((b, ⟨cs, e, .fix⟩) :: L) H' → Ev (fun k n => f k n (sl b 0 m m) H') Q) : Ev (fun k n => Go.AM.b2 (Go.AM.buildS P t H m parts) (f k n)) Q := by
  refine Ev.prim2 ?_ (h H.length _ (hS.mkB' cs e .fix))
  have e1 : z.length = sz := by have h1 := hz.le; have h2 := congrArg List.length hz.eq; rw [List.length_take] at h2; omega
  unfold Go.AM.buildS
  rw [hU.eq]; simp only [hZ.zero, hs.eq, Option.bind_some]
  have hf' := hf.eq
  have hr' : rep (Value.agg (List.toArray z)).cells.toList m = l := hr.eq
  rw [if_pos ⟨hm, show (Value.agg (List.toArray z)).cells.size = sz from e1⟩, hr', hf']; rfl
instance {t e : TypeId} {sz b len cap i ofs : Nat} {k : IntKind} [hU : Und P t (.slice e)] [hs : SzOf P e sz] [hi : InfoOf P e] [ht : TimesL i sz ofs] : PrimC (ixA P t (sl b 0 len cap) (.int k (i : Int))) (i < len) (ptr b ofs) := ⟨fun h => by
  unfold ixA sl; rw [hU.eq]; simp only; rw [if_pos ⟨hi.is, by omega, by omega⟩, hs.eq, Int.toNat_natCast, ht.eq, Nat.zero_add]⟩
instance (priority := 900) {t e : TypeId} {sz b len cap n ofs : Nat} {k : IntKind} [hU : Und P t (.slice e)] [hs : SzOf P e sz] [hi : InfoOf P e] [ht : TimesL n sz ofs] : PrimC (ixA P t (sl b 0 len cap) (.int k (no_index (@OfNat.ofNat Int n instOfNat)))) (n < len) (ptr b ofs) := ⟨fun h => by
  have e : (@OfNat.ofNat Int n instOfNat) = ((n : Nat) : Int) := rfl
  rw [e]
  unfold ixA sl; rw [hU.eq]; simp only; rw [if_pos ⟨hi.is, by omega, by omega⟩, hs.eq, Int.toNat_natCast, ht.eq, Nat.zero_add]⟩
theorem St.drop1 {H0 B0 B : AH} {x : Nat × Blk} {L : List (Nat × Blk)} {H : AH} (h : St H0 B0 B (x :: L) H) : St H0 B0 B L H := h.drop (List.sublist_cons_self x L)
theorem Upd.mem2 {b : Nat} {K K' : Blk} {L L' : List (Nat × Blk)} (h : Upd b K K' L L') : (b, K') ∈ L' := by
  induction h with
  | head => exact .head _
  | tail _ _ ih => exact .tail _ ih
theorem Upd.make {b : Nat} {K K' : Blk} {L : List (Nat × Blk)} (h : (b, K) ∈ L) : ∃ L', Upd b K K' L L' := by
  induction L with
  | nil => cases h
  | cons x L ih =>
    cases h with
    | head => exact ⟨_, .head _⟩
    | tail _ h => exact (ih h).elim fun L' h' => ⟨_, .tail x h'⟩
theorem Upd.fix {b : Nat} {K K' : Blk} {L L' L'' : List (Nat × Blk)} (h : Upd b K K' L L') (hn : (L.map Prod.fst).Nodup) (h' : Upd b K K' L L'') : L'' = L' := by
  induction h generalizing L'' with
  | head L =>
    cases h' with
    | head => rfl
    | tail _ h' => exact absurd (mem_fst h'.mem rfl) (List.nodup_cons.mp hn).1
  | tail x h ih =>
    cases h' with
    | head => exact absurd (mem_fst h.mem rfl) (List.nodup_cons.mp hn).1
    | tail _ h' => rw [ih (List.nodup_cons.mp hn).2 h']
theorem Upd.other {b c : Nat} {K K' K2 : Blk} {L L' : List (Nat × Blk)} (h : Upd b K K' L L') (hc : (c, K2) ∈ L) (hn : c ≠ b) : (c, K2) ∈ L' := by
  induction h with
  | head L =>
    cases hc with
    | head => exact absurd rfl hn
    | tail _ hc => exact .tail _ hc
  | tail x h ih =>
    cases hc with
    | head => exact .head _
    | tail _ hc => exact .tail _ (ih hc)
theorem Mo.le {B H : AH} (h : Mo B H) : Le B H := ⟨h⟩
end Go.AM
set_option linter.unusedVariables false
namespace Go.AM
variable {α β R : Type} {P : Program}
class MoC (B : outParam AH) (B' : AH) : Prop where
  mo : Mo B B'
class MoT (B B' : AH) : Prop where
  mo : Mo B B'
instance {B : AH} : MoT B B := ⟨Mo.refl B⟩
instance (priority := low) {A B C : AH} [h : MoC B C] [k : MoT A B] : MoT A C := ⟨k.mo.trans h.mo⟩
/-- Digits that stand, from some time on. -/
class RdT (B : AH) (v : Value) (xs : outParam (List Nat)) : Prop where
  rd : RdN B v xs
instance {B0 B : AH} {v : Value} {xs : List Nat} [h : RdN B0 v xs] [t : MoT B0 B] : RdT B v xs := ⟨h.mono t.mo⟩
instance {B : AH} : RdT B (.slice none 0 0) [] := ⟨RdN.nil⟩
theorem Ev.callD {H0 B0 B : AH} {L : List (Nat × Blk)} {H : AH} {g : Nat → Nat → Option (Value × AH)} {Post : AH → Value → Prop} {f : Nat → Nat → Value → AH → Option R} {Q : R → Prop} [hS : St H0 B0 B L H]
    (hc : Le B H → Ev g (An B H Post)) (h : ∀ v B' H', MoC B B' → St H0 B0 B' L H' → Post B' v → Ev (fun k n => f k n v H') Q) : Ev (fun k n => Go.AM.b2 (g k n) (f k n)) Q :=
  Ev.call hS hc fun v B' H' hm hS' hp => h v B' H' ⟨hm⟩ hS' hp
end Go.AM
set_option maxRecDepth 100000
namespace Go.AM.Y
open Go Go.AM Go.Proofs
instance : Und Try.prog 3 (.int .i64) := ⟨Try.underlying3⟩
instance : InfoOf Try.prog 3 := ⟨by kernel_rfl⟩
instance : AggOf Try.prog 3 false := ⟨by kernel_rfl⟩
instance : SzOf Try.prog 3 1 := ⟨by kernel_rfl⟩
instance : ZeroOf Try.prog 3 (.int .i64 0) := ⟨by kernel_rfl⟩
instance : Und Try.prog 4 (.bool) := ⟨Try.underlying4⟩
instance : InfoOf Try.prog 4 := ⟨by kernel_rfl⟩
instance : AggOf Try.prog 4 false := ⟨by kernel_rfl⟩
instance : SzOf Try.prog 4 1 := ⟨by kernel_rfl⟩
instance : ZeroOf Try.prog 4 (.bool false) := ⟨by kernel_rfl⟩
instance {a b : Bool} : PrimEq (bin Try.prog .eql 4 (.bool a) (.bool b)) (.bool (a == b)) := ⟨by cases a <;> cases b <;> kernel_rfl⟩
instance {a b : Bool} : PrimEq (bin Try.prog .neq 4 (.bool a) (.bool b)) (.bool (a != b)) := ⟨by cases a <;> cases b <;> kernel_rfl⟩
instance : Und Try.prog 5 (.int .u8) := ⟨Try.underlying5⟩
instance : InfoOf Try.prog 5 := ⟨by kernel_rfl⟩
instance : AggOf Try.prog 5 false := ⟨by kernel_rfl⟩
instance : SzOf Try.prog 5 1 := ⟨by kernel_rfl⟩
instance : ZeroOf Try.prog 5 (.int .u8 0) := ⟨by kernel_rfl⟩
instance : Und Try.prog 9 (.string) := ⟨Try.underlying9⟩
instance : InfoOf Try.prog 9 := ⟨by kernel_rfl⟩
instance : AggOf Try.prog 9 false := ⟨by kernel_rfl⟩
instance : SzOf Try.prog 9 1 := ⟨by kernel_rfl⟩
instance : ZeroOf Try.prog 9 (.string ByteArray.empty) := ⟨by kernel_rfl⟩
instance : Und Try.prog 22 (.slice 67) := ⟨Try.underlying22⟩
instance : InfoOf Try.prog 22 := ⟨by kernel_rfl⟩
instance : AggOf Try.prog 22 false := ⟨by kernel_rfl⟩
instance : SzOf Try.prog 22 1 := ⟨by kernel_rfl⟩
instance : ZeroOf Try.prog 22 (.slice none 0 0) := ⟨by kernel_rfl⟩
instance : Elt Try.prog 22 67 (.int .u32 0) 4 := ⟨Try.underlying22, by kernel_rfl, by kernel_rfl, by kernel_rfl, by kernel_rfl, by kernel_rfl, rfl, rfl⟩
instance : InfoOf Try.prog 24 := ⟨by kernel_rfl⟩
instance : AggOf Try.prog 24 true := ⟨by kernel_rfl⟩
instance : SzOf Try.prog 24 2 := ⟨by kernel_rfl⟩
instance : StructOf Try.prog 24 [.bool false, .slice none 0 0] := ⟨by kernel_rfl, _, Try.underlying24, by kernel_rfl⟩
instance : FieldOf Try.prog 24 0 0 4 := ⟨⟨_, _, Try.underlying24, rfl, rfl, rfl⟩, by decide +kernel⟩
instance : FieldOf Try.prog 24 1 1 22 := ⟨⟨_, _, Try.underlying24, rfl, rfl, rfl⟩, by decide +kernel⟩
instance : InfoOf Try.prog 26 := ⟨by kernel_rfl⟩
instance : AggOf Try.prog 26 true := ⟨by kernel_rfl⟩
instance : SzOf Try.prog 26 3 := ⟨by kernel_rfl⟩
instance : StructOf Try.prog 26 [.bool false, .slice none 0 0, .int .i64 0] := ⟨by kernel_rfl, _, Try.underlying26, by kernel_rfl⟩
instance : FieldOf Try.prog 26 0 0 24 := ⟨⟨_, _, Try.underlying26, rfl, rfl, rfl⟩, by decide +kernel⟩
instance : FieldOf Try.prog 26 1 2 3 := ⟨⟨_, _, Try.underlying26, rfl, rfl, rfl⟩, by decide +kernel⟩
instance : Und Try.prog 30 (.int .i64) := ⟨Try.underlying30⟩
instance : InfoOf Try.prog 30 := ⟨by kernel_rfl⟩
instance : AggOf Try.prog 30 false := ⟨by kernel_rfl⟩
instance : SzOf Try.prog 30 1 := ⟨by kernel_rfl⟩
instance : ZeroOf Try.prog 30 (.int .i64 0) := ⟨by kernel_rfl⟩
instance : Und Try.prog 67 (.int .u32) := ⟨Try.underlying67⟩
instance : InfoOf Try.prog 67 := ⟨by kernel_rfl⟩
instance : AggOf Try.prog 67 false := ⟨by kernel_rfl⟩
instance : SzOf Try.prog 67 1 := ⟨by kernel_rfl⟩
instance : ZeroOf Try.prog 67 (.int .u32 0) := ⟨by kernel_rfl⟩
instance : InfoOf Try.prog 71 := ⟨by kernel_rfl⟩
instance : AggOf Try.prog 71 true := ⟨by kernel_rfl⟩
instance : SzOf Try.prog 71 1 := ⟨by kernel_rfl⟩
instance : StructOf Try.prog 71 [.int .i64 0] := ⟨by kernel_rfl, _, Try.underlying71, by kernel_rfl⟩
instance : FieldOf Try.prog 71 0 0 30 := ⟨⟨_, _, Try.underlying71, rfl, rfl, rfl⟩, by decide +kernel⟩
instance : InfoOf Try.prog 73 := ⟨by kernel_rfl⟩
instance : AggOf Try.prog 73 true := ⟨by kernel_rfl⟩
instance : SzOf Try.prog 73 4 := ⟨by kernel_rfl⟩
instance : StructOf Try.prog 73 [.int .i64 0, .bool false, .slice none 0 0, .int .i64 0] := ⟨by kernel_rfl, _, Try.underlying73, by kernel_rfl⟩
instance : FieldOf Try.prog 73 0 0 71 := ⟨⟨_, _, Try.underlying73, rfl, rfl, rfl⟩, by decide +kernel⟩
instance : FieldOf Try.prog 73 1 1 26 := ⟨⟨_, _, Try.underlying73, rfl, rfl, rfl⟩, by decide +kernel⟩
instance : InfoOf Try.prog 104 := ⟨by kernel_rfl⟩
instance : AggOf Try.prog 104 true := ⟨by kernel_rfl⟩
instance : SzOf Try.prog 104 1 := ⟨by kernel_rfl⟩
instance : StructOf Try.prog 104 [.slice none 0 0] := ⟨by kernel_rfl, _, Try.underlying104, by kernel_rfl⟩
instance : FieldOf Try.prog 104 0 0 22 := ⟨⟨_, _, Try.underlying104, rfl, rfl, rfl⟩, by decide +kernel⟩
instance : InfoOf Try.prog 106 := ⟨by kernel_rfl⟩
instance : AggOf Try.prog 106 true := ⟨by kernel_rfl⟩
instance : SzOf Try.prog 106 2 := ⟨by kernel_rfl⟩
instance : StructOf Try.prog 106 [.slice none 0 0, .bool false] := ⟨by kernel_rfl, _, Try.underlying106, by kernel_rfl⟩
instance : FieldOf Try.prog 106 0 0 104 := ⟨⟨_, _, Try.underlying106, rfl, rfl, rfl⟩, by decide +kernel⟩
instance : FieldOf Try.prog 106 1 1 4 := ⟨⟨_, _, Try.underlying106, rfl, rfl, rfl⟩, by decide +kernel⟩
instance : Und Try.prog 111 (.int .u64) := ⟨Try.underlying111⟩
instance : InfoOf Try.prog 111 := ⟨by kernel_rfl⟩
instance : AggOf Try.prog 111 false := ⟨by kernel_rfl⟩
instance : SzOf Try.prog 111 1 := ⟨by kernel_rfl⟩
instance : ZeroOf Try.prog 111 (.int .u64 0) := ⟨by kernel_rfl⟩
instance : Und Try.prog 114 (.slice 26) := ⟨Try.underlying114⟩
instance : InfoOf Try.prog 114 := ⟨by kernel_rfl⟩
instance : AggOf Try.prog 114 false := ⟨by kernel_rfl⟩
instance : SzOf Try.prog 114 1 := ⟨by kernel_rfl⟩
instance : ZeroOf Try.prog 114 (.slice none 0 0) := ⟨by kernel_rfl⟩
instance : Und Try.prog 126 (.slice 5) := ⟨Try.underlying126⟩
instance : InfoOf Try.prog 126 := ⟨by kernel_rfl⟩
instance : AggOf Try.prog 126 false := ⟨by kernel_rfl⟩
instance : SzOf Try.prog 126 1 := ⟨by kernel_rfl⟩
instance : ZeroOf Try.prog 126 (.slice none 0 0) := ⟨by kernel_rfl⟩
instance : Elt Try.prog 126 5 (.int .u8 0) 1 := ⟨Try.underlying126, by kernel_rfl, by kernel_rfl, by kernel_rfl, by kernel_rfl, by kernel_rfl, rfl, rfl⟩
end Go.AM.Y
set_option linter.unusedVariables false
namespace Go.AM
variable {α β R : Type} {P : Program}
section
variable {t e : TypeId} {z : Value} {sz : Nat}
def Acc (e : TypeId) (H0 B0 B : AH) (L : List (Nat × Blk)) (H : AH) (v : Value) (ds : List Nat) : Prop :=
  (ds = [] ∧ (v = .slice none 0 0 ∨ ∃ b off, v = sl b off 0 0) ∧ St H0 B0 B L H) ∨
  (ds ≠ [] ∧ ∃ b kd cap, v = sl b 0 ds.length cap ∧ (kd = .grow ∧ cap ≠ 0 ∧ ds.length ≤ cap ∨ kd = .fix ∧ cap = ds.length) ∧ St H0 B0 B ((b, ⟨ds.map u32, e, kd⟩) :: L) H)
theorem Acc.nil {H0 B0 B L H} (hS : St H0 B0 B L H) : Acc e H0 B0 B L H (.slice none 0 0) [] := .inl ⟨rfl, .inl rfl, hS⟩
theorem Acc.le {H0 B0 B L H v ds} (h : Acc e H0 B0 B L H v ds) : Le B H := by
  rcases h with ⟨_, _, hS⟩ | ⟨_, b, kd, cap, _, _, hS⟩
  · exact hS.lel
  · exact hS.lel
theorem Acc.st {H0 B0 B L H v ds} (h : Acc e H0 B0 B L H v ds) : St H0 B0 B L H := by
  rcases h with ⟨_, _, hS⟩ | ⟨_, b, kd, cap, _, _, hS⟩
  · exact hS
  · exact hS.drop1
theorem drop2 {x y : Nat × Blk} {L : List (Nat × Blk)} {H0 B0 B H} (h : St H0 B0 B (x :: y :: L) H) : St H0 B0 B (x :: L) H := h.drop (.cons_cons _ (List.sublist_cons_self _ _))
theorem drop3 {x y z : Nat × Blk} {L : List (Nat × Blk)} {H0 B0 B H} (h : St H0 B0 B (x :: y :: z :: L) H) : St H0 B0 B (x :: L) H := drop2 (drop2 h)
/-- One more digit. -/
theorem Acc.push {H0 B0 B : AH} {L : List (Nat × Blk)} {H : AH} {v : Value} {ds : List Nat} {d : Nat} {f : Nat → Nat → Value → AH → Option R} {Q : R → Prop} [hE : Elt P t e (.int .u32 0) sz] (h : Acc e H0 B0 B L H v ds)
    (hl : (ds.length + 1) * sz ≤ 140737488355328 ∧ ds.length + 1 ≤ 9223372036854775807) (hk : ∀ v' B' H', MoC B B' → Acc e H0 B0 B' L H' v' (ds ++ [d]) → Ev (fun k n => f k n v' H') Q) :
    Ev (fun k n => Go.AM.b2 (Go.AM.buildS P t H 1 [(0, u32 d)]) fun w h => Go.AM.b2 (Go.AM.ap P t t h v w) (f k n)) Q := by
  have e1 : ([d].map u32).length = 1 := rfl
  have hlen : (ds.map u32).length = ds.length := List.length_map ..
  rcases h with ⟨rfl, hv, hS⟩ | ⟨hne, b, kd, cap, rfl, hkc, hS⟩
  · refine Ev.bsC (P := P) (t := t) (by decide) fun bw H1 hS1 => ?_
    have hx : Sc H1 (sl bw 0 1 1) ([d].map u32) := hS1.sc (.head _) (Nat.le_refl 1)
    refine Ev.apNew hE hE.U hS1 (hv.imp id fun ⟨b, off, h⟩ => ⟨b, off, 0, h⟩) hx (all_u32 _) (by simp) ⟨by simpa using hl.1, by simp⟩ fun b' B' H' hm hS' => ?_
    exact hk _ B' H' ⟨hm⟩ (.inr ⟨by simp, b', .grow, 2, rfl, .inl ⟨rfl, by decide, by simp⟩, drop2 hS'⟩)
  · refine Ev.bsC (P := P) (t := t) (by decide) fun bw H1 hS1 => ?_
    have hx : Sc H1 (sl bw 0 1 1) ([d].map u32) := hS1.sc (.head _) (Nat.le_refl 1)
    rcases hkc with ⟨rfl, hc, hcl⟩ | ⟨rfl, rfl⟩
    · have hS2 : St H0 B0 B ((b, ⟨ds.map u32, e, .grow⟩) :: (bw, ⟨[u32 d], e, .fix⟩) :: L) H1 := hS1.perm (List.Perm.swap _ _ _)
      have hk2 := Ev.apGrow (b := b) (cap := cap) (cs := ds.map u32) (v := sl bw 0 1 1) (ds := [d].map u32) (f := f) (Q := Q) hE hE.U hS2 hc hx (all_u32 _) (by simp) (by rw [hlen, e1]; exact hl) (fun b' B' H' hm hS' => by
        have := hk (sl b' 0 (ds ++ [d]).length ((ds ++ [d]).length + 1)) B' H' ⟨hm⟩ (.inr ⟨by simp, b', .grow, _, rfl, .inl ⟨rfl, by omega, by omega⟩, by rw [List.map_append]; exact drop2 hS'⟩)
        have e2 : (ds.map u32 ++ [d].map u32).length = (ds ++ [d]).length := by simp
        rw [e2]; exact this)
      rw [hlen] at hk2
      exact hk2
    · have hk2 := Ev.apFull (b := b) (cs := ds.map u32) (v := sl bw 0 1 1) (ds := [d].map u32) (f := f) (Q := Q) hE hE.U hS1 (hS1.get (.tail _ (.head _))) (by simpa using hne) hx (all_u32 _) (by simp) (by rw [hlen, e1]; exact hl) (fun b' B' H' hm hS' => by
        have := hk (sl b' 0 (ds ++ [d]).length ((ds ++ [d]).length + 1)) B' H' ⟨hm⟩ (.inr ⟨by simp, b', .grow, _, rfl, .inl ⟨rfl, by omega, by omega⟩, by rw [List.map_append]; exact drop3 hS'⟩)
        have e2 : (ds.map u32 ++ [d].map u32).length = (ds ++ [d]).length := by simp
        rw [e2]; exact this)
      rw [hlen] at hk2
      exact hk2
/-- It is done. -/
theorem Acc.freeze {H0 B0 B : AH} {L : List (Nat × Blk)} {H : AH} {v : Value} {ds : List Nat} (h : Acc e H0 B0 B L H v ds) (hs : small ds) : ∃ B', MoC B B' ∧ RdN B' v ds ∧ St H0 B0 B' L H := by
  rcases h with ⟨rfl, hv, hS⟩ | ⟨hne, b, kd, cap, rfl, hkc, hS⟩
  · refine ⟨B, ⟨Mo.refl B⟩, ?_, hS⟩
    rcases hv with rfl | ⟨b, off, rfl⟩
    · exact RdN.nil
    · exact ⟨.inr ⟨b, off, 0, rfl, Nat.le_refl _, .inl rfl⟩, hs⟩
  · obtain ⟨B', h1, h2, h3⟩ := hS.freezeN hs rfl (cap := cap) (by rcases hkc with ⟨_, _, h⟩ | ⟨_, h⟩ <;> omega)
    exact ⟨B', ⟨h1⟩, h2, h3⟩
/-- A call beside it. -/
theorem Acc.mo {H0 B0 B : AH} {L : List (Nat × Blk)} {H : AH} {v : Value} {ds : List Nat} (h : Acc e H0 B0 B L H v ds) {r : Value × AH} {Post : AH → Value → Prop} (ha : An B H Post r) : ∃ B', Mo B B' ∧ Acc e H0 B0 B' L r.2 v ds ∧ Post B' r.1 := by
  rcases h with ⟨rfl, hv, hS⟩ | ⟨hne, b, kd, cap, rfl, hkc, hS⟩
  · obtain ⟨B', h1, h2, h3⟩ := hS.call ha
    exact ⟨B', h1, .inl ⟨rfl, hv, h2⟩, h3⟩
  · obtain ⟨B', h1, h2, h3⟩ := hS.call ha
    exact ⟨B', h1, .inr ⟨hne, b, kd, cap, rfl, hkc, h2⟩, h3⟩
end
theorem val_ext {xs ys : List Nat} (h : ∀ t, xs.getD t 0 = ys.getD t 0) : val xs = val ys := by
  induction xs generalizing ys with
  | nil =>
    induction ys with
    | nil => rfl
    | cons y ys ih =>
      have h0 := h 0
      have := ih (fun t => by have := h (t + 1); simpa using this)
      simp only [val]
      have h0 : 0 = y := by simpa using h0
      rw [← this, ← h0]; rfl
  | cons x xs ih =>
    cases ys with
    | nil =>
      have h0 : x = 0 := by simpa using h 0
      have := ih (ys := []) (fun t => by have := h (t + 1); simpa using this)
      simp only [val]
      rw [this, h0]; rfl
    | cons y ys =>
      have h0 : x = y := by simpa using h 0
      have := ih (ys := ys) (fun t => by have := h (t + 1); simpa using this)
      simp only [val]
      rw [this, h0]
theorem val_snoc (ds : List Nat) (d : Nat) : val (ds ++ [d]) = val ds + 4294967296 ^ ds.length * d := by rw [val_append]; simp [val]
theorem small_snoc {ds : List Nat} {d : Nat} (h : small ds) (hd : d < 4294967296) : small (ds ++ [d]) := h.append (fun x hx => by simp at hx; omega)
theorem small_nil : small [] := fun x hx => absurd hx List.not_mem_nil
end Go.AM
set_option linter.unusedVariables false
set_option linter.unusedSimpArgs false
set_option maxRecDepth 100000
namespace Go.AM.Y
open Go Go.AM Go.Proofs
attribute [local irreducible] run bin un ld st box newV mkS fldA fld ixA ix slc slc3 build buildS cv cvS ap cpy lenV gOp pickV b2 aIf aChk evalK resume iterD Option.bind

theorem take_limbs {xs : List Nat} (hs : small xs) {n : Nat} (hn : n ≤ xs.length) (hz : ∀ t, n ≤ t → xs.getD t 0 = 0) (ht : n = 0 ∨ xs.getD (n - 1) 0 ≠ 0) : xs.take n = limbs (val xs) := by
  have e : val xs = val (xs.take n) := by
    refine val_ext fun t => ?_
    by_cases h : t < n
    · rw [getD_take h]
    · rw [hz t (by omega), List.getD_eq_getElem?_getD, List.getElem?_eq_none (by rw [List.length_take]; omega)]; rfl
  rw [e]
  refine (limbs_val (hs.take n) fun y hy => ?_).symm
  rcases ht with rfl | ht
  · simp at hy
  · rw [List.getLast?_eq_getElem?, List.length_take, Nat.min_eq_left hn] at hy
    have : (xs.take n).getD (n - 1) 0 = y := by rw [List.getD_eq_getElem?_getD, hy]; rfl
    rw [← this]
    by_cases h0 : n = 0
    · subst h0; simp at hy
    · rw [getD_take (by omega)]; exact ht
theorem rtrim_loop {B H : AH} {a : Value} {xs : List Nat} [hx : RdN B a xs] (hL : Le B H) (hl : xs.length < 549755813888) : ∀ (n : Nat), n ≤ xs.length → (∀ t, n ≤ t → xs.getD t 0 = 0) →
    Ev (fun k l => f114_L0 k a (i64 n) l H) (fun o => ∃ n, o = (.exit 0, f114_X_L0 a (i64 n), H) ∧ n ≤ xs.length ∧ xs.take n = limbs (val xs)) := by
  intro n
  have hS := St.start hL
  induction n with
  | zero =>
    intro hn hz
    refine Ev.succ (fun k l => f114_L0_succ k _ _ l H) ?_
    repeat (first | refine Ev.s ?_ | refine Ev.newC fun _ _ _ => ?_ | refine Ev.boxC fun _ _ _ => ?_ | refine Ev.stC fun _ _ => ?_ | refine Ev.sc (by omega) ?_ | refine Ev.scg (by omega) ?_)
    rw [decide_eq_false (by omega)]
    repeat (first | refine Ev.s ?_ | refine Ev.newC fun _ _ _ => ?_ | refine Ev.boxC fun _ _ _ => ?_ | refine Ev.stC fun _ _ => ?_ | refine Ev.sc (by omega) ?_ | refine Ev.scg (by omega) ?_)
    exact Ev.ret ⟨0, rfl, hn, take_limbs hx.sm hn hz (.inl rfl)⟩
  | succ n ih =>
    intro hn hz
    refine Ev.succ (fun k l => f114_L0_succ k _ _ l H) ?_
    repeat (first | refine Ev.s ?_ | refine Ev.newC fun _ _ _ => ?_ | refine Ev.boxC fun _ _ _ => ?_ | refine Ev.stC fun _ _ => ?_ | refine Ev.sc (by omega) ?_ | refine Ev.scg (by omega) ?_)
    rw [decide_eq_true (by omega)]
    repeat (first | refine Ev.s ?_ | refine Ev.newC fun _ _ _ => ?_ | refine Ev.boxC fun _ _ _ => ?_ | refine Ev.stC fun _ _ => ?_ | refine Ev.sc (by omega) ?_ | refine Ev.scg (by omega) ?_)
    refine Ev.ixCg n rfl (by omega) fun p hp => ?_
    repeat (first | refine Ev.s ?_ | refine Ev.newC fun _ _ _ => ?_ | refine Ev.boxC fun _ _ _ => ?_ | refine Ev.stC fun _ _ => ?_ | refine Ev.sc (by omega) ?_ | refine Ev.scg (by omega) ?_)
    by_cases h : xs.getD n 0 = 0
    · rw [decide_eq_true h]
      repeat (first | refine Ev.s ?_ | refine Ev.newC fun _ _ _ => ?_ | refine Ev.boxC fun _ _ _ => ?_ | refine Ev.stC fun _ _ => ?_ | refine Ev.sc (by omega) ?_ | refine Ev.scg (by omega) ?_)
      exact ih (by omega) fun t ht => by
        by_cases e : t = n
        · rw [e]; exact h
        · exact hz t (by omega)
    · rw [decide_eq_false h]
      repeat (first | refine Ev.s ?_ | refine Ev.newC fun _ _ _ => ?_ | refine Ev.boxC fun _ _ _ => ?_ | refine Ev.stC fun _ _ => ?_ | refine Ev.sc (by omega) ?_ | refine Ev.scg (by omega) ?_)
      exact Ev.ret ⟨n + 1, rfl, hn, take_limbs hx.sm hn hz (.inr h)⟩
theorem rTrim_spec {B H : AH} {xs : List Nat} {a : Value} (hm : xs.length < 549755813888) [ha : RdT B a xs] (hL : Le B H) : Ev (fun k _ => rn k 114 [a] H) (An B H fun B' v => RdN B' v (limbs (val xs))) := by
  refine Ev.fn (fun k => f114_eq k a H) ?_
  have hS := St.start hL
  have ha := ha.rd
  repeat (first | refine Ev.s ?_ | refine Ev.newC fun _ _ _ => ?_ | refine Ev.boxC fun _ _ _ => ?_ | refine Ev.stC fun _ _ => ?_ | refine Ev.sc (by omega) ?_ | refine Ev.scg (by omega) ?_)
  refine Ev.bind (Ev.loop (rtrim_loop hL hm xs.length (Nat.le_refl _) (fun t ht => by rw [List.getD_eq_getElem?_getD, List.getElem?_eq_none (by omega)]; rfl))) ?_
  rintro _ ⟨n, rfl, hn, e⟩
  refine Ev.eq (fun k _ => f114_A0_x0 k _ _ _) ?_
  refine Ev.uptoC n rfl hn fun w hw => ?_
  rw [e] at hw
  have hsl := small_limbs (val xs)
  have hll : (limbs (val xs)).length ≤ xs.length := limbs_length_le (val_lt ha.sm)
  generalize limbs (val xs) = ys at *
  by_cases h0 : ys = []
  · subst h0
    refine Ev.apNone Ew Us (.inl rfl) (hw.sc.up hS.le) ?_
    exact Ev.doneC RdN.nil
  · refine Ev.apNew Ew Us hS (.inl rfl) (hw.sc.up hS.le) (all_u32 ys) (by simpa using h0) (by rw [List.length_map]; omega) fun b3 B3 H3 hm3 hS3 => ?_
    obtain ⟨B4, hm4, hr4, hS4⟩ := hS3.freezeN (n := (ys.map u32).length) hsl (List.length_map ..) (cap := (ys.map u32).length + 1) (by rw [List.length_map]; omega)
    exact Ev.doneC hr4
theorem rat_spec {B H : AH} {xs : List Nat} {a : Value} {i : Nat} (hi : i < 9223372036854775808) [ha : RdT B a xs] (hL : Le B H) : Ev (fun k _ => rn k 129 [a, i64 i] H) (Pu H fun v => v = u64 (xs.getD i 0)) := by
  refine Ev.fn (fun k => f129_eq k a _ H) ?_
  have hS := St.start hL
  have ha := ha.rd
  repeat (first | refine Ev.s ?_ | refine Ev.newC fun _ _ _ => ?_ | refine Ev.boxC fun _ _ _ => ?_ | refine Ev.stC fun _ _ => ?_ | refine Ev.sc (by omega) ?_ | refine Ev.scg (by omega) ?_)
  by_cases h : xs.length ≤ i
  · rw [decide_eq_true h]
    repeat (first | refine Ev.s ?_ | refine Ev.newC fun _ _ _ => ?_ | refine Ev.boxC fun _ _ _ => ?_ | refine Ev.stC fun _ _ => ?_ | refine Ev.sc (by omega) ?_ | refine Ev.scg (by omega) ?_)
    exact Ev.doneU (by rw [List.getD_eq_getElem?_getD, List.getElem?_eq_none h]; rfl)
  · rw [decide_eq_false h]
    repeat (first | refine Ev.s ?_ | refine Ev.newC fun _ _ _ => ?_ | refine Ev.boxC fun _ _ _ => ?_ | refine Ev.stC fun _ _ => ?_ | refine Ev.sc (by omega) ?_ | refine Ev.scg (by omega) ?_)
    refine Ev.ixC i rfl (by omega) fun p hp => ?_
    have := ha.sm.getD i
    repeat (first | refine Ev.s ?_ | refine Ev.newC fun _ _ _ => ?_ | refine Ev.boxC fun _ _ _ => ?_ | refine Ev.stC fun _ _ => ?_ | refine Ev.sc (by omega) ?_ | refine Ev.scg (by omega) ?_)
    exact Ev.doneU rfl
theorem rFrom_spec {B H : AH} {n : Nat} (hn : n < 18446744073709551616) (hL : Le B H) : Ev (fun k _ => rn k 120 [u64 n] H) (An B H fun B' v => RdN B' v (limbs n)) := by
  refine Ev.fn (fun k => f120_eq k _ H) ?_
  have hS := St.start hL
  repeat (first | refine Ev.s ?_ | refine Ev.newC fun _ _ _ => ?_ | refine Ev.boxC fun _ _ _ => ?_ | refine Ev.stC fun _ _ => ?_ | refine Ev.sc (by omega) ?_ | refine Ev.scg (by omega) ?_)
  refine Ev.prim (shrL (by decide)) ?_
  repeat (first | refine Ev.s ?_ | refine Ev.newC fun _ _ _ => ?_ | refine Ev.boxC fun _ _ _ => ?_ | refine Ev.stC fun _ _ => ?_ | refine Ev.sc (by omega) ?_ | refine Ev.scg (by omega) ?_)
  refine Ev.bsC (by decide) fun b2 H2 hS2 => ?_
  rw [Nat.mod_eq_of_lt (show n / 2 ^ 32 < 4294967296 by omega)] at hS2
  obtain ⟨B3, hm3, h3, hS3⟩ := hS2.freezeN (n := 2) (cap := 2) (xs := [n % 4294967296, n / 4294967296]) (by intro x hx; simp at hx; omega) rfl (Nat.le_refl _)
  refine Ev.callD (rTrim_spec (xs := [n % 4294967296, n / 4294967296]) (by simp)) fun v B1 H1 hm1 hS1 h1 => ?_
  rw [show val [n % 4294967296, n / 4294967296] = n by simp only [val]; omega] at h1
  exact Ev.doneC h1
theorem rcmp_loop {B H : AH} {a b : Value} {xs ys : List Nat} [hx : RdN B a xs] [hy : RdN B b ys] (hL : Le B H) : ∀ (n : Nat), n < 4611686018427387904 → (∀ t, n ≤ t → xs.getD t 0 = ys.getD t 0) →
    Ev (fun k l => f106_L0 k a b (.int .i64 ((n : Int) - 1)) l H) (fun o => (o = (.exit 0, f106_X_L0 unk, H) ∧ val xs = val ys) ∨ (∃ c, o = (.ret, f106_X_L0 (.int .i64 c), H) ∧ c = cmpN (val xs) (val ys))) := by
  intro n
  have hS := St.start hL
  induction n with
  | zero =>
    intro _ hz
    refine Ev.succ (fun k l => f106_L0_succ k _ _ _ l H) ?_
    repeat (first | refine Ev.s ?_ | refine Ev.newC fun _ _ _ => ?_ | refine Ev.boxC fun _ _ _ => ?_ | refine Ev.stC fun _ _ => ?_ | refine Ev.sc (by omega) ?_ | refine Ev.scg (by omega) ?_)
    rw [decide_eq_false (by omega)]
    repeat (first | refine Ev.s ?_ | refine Ev.newC fun _ _ _ => ?_ | refine Ev.boxC fun _ _ _ => ?_ | refine Ev.stC fun _ _ => ?_ | refine Ev.sc (by omega) ?_ | refine Ev.scg (by omega) ?_)
    exact Ev.ret (.inl ⟨rfl, val_ext fun t => hz t (by omega)⟩)
  | succ n ih =>
    intro hn hz
    refine Ev.succ (fun k l => f106_L0_succ k _ _ _ l H) ?_
    have drop_eq : val (xs.drop (n + 1)) = val (ys.drop (n + 1)) := val_ext fun t => by
      rw [List.getD_eq_getElem?_getD, List.getElem?_drop, List.getD_eq_getElem?_getD, List.getElem?_drop, ← List.getD_eq_getElem?_getD, ← List.getD_eq_getElem?_getD]
      exact hz _ (by omega)
    have hdx := val_drop xs (n + 1)
    have hdy := val_drop ys (n + 1)
    rw [drop_eq] at hdx
    have e : ((n + 1 : Nat) : Int) - 1 = (n : Int) := by omega
    rw [e]
    repeat (first | refine Ev.s ?_ | refine Ev.newC fun _ _ _ => ?_ | refine Ev.boxC fun _ _ _ => ?_ | refine Ev.stC fun _ _ => ?_ | refine Ev.sc (by omega) ?_ | refine Ev.scg (by omega) ?_)
    rw [decide_eq_true (by omega)]
    repeat (first | refine Ev.s ?_ | refine Ev.newC fun _ _ _ => ?_ | refine Ev.boxC fun _ _ _ => ?_ | refine Ev.stC fun _ _ => ?_ | refine Ev.sc (by omega) ?_ | refine Ev.scg (by omega) ?_)
    refine Ev.callU (rat_spec (xs := xs) (by omega) hL) ?_
    rintro _ rfl
    refine Ev.callU (rat_spec (xs := ys) (by omega) hL) ?_
    rintro _ rfl
    repeat (first | refine Ev.s ?_ | refine Ev.newC fun _ _ _ => ?_ | refine Ev.boxC fun _ _ _ => ?_ | refine Ev.stC fun _ _ => ?_ | refine Ev.sc (by omega) ?_ | refine Ev.scg (by omega) ?_)
    by_cases h : xs.getD n 0 < ys.getD n 0
    · rw [decide_eq_true h]
      repeat (first | refine Ev.s ?_ | refine Ev.newC fun _ _ _ => ?_ | refine Ev.boxC fun _ _ _ => ?_ | refine Ev.stC fun _ _ => ?_ | refine Ev.sc (by omega) ?_ | refine Ev.scg (by omega) ?_)
      have := val_take_cmp hx.sm hy.sm n h
      exact Ev.ret (.inr ⟨-1, rfl, by unfold cmpN; rw [if_pos (by omega)]⟩)
    rw [decide_eq_false h]
    repeat (first | refine Ev.s ?_ | refine Ev.newC fun _ _ _ => ?_ | refine Ev.boxC fun _ _ _ => ?_ | refine Ev.stC fun _ _ => ?_ | refine Ev.sc (by omega) ?_ | refine Ev.scg (by omega) ?_)
    refine Ev.callU (rat_spec (xs := xs) (by omega) hL) ?_
    rintro _ rfl
    refine Ev.callU (rat_spec (xs := ys) (by omega) hL) ?_
    rintro _ rfl
    repeat (first | refine Ev.s ?_ | refine Ev.newC fun _ _ _ => ?_ | refine Ev.boxC fun _ _ _ => ?_ | refine Ev.stC fun _ _ => ?_ | refine Ev.sc (by omega) ?_ | refine Ev.scg (by omega) ?_)
    by_cases h2 : ys.getD n 0 < xs.getD n 0
    · rw [decide_eq_true h2]
      repeat (first | refine Ev.s ?_ | refine Ev.newC fun _ _ _ => ?_ | refine Ev.boxC fun _ _ _ => ?_ | refine Ev.stC fun _ _ => ?_ | refine Ev.sc (by omega) ?_ | refine Ev.scg (by omega) ?_)
      have := val_take_cmp hy.sm hx.sm n h2
      exact Ev.ret (.inr ⟨1, rfl, by unfold cmpN; rw [if_neg (by omega), if_pos (by omega)]⟩)
    rw [decide_eq_false h2]
    repeat (first | refine Ev.s ?_ | refine Ev.newC fun _ _ _ => ?_ | refine Ev.boxC fun _ _ _ => ?_ | refine Ev.stC fun _ _ => ?_ | refine Ev.sc (by omega) ?_ | refine Ev.scg (by omega) ?_)
    refine Ev.prim (bin_sub64 (by omega)) ?_
    refine ih (by omega) fun t ht => ?_
    by_cases e : t = n
    · rw [e]; omega
    · exact hz t (by omega)
theorem rCmp_spec {B H : AH} {xs ys : List Nat} {a b : Value} (hm : xs.length < 549755813888) (hm' : ys.length < 549755813888) [ha : RdT B a xs] [hb : RdT B b ys] (hL : Le B H) :
    Ev (fun k _ => rn k 106 [a, b] H) (Pu H fun v => v = .int .i64 (cmpN (val xs) (val ys))) := by
  refine Ev.fn (fun k => f106_eq k a b H) ?_
  have hS := St.start hL
  have ha := ha.rd
  have hb := hb.rd
  repeat (first | refine Ev.s ?_ | refine Ev.newC fun _ _ _ => ?_ | refine Ev.boxC fun _ _ _ => ?_ | refine Ev.stC fun _ _ => ?_ | refine Ev.sc (by omega) ?_ | refine Ev.scg (by omega) ?_)
  rw [show (if (ys.length : Int) > (xs.length : Int) then (ys.length : Int) else (xs.length : Int)) = ((max xs.length ys.length : Nat) : Int) by split <;> omega]
  refine Ev.bind (Ev.loop (rcmp_loop (xs := xs) (ys := ys) hL (max xs.length ys.length) (by omega) (fun t ht => by rw [List.getD_eq_getElem?_getD, List.getD_eq_getElem?_getD, List.getElem?_eq_none (by omega), List.getElem?_eq_none (by omega)]))) ?_
  rintro _ (⟨rfl, e⟩ | ⟨c, rfl, e⟩)
  · refine Ev.eq (fun k _ => f106_A0_x0 k _ _) ?_
    exact Ev.doneU (by rw [e]; unfold cmpN; rw [if_neg (by omega), if_neg (by omega)])
  · refine Ev.eq (fun k _ => f106_A0_ret k _ _) ?_
    exact Ev.doneU (by rw [e])
end Go.AM.Y
set_option linter.unusedVariables false
set_option linter.unusedSimpArgs false
set_option maxRecDepth 100000
namespace Go.AM.Y
open Go Go.AM Go.Proofs
attribute [local irreducible] run bin un ld st box newV mkS fldA fld ixA ix slc slc3 build buildS cv cvS ap cpy lenV gOp pickV b2 aIf aChk evalK resume iterD Option.bind

abbrev AccW := Acc 67
theorem take_step {xs : List Nat} {i : Nat} : val (xs.take (i + 1)) = val (xs.take i) + 4294967296 ^ i * xs.getD i 0 := val_take_succ' xs i
theorem radd_fin {p a b v c : Nat} (hc : c ≤ 1) (h : v + p * 4294967296 * c = a + b) (h1 : a < p) (h2 : b < p) : v = a + b := by
  rcases Nat.le_one_iff_eq_zero_or_eq_one.mp hc with rfl | rfl
  · rw [Nat.mul_zero] at h; omega
  · rw [Nat.mul_one] at h; omega
theorem radd_loop {H0 B0 : AH} {L : List (Nat × Blk)} {xs ys : List Nat} {a b : Value} (hlx : xs.length < 549755813888) (hly : ys.length < 549755813888) :
    ∀ (m i : Nat) (ds : List Nat) (c : Nat) (v : Value) (B H : AH), i + m = max xs.length ys.length + 1 → RdN B a xs → RdN B b ys → AccW H0 B0 B L H v ds → small ds → ds.length = i → c ≤ 1 → val ds + 4294967296 ^ i * c = val (xs.take i) + val (ys.take i) →
    Ev (fun k n => f107_L0 k a b v (u64 c) (i64 i) n H) (fun o => ∃ B' H' v' ds, o = (.exit 0, f107_X_L0 v', H') ∧ Mo B B' ∧ AccW H0 B0 B' L H' v' ds ∧ small ds ∧ ds.length = max xs.length ys.length + 1 ∧ val ds = val xs + val ys) := by
  intro m
  induction m with
  | zero =>
    intro i ds c v B H hi ha hb hA hsm hl hc hv
    refine Ev.succ (fun k n => f107_L0_succ k _ _ _ _ _ n H) ?_
    repeat (first | refine Ev.s ?_ | refine Ev.newC fun _ _ _ => ?_ | refine Ev.boxC fun _ _ _ => ?_ | refine Ev.stC fun _ _ => ?_ | refine Ev.sc (by omega) ?_ | refine Ev.scg (by omega) ?_)
    rw [show (if (ys.length : Int) > (xs.length : Int) then (ys.length : Int) else (xs.length : Int)) = ((max xs.length ys.length : Nat) : Int) by split <;> omega]
    rw [decide_eq_false (by omega)]
    repeat (first | refine Ev.s ?_ | refine Ev.newC fun _ _ _ => ?_ | refine Ev.boxC fun _ _ _ => ?_ | refine Ev.stC fun _ _ => ?_ | refine Ev.sc (by omega) ?_ | refine Ev.scg (by omega) ?_)
    refine Ev.ret ⟨B, H, v, ds, rfl, Mo.refl B, hA, hsm, by omega, ?_⟩
    rw [List.take_of_length_le (by omega), List.take_of_length_le (by omega)] at hv
    have h1 : val xs < 4294967296 ^ (max xs.length ys.length) := Nat.lt_of_lt_of_le (val_lt ha.sm) (Nat.pow_le_pow_right (by decide) (by omega))
    have h2 : val ys < 4294967296 ^ (max xs.length ys.length) := Nat.lt_of_lt_of_le (val_lt hb.sm) (Nat.pow_le_pow_right (by decide) (by omega))
    have hi : i = max xs.length ys.length + 1 := by omega
    rw [hi, Nat.pow_succ] at hv
    exact radd_fin hc hv h1 h2
  | succ m ih =>
    intro i ds c v B H hi ha hb hA hsm hl hc hv
    refine Ev.succ (fun k n => f107_L0_succ k _ _ _ _ _ n H) ?_
    have hx := ha.sm.getD i
    have hy := hb.sm.getD i
    repeat (first | refine Ev.s ?_ | refine Ev.newC fun _ _ _ => ?_ | refine Ev.boxC fun _ _ _ => ?_ | refine Ev.stC fun _ _ => ?_ | refine Ev.sc (by omega) ?_ | refine Ev.scg (by omega) ?_)
    rw [show (if (ys.length : Int) > (xs.length : Int) then (ys.length : Int) else (xs.length : Int)) = ((max xs.length ys.length : Nat) : Int) by split <;> omega]
    rw [decide_eq_true (by omega)]
    repeat (first | refine Ev.s ?_ | refine Ev.newC fun _ _ _ => ?_ | refine Ev.boxC fun _ _ _ => ?_ | refine Ev.stC fun _ _ => ?_ | refine Ev.sc (by omega) ?_ | refine Ev.scg (by omega) ?_)
    refine Ev.callU (rat_spec (xs := xs) (by omega) hA.le) ?_
    rintro _ rfl
    refine Ev.callU (rat_spec (xs := ys) (by omega) hA.le) ?_
    rintro _ rfl
    repeat (first | refine Ev.s ?_ | refine Ev.newC fun _ _ _ => ?_ | refine Ev.boxC fun _ _ _ => ?_ | refine Ev.stC fun _ _ => ?_ | refine Ev.sc (by omega) ?_ | refine Ev.scg (by omega) ?_)
    refine hA.push (by omega) fun v' B' H' hm hA' => ?_
    refine Ev.prim (shrL (by decide)) ?_
    rw [show (2 : Nat) ^ 32 = 4294967296 from rfl]
    repeat (first | refine Ev.s ?_ | refine Ev.newC fun _ _ _ => ?_ | refine Ev.boxC fun _ _ _ => ?_ | refine Ev.stC fun _ _ => ?_ | refine Ev.sc (by omega) ?_ | refine Ev.scg (by omega) ?_)
    have hc' : (xs.getD i 0 + ys.getD i 0 + c) / 4294967296 ≤ 1 := by omega
    have hs := Nat.mod_add_div (xs.getD i 0 + ys.getD i 0 + c) 4294967296
    have hsm' := small_snoc hsm (Nat.mod_lt (xs.getD i 0 + ys.getD i 0 + c) (show 0 < 4294967296 by decide))
    have hv' : val (ds ++ [(xs.getD i 0 + ys.getD i 0 + c) % 4294967296]) + 4294967296 ^ (i + 1) * ((xs.getD i 0 + ys.getD i 0 + c) / 4294967296) = val (xs.take (i + 1)) + val (ys.take (i + 1)) := by
      rw [val_snoc, hl, take_step, take_step, Nat.pow_succ, Nat.add_assoc, mul_step hs]
      simp only [Nat.mul_add]
      omega
    refine (ih (i + 1) _ _ v' B' H' (by omega) (ha.mono hm.mo) (hb.mono hm.mo) hA' hsm' (by simp [hl]) hc' hv').mono ?_
    rintro o ⟨B2, H2, v2, ds2, h1, h2, h3⟩
    exact ⟨B2, H2, v2, ds2, h1, hm.mo.trans h2, h3⟩
theorem rAdd_spec {B H : AH} {xs ys : List Nat} {a b : Value} (hm : xs.length < 274877906944) (hm' : ys.length < 274877906944) [ha : RdT B a xs] [hb : RdT B b ys] (hL : Le B H) :
    Ev (fun k _ => rn k 107 [a, b] H) (An B H fun B' v => RdN B' v (limbs (val xs + val ys))) := by
  refine Ev.fn (fun k => f107_eq k a b H) ?_
  have hS := St.start hL
  refine Ev.bind (Ev.loop (radd_loop (by omega) (by omega) (max xs.length ys.length + 1) 0 [] 0 _ B H (by omega) ha.rd hb.rd (Acc.nil hS) small_nil rfl (by omega) (by simp [val]))) ?_
  rintro _ ⟨B2, H2, v2, ds, rfl, hm2, hA2, hsm, hl, hv⟩
  obtain ⟨B3, hm3, hr3, hS3⟩ := hA2.freeze hsm
  refine Ev.eq (fun k _ => f107_A0_x0 k _ _) ?_
  refine Ev.callD (rTrim_spec (xs := ds) (by omega)) fun v B4 H4 hm4 hS4 h4 => ?_
  rw [hv] at h4
  exact Ev.doneC h4
theorem rsub_loop {H0 B0 : AH} {L : List (Nat × Blk)} {xs ys : List Nat} {a b : Value} (hlx : xs.length < 549755813888) (hly : ys.length < 549755813888) :
    ∀ (m i : Nat) (ds : List Nat) (c : Nat) (v : Value) (B H : AH), i + m = xs.length → RdN B a xs → RdN B b ys → AccW H0 B0 B L H v ds → small ds → ds.length = i → c ≤ 1 → val ds + val (ys.take i) = val (xs.take i) + 4294967296 ^ i * c →
    Ev (fun k n => f118_L0 k a b v (u64 c) (i64 i) n H) (fun o => ∃ B' H' v' ds c, o = (.exit 0, f118_X_L0 v', H') ∧ Mo B B' ∧ AccW H0 B0 B' L H' v' ds ∧ small ds ∧ ds.length = xs.length ∧ val ds + val (ys.take xs.length) = val xs + 4294967296 ^ xs.length * c) := by
  intro m
  induction m with
  | zero =>
    intro i ds c v B H hi ha hb hA hsm hl hc hv
    refine Ev.succ (fun k n => f118_L0_succ k _ _ _ _ _ n H) ?_
    repeat (first | refine Ev.s ?_ | refine Ev.newC fun _ _ _ => ?_ | refine Ev.boxC fun _ _ _ => ?_ | refine Ev.stC fun _ _ => ?_ | refine Ev.sc (by omega) ?_ | refine Ev.scg (by omega) ?_)
    rw [decide_eq_false (by omega)]
    repeat (first | refine Ev.s ?_ | refine Ev.newC fun _ _ _ => ?_ | refine Ev.boxC fun _ _ _ => ?_ | refine Ev.stC fun _ _ => ?_ | refine Ev.sc (by omega) ?_ | refine Ev.scg (by omega) ?_)
    have hi : i = xs.length := by omega
    subst hi
    rw [List.take_of_length_le (l := xs) (by omega)] at hv
    exact Ev.ret ⟨B, H, v, ds, c, rfl, Mo.refl B, hA, hsm, hl, hv⟩
  | succ m ih =>
    intro i ds c v B H hi ha hb hA hsm hl hc hv
    refine Ev.succ (fun k n => f118_L0_succ k _ _ _ _ _ n H) ?_
    have hx := ha.sm.getD i
    have hy := hb.sm.getD i
    repeat (first | refine Ev.s ?_ | refine Ev.newC fun _ _ _ => ?_ | refine Ev.boxC fun _ _ _ => ?_ | refine Ev.stC fun _ _ => ?_ | refine Ev.sc (by omega) ?_ | refine Ev.scg (by omega) ?_)
    rw [decide_eq_true (by omega)]
    repeat (first | refine Ev.s ?_ | refine Ev.newC fun _ _ _ => ?_ | refine Ev.boxC fun _ _ _ => ?_ | refine Ev.stC fun _ _ => ?_ | refine Ev.sc (by omega) ?_ | refine Ev.scg (by omega) ?_)
    refine Ev.callU (rat_spec (xs := xs) (by omega) hA.le) ?_
    rintro _ rfl
    refine Ev.prim (addQ (b := 4294967296) (by omega)) ?_
    refine Ev.callU (rat_spec (xs := ys) (by omega) hA.le) ?_
    rintro _ rfl
    repeat (first | refine Ev.s ?_ | refine Ev.newC fun _ _ _ => ?_ | refine Ev.boxC fun _ _ _ => ?_ | refine Ev.stC fun _ _ => ?_ | refine Ev.sc (by omega) ?_ | refine Ev.scg (by omega) ?_)
    refine hA.push (by omega) fun v' B' H' hm hA' => ?_
    refine Ev.prim (shrL (by decide)) ?_
    rw [show (2 : Nat) ^ 32 = 4294967296 from rfl]
    have hc2 : (xs.getD i 0 + 4294967296 - ys.getD i 0 - c) / 4294967296 ≤ 1 := by omega
    refine Ev.prim (subQ (a := 1) ⟨hc2, by decide⟩) ?_
    repeat (first | refine Ev.s ?_ | refine Ev.newC fun _ _ _ => ?_ | refine Ev.boxC fun _ _ _ => ?_ | refine Ev.stC fun _ _ => ?_ | refine Ev.sc (by omega) ?_ | refine Ev.scg (by omega) ?_)
    refine (ih (i + 1) _ (1 - (xs.getD i 0 + 4294967296 - ys.getD i 0 - c) / 4294967296) v' B' H' (by omega) (ha.mono hm.mo) (hb.mono hm.mo) hA' (small_snoc hsm (Nat.mod_lt _ (by decide))) (by simp [hl]) (by omega) ?_).mono ?_
    · rw [val_snoc, hl, take_step, take_step, Nat.pow_succ]
      have key : (xs.getD i 0 + 4294967296 - ys.getD i 0 - c) % 4294967296 + ys.getD i 0 + c = xs.getD i 0 + 4294967296 * (1 - (xs.getD i 0 + 4294967296 - ys.getD i 0 - c) / 4294967296) := by omega
      generalize (xs.getD i 0 + 4294967296 - ys.getD i 0 - c) % 4294967296 = u at *
      generalize 1 - (xs.getD i 0 + 4294967296 - ys.getD i 0 - c) / 4294967296 = w at *
      generalize xs.getD i 0 = X at *
      generalize ys.getD i 0 = Y at *
      generalize 4294967296 ^ i = p at *
      have k2 : p * u + p * Y + p * c = p * X + p * 4294967296 * w := by
        rw [← Nat.mul_add, ← Nat.mul_add, key, Nat.mul_add, Nat.mul_assoc]
      omega
    · rintro o ⟨B2, H2, v2, ds2, c2, h1, h2, h3⟩
      exact ⟨B2, H2, v2, ds2, c2, h1, hm.mo.trans h2, h3⟩
theorem rSub_spec {B H : AH} {xs ys : List Nat} {a b : Value} (hm : xs.length < 274877906944) (hm' : ys.length < 274877906944) [ha : RdT B a xs] [hb : RdT B b ys] (hL : Le B H) :
    Ev (fun k _ => rn k 118 [a, b] H) (An B H fun B' v => (val xs < val ys ∧ v = .tuple #[.slice none 0 0, .bool false]) ∨ (val ys ≤ val xs ∧ ∃ s, v = .tuple #[s, .bool true] ∧ RdN B' s (limbs (val xs - val ys)))) := by
  refine Ev.fn (fun k => f118_eq k a b H) ?_
  have hS := St.start hL
  refine Ev.callU (rCmp_spec (xs := xs) (ys := ys) (by omega) (by omega) hL) ?_
  rintro _ rfl
  repeat (first | refine Ev.s ?_ | refine Ev.newC fun _ _ _ => ?_ | refine Ev.boxC fun _ _ _ => ?_ | refine Ev.stC fun _ _ => ?_ | refine Ev.sc (by omega) ?_ | refine Ev.scg (by omega) ?_)
  by_cases h : val xs < val ys
  · rw [decide_eq_true (show cmpN (val xs) (val ys) < 0 by unfold cmpN; rw [if_pos h]; decide)]
    repeat (first | refine Ev.s ?_ | refine Ev.newC fun _ _ _ => ?_ | refine Ev.boxC fun _ _ _ => ?_ | refine Ev.stC fun _ _ => ?_ | refine Ev.sc (by omega) ?_ | refine Ev.scg (by omega) ?_)
    exact Ev.doneC (.inl ⟨h, rfl⟩)
  · rw [decide_eq_false (show ¬ cmpN (val xs) (val ys) < 0 by unfold cmpN; rw [if_neg h]; split <;> decide)]
    repeat (first | refine Ev.s ?_ | refine Ev.newC fun _ _ _ => ?_ | refine Ev.boxC fun _ _ _ => ?_ | refine Ev.stC fun _ _ => ?_ | refine Ev.sc (by omega) ?_ | refine Ev.scg (by omega) ?_)
    refine Ev.bind (Ev.loop (rsub_loop (by omega) (by omega) xs.length 0 [] 0 _ B H (by omega) ha.rd hb.rd (Acc.nil hS) small_nil rfl (by omega) (by simp [val]))) ?_
    rintro _ ⟨B2, H2, v2, ds, c, rfl, hm2, hA2, hsm, hl, hv⟩
    obtain ⟨B3, hm3, hr3, hS3⟩ := hA2.freeze hsm
    refine Ev.eq (fun k _ => f118_A0_x0 k _ _) ?_
    refine Ev.callD (rTrim_spec (xs := ds) (by omega)) fun v B4 H4 hm4 hS4 h4 => ?_
    have e : val ds = val xs - val ys := by
      have h1 := val_lt hsm
      rw [hl] at h1
      have h2 := val_lt ha.rd.sm
      have hy : val (ys.take xs.length) = val ys := by
        have h5 := (val_div_mod hb.rd.sm xs.length).2
        rw [← h5]
        exact Nat.mod_eq_of_lt (by omega)
      rw [hy] at hv
      generalize 4294967296 ^ xs.length = p at *
      have : c = 0 := by
        rcases Nat.eq_zero_or_pos c with h | h
        · exact h
        · have : p * 1 ≤ p * c := Nat.mul_le_mul_left _ h
          omega
      subst this
      omega
    rw [e] at h4
    exact Ev.doneC (.inr ⟨by omega, v, rfl, h4⟩)
theorem rbits_loop {H : AH} : ∀ (m d n : Nat), nbits d = m → d < 4294967296 → n + m < 4611686018427387904 →
    Ev (fun k l => f68_L0 k (i64 n) (u32 d) l H) (fun o => o = (.exit 0, f68_X_L0 (i64 (n + nbits d)), H)) := by
  intro m
  induction m with
  | zero =>
    intro d n hd h1 h2
    have : d = 0 := nbits_eq_zero.mp hd
    subst this
    refine Ev.succ (fun k l => f68_L0_succ k _ _ l H) ?_
    repeat (first | refine Ev.s ?_ | refine Ev.newC fun _ _ _ => ?_ | refine Ev.boxC fun _ _ _ => ?_ | refine Ev.stC fun _ _ => ?_ | refine Ev.sc (by omega) ?_ | refine Ev.scg (by omega) ?_)
    rw [decide_eq_false (by decide)]
    repeat (first | refine Ev.s ?_ | refine Ev.newC fun _ _ _ => ?_ | refine Ev.boxC fun _ _ _ => ?_ | refine Ev.stC fun _ _ => ?_ | refine Ev.sc (by omega) ?_ | refine Ev.scg (by omega) ?_)
    exact Ev.ret rfl
  | succ m ih =>
    intro d n hd h1 h2
    have h0 : d ≠ 0 := fun h => by rw [h] at hd; cases hd
    have hb : nbits (d / 2) = m ∧ nbits d = nbits (d / 2) + 1 := by
      by_cases h : d = 1
      · subst h
        have h1 : nbits 1 = 1 := rfl
        rw [h1] at hd
        have : m = 0 := by omega
        subst this
        exact ⟨rfl, rfl⟩
      · have := nbits_div (n := d) (k := 1) (by omega)
        rw [Nat.pow_one] at this
        omega
    have hle := nbits_le.mpr (show d < 2 ^ 32 by omega)
    refine Ev.succ (fun k l => f68_L0_succ k _ _ l H) ?_
    repeat (first | refine Ev.s ?_ | refine Ev.newC fun _ _ _ => ?_ | refine Ev.boxC fun _ _ _ => ?_ | refine Ev.stC fun _ _ => ?_ | refine Ev.sc (by omega) ?_ | refine Ev.scg (by omega) ?_)
    rw [decide_eq_true (by omega)]
    repeat (first | refine Ev.s ?_ | refine Ev.newC fun _ _ _ => ?_ | refine Ev.boxC fun _ _ _ => ?_ | refine Ev.stC fun _ _ => ?_ | refine Ev.sc (by omega) ?_ | refine Ev.scg (by omega) ?_)
    refine Ev.prim (shrL (by decide)) ?_
    rw [Nat.pow_one]
    refine (ih (d / 2) (n + 1) hb.1 (by omega) (by omega)).mono fun o h => ?_
    rw [h, hb.2, Nat.add_assoc, Nat.add_comm 1]
theorem rBits_spec {B H : AH} {xs : List Nat} {a : Value} (hm : xs.length < 274877906944) [ha : RdT B a xs] (hL : Le B H) : Ev (fun k _ => rn k 68 [a] H) (An B H fun _ v => v = i64 (nbits (val xs))) := by
  refine Ev.fn (fun k => f68_eq k a H) ?_
  have hS := St.start hL
  refine Ev.callD (rTrim_spec (xs := xs) (by omega)) fun v B1 H1 hm1 hS1 h1 => ?_
  have hll := limbs_length_le (val_lt ha.rd.sm)
  by_cases h0 : val xs = 0
  · repeat (first | refine Ev.s ?_ | refine Ev.newC fun _ _ _ => ?_ | refine Ev.boxC fun _ _ _ => ?_ | refine Ev.stC fun _ _ => ?_ | refine Ev.sc (by omega) ?_ | refine Ev.scg (by omega) ?_)
    rw [h0, limbs_zero, List.length_nil, decide_eq_true rfl]
    repeat (first | refine Ev.s ?_ | refine Ev.newC fun _ _ _ => ?_ | refine Ev.boxC fun _ _ _ => ?_ | refine Ev.stC fun _ _ => ?_ | refine Ev.sc (by omega) ?_ | refine Ev.scg (by omega) ?_)
    exact Ev.doneC rfl
  have hne : (limbs (val xs)).length ≠ 0 := fun h => h0 (limbs_eq_nil.mp (List.length_eq_zero_iff.mp h))
  have hnb := nbits_limbs h0
  repeat (first | refine Ev.s ?_ | refine Ev.newC fun _ _ _ => ?_ | refine Ev.boxC fun _ _ _ => ?_ | refine Ev.stC fun _ _ => ?_ | refine Ev.sc (by omega) ?_ | refine Ev.scg (by omega) ?_)
  rw [decide_eq_false hne]
  repeat (first | refine Ev.s ?_ | refine Ev.newC fun _ _ _ => ?_ | refine Ev.boxC fun _ _ _ => ?_ | refine Ev.stC fun _ _ => ?_ | refine Ev.sc (by omega) ?_ | refine Ev.scg (by omega) ?_)
  refine Ev.ixC ((limbs (val xs)).length - 1) rfl (by omega) fun p hp => ?_
  have hd := (small_limbs (val xs)).getD ((limbs (val xs)).length - 1)
  have hle := nbits_le.mpr (show (limbs (val xs)).getD ((limbs (val xs)).length - 1) 0 < 2 ^ 32 by omega)
  repeat (first | refine Ev.s ?_ | refine Ev.newC fun _ _ _ => ?_ | refine Ev.boxC fun _ _ _ => ?_ | refine Ev.stC fun _ _ => ?_ | refine Ev.sc (by omega) ?_ | refine Ev.scg (by omega) ?_)
  refine Ev.bind (Ev.loop (rbits_loop _ _ _ rfl hd (by omega))) ?_
  rintro _ rfl
  refine Ev.eq (fun k _ => f68_A0_x0 k _ _) ?_
  exact Ev.doneC (by rw [hnb])
theorem rBit_spec {B H : AH} {xs : List Nat} {a : Value} {i : Nat} (hm : xs.length < 274877906944) (hi : i < 9223372036854775808) [ha : RdT B a xs] (hL : Le B H) : Ev (fun k _ => rn k 122 [a, i64 i] H) (Pu H fun v => v = .bool ((val xs).testBit i)) := by
  refine Ev.fn (fun k => f122_eq k a _ H) ?_
  have hS := St.start hL
  have ha := ha.rd
  have ht := testBit_val ha.sm i
  rw [ht]
  repeat (first | refine Ev.s ?_ | refine Ev.newC fun _ _ _ => ?_ | refine Ev.boxC fun _ _ _ => ?_ | refine Ev.stC fun _ _ => ?_ | refine Ev.sc (by omega) ?_ | refine Ev.scg (by omega) ?_)
  rw [decide_eq_false (by omega)]
  repeat (first | refine Ev.s ?_ | refine Ev.newC fun _ _ _ => ?_ | refine Ev.boxC fun _ _ _ => ?_ | refine Ev.stC fun _ _ => ?_ | refine Ev.sc (by omega) ?_ | refine Ev.scg (by omega) ?_)
  by_cases h : xs.length ≤ i / 32
  · rw [decide_eq_true h]
    repeat (first | refine Ev.s ?_ | refine Ev.newC fun _ _ _ => ?_ | refine Ev.boxC fun _ _ _ => ?_ | refine Ev.stC fun _ _ => ?_ | refine Ev.sc (by omega) ?_ | refine Ev.scg (by omega) ?_)
    exact Ev.doneU (by rw [List.getD_eq_getElem?_getD, List.getElem?_eq_none h]; simp)
  · rw [decide_eq_false h]
    repeat (first | refine Ev.s ?_ | refine Ev.newC fun _ _ _ => ?_ | refine Ev.boxC fun _ _ _ => ?_ | refine Ev.stC fun _ _ => ?_ | refine Ev.sc (by omega) ?_ | refine Ev.scg (by omega) ?_)
    refine Ev.ixC (i / 32) rfl (by omega) fun p hp => ?_
    have hd := ha.sm.getD (i / 32)
    repeat (first | refine Ev.s ?_ | refine Ev.newC fun _ _ _ => ?_ | refine Ev.boxC fun _ _ _ => ?_ | refine Ev.stC fun _ _ => ?_ | refine Ev.sc (by omega) ?_ | refine Ev.scg (by omega) ?_)
    refine Ev.prim (shrN (by show i % 32 < 32; omega)) ?_
    refine Ev.prim (andW (b := 1) ⟨Nat.lt_of_le_of_lt (Nat.div_le_self _ _) hd, by decide⟩) ?_
    rw [Nat.and_one_is_mod]
    repeat (first | refine Ev.s ?_ | refine Ev.newC fun _ _ _ => ?_ | refine Ev.boxC fun _ _ _ => ?_ | refine Ev.stC fun _ _ => ?_ | refine Ev.sc (by omega) ?_ | refine Ev.scg (by omega) ?_)
    exact Ev.doneU (by rw [Nat.testBit_eq_decide_div_mod_eq])
end Go.AM.Y
set_option linter.unusedVariables false
set_option linter.unusedSimpArgs false
set_option maxRecDepth 100000
namespace Go.AM.Y
open Go Go.AM Go.Proofs
attribute [local irreducible] run bin un ld st box newV mkS fldA fld ixA ix slc slc3 build buildS cv cvS ap cpy lenV gOp pickV b2 aIf aChk evalK resume iterD Option.bind

theorem pow32 (q s : Nat) : 2 ^ (32 * q + s) = 4294967296 ^ q * 2 ^ s := by rw [Nat.pow_add, Nat.pow_mul]
theorem rshl_step {p q x c d w s v t : Nat} (hd : d + 4294967296 * w = x * 2 ^ s + c) (hv : v + p * c = q * (t * 2 ^ s)) : v + p * d + p * 4294967296 * w = q * (t * 2 ^ s) + p * (x * 2 ^ s) := by
  have := congrArg (p * ·) hd
  simp only [Nat.mul_add] at this
  rw [Nat.mul_assoc p 4294967296]
  omega
theorem rshl_loop {H0 B0 : AH} {L : List (Nat × Blk)} {xs : List Nat} {a : Value} {n q s : Nat} (hn : n = 32 * q + s) (hs : s < 32) (hlx : xs.length < 549755813888) (hq : q < 100000) :
    ∀ (m i : Nat) (ds : List Nat) (c : Nat) (v : Value) (B H : AH), i + m = xs.length → RdN B a xs → AccW H0 B0 B L H v ds → small ds → ds.length = q + i → c < 2 ^ s → val ds + 4294967296 ^ (q + i) * c = 4294967296 ^ q * (val (xs.take i) * 2 ^ s) →
    Ev (fun k l => f105_L0 k a (i64 n) v (u64 c) (i64 i) l H) (fun o => ∃ B' H' v' ds c, o = (.exit 0, f105_X_L0 v' (u64 c), H') ∧ Mo B B' ∧ AccW H0 B0 B' L H' v' ds ∧ small ds ∧ ds.length = q + xs.length ∧ c < 2 ^ s ∧ val ds + 4294967296 ^ (q + xs.length) * c = 4294967296 ^ q * (val xs * 2 ^ s)) := by
  intro m
  induction m with
  | zero =>
    intro i ds c v B H hi ha hA hsm hl hc hv
    refine Ev.succ (fun k l => f105_L0_succ k _ _ _ _ _ l H) ?_
    repeat (first | refine Ev.s ?_ | refine Ev.newC fun _ _ _ => ?_ | refine Ev.boxC fun _ _ _ => ?_ | refine Ev.stC fun _ _ => ?_ | refine Ev.sc (by omega) ?_ | refine Ev.scg (by omega) ?_)
    rw [decide_eq_false (by omega)]
    repeat (first | refine Ev.s ?_ | refine Ev.newC fun _ _ _ => ?_ | refine Ev.boxC fun _ _ _ => ?_ | refine Ev.stC fun _ _ => ?_ | refine Ev.sc (by omega) ?_ | refine Ev.scg (by omega) ?_)
    have hi : i = xs.length := by omega
    subst hi
    rw [List.take_of_length_le (Nat.le_refl _)] at hv
    exact Ev.ret ⟨B, H, v, ds, c, rfl, Mo.refl B, hA, hsm, hl, hc, hv⟩
  | succ m ih =>
    intro i ds c v B H hi ha hA hsm hl hc hv
    refine Ev.succ (fun k l => f105_L0_succ k _ _ _ _ _ l H) ?_
    have hx := ha.sm.getD i
    have hps : 2 ^ s ≤ 2 ^ 31 := Nat.pow_le_pow_right (n := 2) (by decide) (by omega : s ≤ 31)
    rw [show (2 : Nat) ^ 31 = 2147483648 by decide] at hps
    have hxs : xs.getD i 0 * 2 ^ s ≤ 4294967295 * 2147483648 := Nat.mul_le_mul (by omega) hps
    have hSt := hA.st
    repeat (first | refine Ev.s ?_ | refine Ev.newC fun _ _ _ => ?_ | refine Ev.boxC fun _ _ _ => ?_ | refine Ev.stC fun _ _ => ?_ | refine Ev.sc (by omega) ?_ | refine Ev.scg (by omega) ?_)
    rw [decide_eq_true (by omega)]
    repeat (first | refine Ev.s ?_ | refine Ev.newC fun _ _ _ => ?_ | refine Ev.boxC fun _ _ _ => ?_ | refine Ev.stC fun _ _ => ?_ | refine Ev.sc (by omega) ?_ | refine Ev.scg (by omega) ?_)
    refine Ev.ixC i rfl (by omega) fun p hp => ?_
    repeat (first | refine Ev.s ?_ | refine Ev.newC fun _ _ _ => ?_ | refine Ev.boxC fun _ _ _ => ?_ | refine Ev.stC fun _ _ => ?_ | refine Ev.sc (by omega) ?_ | refine Ev.scg (by omega) ?_)
    rw [show n % 32 = s by omega]
    refine Ev.prim (shlQ ⟨by omega, by omega⟩) ?_
    refine Ev.prim (orQ ⟨by omega, by omega⟩) ?_
    rw [Nat.or_comm, or_add hc, Nat.add_comm]
    repeat (first | refine Ev.s ?_ | refine Ev.newC fun _ _ _ => ?_ | refine Ev.boxC fun _ _ _ => ?_ | refine Ev.stC fun _ _ => ?_ | refine Ev.sc (by omega) ?_ | refine Ev.scg (by omega) ?_)
    refine hA.push (by omega) fun v' B' H' hm hA' => ?_
    refine Ev.prim (shrL (by decide)) ?_
    rw [show (2 : Nat) ^ 32 = 4294967296 from rfl]
    repeat (first | refine Ev.s ?_ | refine Ev.newC fun _ _ _ => ?_ | refine Ev.boxC fun _ _ _ => ?_ | refine Ev.stC fun _ _ => ?_ | refine Ev.sc (by omega) ?_ | refine Ev.scg (by omega) ?_)
    have hsum := Nat.mod_add_div (xs.getD i 0 * 2 ^ s + c) 4294967296
    have hsm' := small_snoc hsm (Nat.mod_lt (xs.getD i 0 * 2 ^ s + c) (show 0 < 4294967296 by decide))
    have hc' : (xs.getD i 0 * 2 ^ s + c) / 4294967296 < 2 ^ s := by
      refine Nat.div_lt_of_lt_mul ?_
      have : (xs.getD i 0 + 1) * 2 ^ s ≤ 4294967296 * 2 ^ s := Nat.mul_le_mul_right _ hx
      rw [Nat.add_mul, Nat.one_mul] at this
      omega
    have hv' : val (ds ++ [(xs.getD i 0 * 2 ^ s + c) % 4294967296]) + 4294967296 ^ (q + (i + 1)) * ((xs.getD i 0 * 2 ^ s + c) / 4294967296) = 4294967296 ^ q * (val (xs.take (i + 1)) * 2 ^ s) := by
      rw [val_snoc, hl, take_step, ← Nat.add_assoc, Nat.pow_succ, rshl_step hsum hv, Nat.add_mul, Nat.mul_add, Nat.pow_add]
      simp only [Nat.mul_assoc, Nat.mul_left_comm, Nat.mul_comm]
    refine (ih (i + 1) _ _ v' B' H' (by omega) (ha.mono hm.mo) hA' hsm' (by simp [hl, Nat.add_assoc]) hc' hv').mono ?_
    rintro o ⟨B2, H2, v2, ds2, c2, h1, h2, h3⟩
    exact ⟨B2, H2, v2, ds2, c2, h1, hm.mo.trans h2, h3⟩
theorem rShl_spec {B H : AH} {xs : List Nat} {a : Value} {n : Nat} (hm : xs.length < 137438953472) (hn : n ≤ 100000) [ha : RdT B a xs] (hL : Le B H) :
    Ev (fun k _ => rn k 105 [a, i64 n] H) (An B H fun B' v => ∃ w, v = .tuple #[w, .bool true] ∧ RdN B' w (limbs (val xs * 2 ^ n))) := by
  refine Ev.fn (fun k => f105_eq k a _ H) ?_
  have hS := St.start hL
  have ha := ha.rd
  repeat (first | refine Ev.s ?_ | refine Ev.newC fun _ _ _ => ?_ | refine Ev.boxC fun _ _ _ => ?_ | refine Ev.stC fun _ _ => ?_ | refine Ev.sc (by omega) ?_ | refine Ev.scg (by omega) ?_)
  rw [decide_eq_false (by omega)]
  repeat (first | refine Ev.s ?_ | refine Ev.newC fun _ _ _ => ?_ | refine Ev.boxC fun _ _ _ => ?_ | refine Ev.stC fun _ _ => ?_ | refine Ev.sc (by omega) ?_ | refine Ev.scg (by omega) ?_)
  rw [decide_eq_false (by omega)]
  repeat (first | refine Ev.s ?_ | refine Ev.newC fun _ _ _ => ?_ | refine Ev.boxC fun _ _ _ => ?_ | refine Ev.stC fun _ _ => ?_ | refine Ev.sc (by omega) ?_ | refine Ev.scg (by omega) ?_)
  refine Ev.mkS Ew hS (by omega) (by omega) fun bo B1 H1 hm1 hS1 => ?_
  rw [map_replicate] at hS1
  have hA : AccW H B B1 [] H1 (sl bo 0 (n / 32) (n / 32)) (List.replicate (n / 32) 0) := by
    by_cases h0 : n / 32 = 0
    · rw [h0]; exact .inl ⟨rfl, .inr ⟨bo, 0, rfl⟩, hS1.drop1⟩
    · refine .inr ⟨by simpa using h0, bo, .fix, n / 32, by rw [List.length_replicate], .inr ⟨rfl, by rw [List.length_replicate]⟩, hS1⟩
  refine Ev.bind (Ev.loop (rshl_loop (n := n) (q := n / 32) (s := n % 32) (by omega) (by omega) (by omega) (by omega) xs.length 0 (List.replicate (n / 32) 0) 0 _ B1 H1 (by omega) (ha.mono hm1) hA (small_replicate _) (by simp) (Nat.pow_pos (by decide)) (by simp [val, val_replicate]))) ?_
  rintro _ ⟨B2, H2, v2, ds, c, rfl, hm2, hA2, hsm, hl, hc, hv⟩
  refine Ev.eq (fun k _ => f105_A0_x0 k _ _ _) ?_
  have hps : 2 ^ (n % 32) ≤ 2 ^ 31 := Nat.pow_le_pow_right (n := 2) (by decide) (by omega)
  rw [show (2 : Nat) ^ 31 = 2147483648 by decide] at hps
  repeat (first | refine Ev.s ?_ | refine Ev.newC fun _ _ _ => ?_ | refine Ev.boxC fun _ _ _ => ?_ | refine Ev.stC fun _ _ => ?_ | refine Ev.sc (by omega) ?_ | refine Ev.scg (by omega) ?_)
  rw [Nat.mod_eq_of_lt (show c < 4294967296 by omega)]
  refine hA2.push (by omega) fun v3 B3 H3 hm3 hA3 => ?_
  obtain ⟨B4, hm4, hr4, hS4⟩ := hA3.freeze (small_snoc hsm (by omega))
  refine Ev.callD (rTrim_spec (xs := ds ++ [c]) (by simp; omega)) fun v B5 H5 hm5 hS5 h5 => ?_
  rw [val_snoc, hl, hv] at h5
  refine Ev.doneC ⟨v, rfl, ?_⟩
  have e : 4294967296 ^ (n / 32) * (val xs * 2 ^ (n % 32)) = val xs * 2 ^ n := by
    have h1 : 2 ^ n = 4294967296 ^ (n / 32) * 2 ^ (n % 32) := by rw [← pow32]; congr 1; omega
    rw [h1, Nat.mul_left_comm]
  rw [← e]; exact h5
theorem rshr_loop {H0 B0 : AH} {L : List (Nat × Blk)} {xs : List Nat} {a : Value} {n q s : Nat} (hn : n = 32 * q + s) (hs : s < 32) (hn' : n < 9223372036854775808) (hlx : xs.length < 549755813888) (hq : q ≤ xs.length) :
    ∀ (m i : Nat) (ds : List Nat) (v : Value) (B H : AH), q + i + m = xs.length → RdN B a xs → AccW H0 B0 B L H v ds → small ds → ds.length = i → val ds = val (xs.drop q) / 2 ^ s % 4294967296 ^ i →
    Ev (fun k l => f104_L0 k a (i64 n) v (i64 (q + i)) l H) (fun o => ∃ B' H' v' ds, o = (.exit 0, f104_X_L0 v', H') ∧ Mo B B' ∧ AccW H0 B0 B' L H' v' ds ∧ small ds ∧ ds.length ≤ xs.length ∧ val ds = val (xs.drop q) / 2 ^ s) := by
  intro m
  induction m with
  | zero =>
    intro i ds v B H hi ha hA hsm hl hv
    refine Ev.succ (fun k l => f104_L0_succ k _ _ _ _ l H) ?_
    repeat (first | refine Ev.s ?_ | refine Ev.newC fun _ _ _ => ?_ | refine Ev.boxC fun _ _ _ => ?_ | refine Ev.stC fun _ _ => ?_ | refine Ev.sc (by omega) ?_ | refine Ev.scg (by omega) ?_)
    rw [decide_eq_false (by omega)]
    repeat (first | refine Ev.s ?_ | refine Ev.newC fun _ _ _ => ?_ | refine Ev.boxC fun _ _ _ => ?_ | refine Ev.stC fun _ _ => ?_ | refine Ev.sc (by omega) ?_ | refine Ev.scg (by omega) ?_)
    refine Ev.ret ⟨B, H, v, ds, rfl, Mo.refl B, hA, hsm, by omega, ?_⟩
    rw [hv, Nat.mod_eq_of_lt]
    have := val_lt (ha.sm.drop q)
    rw [List.length_drop, show xs.length - q = i by omega] at this
    exact Nat.lt_of_le_of_lt (Nat.div_le_self ..) this
  | succ m ih =>
    intro i ds v B H hi ha hA hsm hl hv
    refine Ev.succ (fun k l => f104_L0_succ k _ _ _ _ l H) ?_
    have hx := ha.sm.getD (q + i)
    have hx1 := ha.sm.getD (q + i + 1)
    repeat (first | refine Ev.s ?_ | refine Ev.newC fun _ _ _ => ?_ | refine Ev.boxC fun _ _ _ => ?_ | refine Ev.stC fun _ _ => ?_ | refine Ev.sc (by omega) ?_ | refine Ev.scg (by omega) ?_)
    rw [decide_eq_true (by omega)]
    repeat (first | refine Ev.s ?_ | refine Ev.newC fun _ _ _ => ?_ | refine Ev.boxC fun _ _ _ => ?_ | refine Ev.stC fun _ _ => ?_ | refine Ev.sc (by omega) ?_ | refine Ev.scg (by omega) ?_)
    refine Ev.callU (rat_spec (xs := xs) (by omega) hA.le) ?_
    rintro _ rfl
    repeat (first | refine Ev.s ?_ | refine Ev.newC fun _ _ _ => ?_ | refine Ev.boxC fun _ _ _ => ?_ | refine Ev.stC fun _ _ => ?_ | refine Ev.sc (by omega) ?_ | refine Ev.scg (by omega) ?_)
    refine Ev.callU (rat_spec (xs := xs) (by omega) hA.le) ?_
    rintro _ rfl
    refine Ev.prim (shlQL ⟨by decide, by omega⟩) ?_
    refine Ev.prim (orQ ⟨by omega, by omega⟩) ?_
    rw [or_add (by omega)]
    refine Ev.prim (remL (by decide)) ?_
    rw [show n % 32 = s by omega]
    refine Ev.prim (shrN (by show s < 64; omega)) ?_
    repeat (first | refine Ev.s ?_ | refine Ev.newC fun _ _ _ => ?_ | refine Ev.boxC fun _ _ _ => ?_ | refine Ev.stC fun _ _ => ?_ | refine Ev.sc (by omega) ?_ | refine Ev.scg (by omega) ?_)
    refine hA.push (by omega) fun v' B' H' hm hA' => ?_
    repeat (first | refine Ev.s ?_ | refine Ev.newC fun _ _ _ => ?_ | refine Ev.boxC fun _ _ _ => ?_ | refine Ev.stC fun _ _ => ?_ | refine Ev.sc (by omega) ?_ | refine Ev.scg (by omega) ?_)
    have hd := shr_digit (ha.sm.drop q) (s := s) (i := i) hs
    rw [List.getD_eq_getElem?_getD, List.getD_eq_getElem?_getD, List.getElem?_drop, List.getElem?_drop, ← List.getD_eq_getElem?_getD, ← List.getD_eq_getElem?_getD, ← Nat.add_assoc] at hd
    have hv' : val (ds ++ [(xs.getD (q + i) 0 + xs.getD (q + i + 1) 0 * 2 ^ 32) / 2 ^ s % 4294967296]) = val (xs.drop q) / 2 ^ s % 4294967296 ^ (i + 1) := by
      rw [val_snoc, hl, hd, hv, ← Nat.mod_pow_succ]
    refine (ih (i + 1) _ v' B' H' (by omega) (ha.mono hm.mo) hA' (small_snoc hsm (Nat.mod_lt _ (by decide))) (by simp [hl]) hv').mono ?_
    rintro o ⟨B2, H2, v2, ds2, h1, h2, h3⟩
    exact ⟨B2, H2, v2, ds2, h1, hm.mo.trans h2, h3⟩
theorem rShr_spec {B H : AH} {xs : List Nat} {a : Value} {n : Nat} (hm : xs.length < 137438953472) (hn : n < 9223372036854775808) [ha : RdT B a xs] (hL : Le B H) :
    Ev (fun k _ => rn k 104 [a, i64 n] H) (An B H fun B' v => RdN B' v (limbs (val xs / 2 ^ n))) := by
  refine Ev.fn (fun k => f104_eq k a _ H) ?_
  have hS := St.start hL
  have ha := ha.rd
  have h1 : 2 ^ n = 4294967296 ^ (n / 32) * 2 ^ (n % 32) := by rw [← pow32]; congr 1; omega
  repeat (first | refine Ev.s ?_ | refine Ev.newC fun _ _ _ => ?_ | refine Ev.boxC fun _ _ _ => ?_ | refine Ev.stC fun _ _ => ?_ | refine Ev.sc (by omega) ?_ | refine Ev.scg (by omega) ?_)
  rw [decide_eq_false (by omega)]
  repeat (first | refine Ev.s ?_ | refine Ev.newC fun _ _ _ => ?_ | refine Ev.boxC fun _ _ _ => ?_ | refine Ev.stC fun _ _ => ?_ | refine Ev.sc (by omega) ?_ | refine Ev.scg (by omega) ?_)
  by_cases h : xs.length ≤ n / 32
  · rw [decide_eq_true h]
    repeat (first | refine Ev.s ?_ | refine Ev.newC fun _ _ _ => ?_ | refine Ev.boxC fun _ _ _ => ?_ | refine Ev.stC fun _ _ => ?_ | refine Ev.sc (by omega) ?_ | refine Ev.scg (by omega) ?_)
    have e : val xs / 2 ^ n = 0 := by
      refine Nat.div_eq_of_lt (Nat.lt_of_lt_of_le (val_lt ha.sm) ?_)
      rw [h1]
      exact Nat.le_trans (Nat.pow_le_pow_right (by decide) h) (Nat.le_mul_of_pos_right _ (Nat.pow_pos (by decide)))
    exact Ev.doneC (by rw [e, limbs_zero]; exact RdN.nil)
  · rw [decide_eq_false h]
    repeat (first | refine Ev.s ?_ | refine Ev.newC fun _ _ _ => ?_ | refine Ev.boxC fun _ _ _ => ?_ | refine Ev.stC fun _ _ => ?_ | refine Ev.sc (by omega) ?_ | refine Ev.scg (by omega) ?_)
    refine Ev.bind (Ev.loop (rshr_loop (n := n) (q := n / 32) (s := n % 32) (by omega) (by omega) hn (by omega) (by omega) (xs.length - n / 32) 0 [] _ B H (by omega) ha (Acc.nil hS) small_nil rfl (by simp [val, Nat.mod_one]))) ?_
    rintro _ ⟨B2, H2, v2, ds, rfl, hm2, hA2, hsm, hl, hv⟩
    obtain ⟨B3, hm3, hr3, hS3⟩ := hA2.freeze hsm
    refine Ev.eq (fun k _ => f104_A0_x0 k _ _) ?_
    refine Ev.callD (rTrim_spec (xs := ds) (by omega)) fun v B4 H4 hm4 hS4 h4 => ?_
    have e : val (xs.drop (n / 32)) / 2 ^ (n % 32) = val xs / 2 ^ n := by
      rw [h1, ← Nat.div_div_eq_div_mul, (val_div_mod ha.sm (n / 32)).1]
    rw [hv, e] at h4
    exact Ev.doneC h4
end Go.AM.Y
set_option linter.unusedVariables false
set_option linter.unusedSimpArgs false
set_option maxRecDepth 100000
namespace Go.AM.Y
open Go Go.AM Go.Proofs
attribute [local irreducible] run bin un ld st box newV mkS fldA fld ixA ix slc slc3 build buildS cv cvS ap cpy lenV gOp pickV b2 aIf aChk evalK resume iterD Option.bind

theorem rmul_inner {H0 B0 B : AH} {xs ys : List Nat} {a b : Value} {bo i T : Nat} (ha : RdN B a xs) (hb : RdN B b ys) (hi : i < xs.length) (hlen : xs.length + ys.length < 549755813888) :
    ∀ (m j : Nat) (zs : List Nat) (c : Nat) (H : AH), j + m = ys.length → zs.length = xs.length + ys.length → small zs → c < 4294967296 →
    val (zs.take (i + ys.length)) + 4294967296 ^ (i + j) * c = T + 4294967296 ^ i * (xs.getD i 0 * val (ys.take j)) →
    St H0 B0 B [(bo, ⟨zs.map u32, 67, .fix⟩)] H →
    Ev (fun k n => f119_L1 k a b (sl bo 0 (xs.length + ys.length) (xs.length + ys.length)) (i64 i) (u64 c) (i64 j) n H)
      (fun o => ∃ zs c H, o = (.exit 2, f119_X_L1 a b (sl bo 0 (xs.length + ys.length) (xs.length + ys.length)) (i64 i) (u64 c), H) ∧ zs.length = xs.length + ys.length ∧ small zs ∧ c < 4294967296 ∧
        val (zs.take (i + ys.length)) + 4294967296 ^ (i + ys.length) * c = T + 4294967296 ^ i * (xs.getD i 0 * val ys) ∧ St H0 B0 B [(bo, ⟨zs.map u32, 67, .fix⟩)] H) := by
  intro m
  induction m with
  | zero =>
    intro j zs c H hj hz hsm hc hv hS
    refine Ev.succ (fun k n => f119_L1_succ k _ _ _ _ _ _ n H) ?_
    repeat (first | refine Ev.s ?_ | refine Ev.newC fun _ _ _ => ?_ | refine Ev.boxC fun _ _ _ => ?_ | refine Ev.stC fun _ _ => ?_ | refine Ev.sc (by omega) ?_ | refine Ev.scg (by omega) ?_)
    rw [decide_eq_false (by omega)]
    repeat (first | refine Ev.s ?_ | refine Ev.newC fun _ _ _ => ?_ | refine Ev.boxC fun _ _ _ => ?_ | refine Ev.stC fun _ _ => ?_ | refine Ev.sc (by omega) ?_ | refine Ev.scg (by omega) ?_)
    refine Ev.ret ⟨zs, c, H, rfl, hz, hsm, hc, ?_, hS⟩
    have : j = ys.length := by omega
    subst this
    rw [List.take_of_length_le (Nat.le_refl _)] at hv
    exact hv
  | succ m ih =>
    intro j zs c H hj hz hsm hc hv hS
    refine Ev.succ (fun k n => f119_L1_succ k _ _ _ _ _ _ n H) ?_
    have hx := ha.sm.getD i
    have hy := hb.sm.getD j
    have ho := hsm.getD (i + j)
    have hxy : xs.getD i 0 * ys.getD j 0 ≤ 4294967295 * 4294967295 := Nat.mul_le_mul (by omega) (by omega)
    repeat (first | refine Ev.s ?_ | refine Ev.newC fun _ _ _ => ?_ | refine Ev.boxC fun _ _ _ => ?_ | refine Ev.stC fun _ _ => ?_ | refine Ev.sc (by omega) ?_ | refine Ev.scg (by omega) ?_)
    rw [decide_eq_true (by omega)]
    repeat (first | refine Ev.s ?_ | refine Ev.newC fun _ _ _ => ?_ | refine Ev.boxC fun _ _ _ => ?_ | refine Ev.stC fun _ _ => ?_ | refine Ev.sc (by omega) ?_ | refine Ev.scg (by omega) ?_)
    refine Ev.ixC i rfl (by omega) fun p hp => ?_
    repeat (first | refine Ev.s ?_ | refine Ev.newC fun _ _ _ => ?_ | refine Ev.boxC fun _ _ _ => ?_ | refine Ev.stC fun _ _ => ?_ | refine Ev.sc (by omega) ?_ | refine Ev.scg (by omega) ?_)
    refine Ev.ixC j rfl (by omega) fun p hp => ?_
    repeat (first | refine Ev.s ?_ | refine Ev.newC fun _ _ _ => ?_ | refine Ev.boxC fun _ _ _ => ?_ | refine Ev.stC fun _ _ => ?_ | refine Ev.sc (by omega) ?_ | refine Ev.scg (by omega) ?_)
    refine Ev.ldW Ew hS (by (first | exact .head _ | exact .tail _ (.head _) | exact .tail _ (.tail _ (.head _)) | exact .tail _ (.tail _ (.tail _ (.head _))) | exact .tail _ (.tail _ (.tail _ (.tail _ (.head _)))))) (j := i + j) (by omega) (by omega) ?_
    refine Ev.prim (toU64 (by omega) Uw Uq) ?_
    generalize hw : ys.getD j 0 = y at *
    generalize hx2 : xs.getD i 0 = x at *
    generalize hp : x * y = q at *
    refine Ev.prim (addQ (by omega)) ?_
    refine Ev.prim (addQ (by omega)) ?_
    refine Ev.prim (addN (by omega)) ?_
    refine Ev.prim (toU32 Uq Uw) ?_
    refine Ev.prim (ixA_own Ew (by omega)) ?_
    refine Ev.stW Ew hS (by (first | exact .head _ | exact .tail _ (.head _) | exact .tail _ (.tail _ (.head _)) | exact .tail _ (.tail _ (.tail _ (.head _))) | exact .tail _ (.tail _ (.tail _ (.tail _ (.head _)))))) (j := i + j) (by omega) (by omega) rfl (by simp) (.head _) fun H' hS' => ?_
    refine Ev.prim (shrN (b := 32) (by decide)) ?_
    refine Ev.prim (addL (by omega)) ?_
    refine ih (j + 1) _ _ H' (by omega) (by simp [hz]) (hsm.set _ (Nat.mod_lt _ (by decide))) (by omega) ?_ hS'
    have e1 := val_set (zs := zs.take (i + ys.length)) (j := i + j) (w := (q + zs.getD (i + j) 0 + c) % 4294967296) (by rw [List.length_take]; omega)
    rw [getD_take (by omega)] at e1
    rw [List.take_set, val_take_succ', hw, Nat.mul_add x, Nat.mul_left_comm x, hp, Nat.mul_add (4294967296 ^ i), ← Nat.mul_assoc (4294967296 ^ i) (4294967296 ^ j), ← Nat.pow_add]
    have e2 : (q + zs.getD (i + j) 0 + c) % 4294967296 + 4294967296 * ((q + zs.getD (i + j) 0 + c) / 2 ^ 32) = q + zs.getD (i + j) 0 + c := by omega
    generalize (q + zs.getD (i + j) 0 + c) % 4294967296 = w at *
    generalize (q + zs.getD (i + j) 0 + c) / 2 ^ 32 = c' at *
    generalize zs.getD (i + j) 0 = o at *
    rw [show i + (j + 1) = i + j + 1 by omega, Nat.pow_succ, Nat.mul_assoc]
    have e3 := congrArg (4294967296 ^ (i + j) * ·) e2
    simp only [Nat.mul_add] at e3
    omega
theorem rmul_loop {H0 B0 B : AH} {xs ys : List Nat} {a b : Value} {bo : Nat} (ha : RdN B a xs) (hb : RdN B b ys) (hlen : xs.length + ys.length < 549755813888) :
    ∀ (m i : Nat) (zs : List Nat) (H : AH), i + m = xs.length → zs.length = xs.length + ys.length → small zs → val (zs.take (i + ys.length)) = val (xs.take i) * val ys →
    St H0 B0 B [(bo, ⟨zs.map u32, 67, .fix⟩)] H →
    Ev (fun k n => f119_L0 k a b (sl bo 0 (xs.length + ys.length) (xs.length + ys.length)) (i64 i) n H)
      (fun o => ∃ zs H, o = (.exit 0, f119_X_L0 (sl bo 0 (xs.length + ys.length) (xs.length + ys.length)), H) ∧ zs.length = xs.length + ys.length ∧ small zs ∧ val zs = val xs * val ys ∧
        St H0 B0 B [(bo, ⟨zs.map u32, 67, .fix⟩)] H) := by
  intro m
  induction m with
  | zero =>
    intro i zs H hi hz hsm hv hS
    refine Ev.succ (fun k n => f119_L0_succ k _ _ _ _ n H) ?_
    repeat (first | refine Ev.s ?_ | refine Ev.newC fun _ _ _ => ?_ | refine Ev.boxC fun _ _ _ => ?_ | refine Ev.stC fun _ _ => ?_ | refine Ev.sc (by omega) ?_ | refine Ev.scg (by omega) ?_)
    rw [decide_eq_false (by omega)]
    repeat (first | refine Ev.s ?_ | refine Ev.newC fun _ _ _ => ?_ | refine Ev.boxC fun _ _ _ => ?_ | refine Ev.stC fun _ _ => ?_ | refine Ev.sc (by omega) ?_ | refine Ev.scg (by omega) ?_)
    refine Ev.ret ⟨zs, H, rfl, hz, hsm, ?_, hS⟩
    have : i = xs.length := by omega
    subst this
    rw [List.take_of_length_le (by omega), List.take_of_length_le (Nat.le_refl _)] at hv
    exact hv
  | succ m ih =>
    intro i zs H hi hz hsm hv hS
    refine Ev.succ (fun k n => f119_L0_succ k _ _ _ _ n H) ?_
    repeat (first | refine Ev.s ?_ | refine Ev.newC fun _ _ _ => ?_ | refine Ev.boxC fun _ _ _ => ?_ | refine Ev.stC fun _ _ => ?_ | refine Ev.sc (by omega) ?_ | refine Ev.scg (by omega) ?_)
    rw [decide_eq_true (by omega)]
    repeat (first | refine Ev.s ?_ | refine Ev.newC fun _ _ _ => ?_ | refine Ev.boxC fun _ _ _ => ?_ | refine Ev.stC fun _ _ => ?_ | refine Ev.sc (by omega) ?_ | refine Ev.scg (by omega) ?_)
    refine Ev.bind (Ev.loop (rmul_inner (T := val (xs.take i) * val ys) ha hb (by omega) hlen ys.length 0 zs 0 H (by omega) hz hsm (by decide) (by simp [val, hv]) hS)) ?_
    rintro _ ⟨zs, c, H1, rfl, hz, hsm, hc, hv1, hS1⟩
    refine Ev.eq (fun k n => f119_A1_x2 k n _ _ _ _ _ H1) ?_
    refine Ev.prim (hb.lenN Ew) ?_
    refine Ev.prim (addN (by omega)) ?_
    refine Ev.prim (toU32 Uq Uw) ?_
    rw [Nat.mod_eq_of_lt hc]
    refine Ev.prim (ixA_own Ew (by omega)) ?_
    refine Ev.stW Ew hS1 (by (first | exact .head _ | exact .tail _ (.head _) | exact .tail _ (.tail _ (.head _)) | exact .tail _ (.tail _ (.tail _ (.head _))) | exact .tail _ (.tail _ (.tail _ (.tail _ (.head _)))))) (j := i + ys.length) (by omega) (by omega) rfl (by simp) (.head _) fun H' hS' => ?_
    refine Ev.prim (addL (by omega)) ?_
    refine ih (i + 1) _ H' (by omega) (by simp [hz]) (hsm.set _ hc) ?_ hS'
    rw [show i + 1 + ys.length = i + ys.length + 1 by omega, val_take_set (by omega), hv1, val_take_succ', Nat.add_mul, Nat.mul_assoc]
theorem rMul_spec {B H : AH} {xs ys : List Nat} {a b : Value} (hm : xs.length < 137438953472) (hm' : ys.length < 137438953472) [ha : RdT B a xs] [hb : RdT B b ys] (hL : Le B H) :
    Ev (fun k _ => rn k 119 [a, b] H) (An B H fun B' v => RdN B' v (limbs (val xs * val ys))) := by
  refine Ev.fn (fun k => f119_eq k _ _ H) ?_
  have hS := St.start hL
  have ha := ha.rd
  have hb := hb.rd
  repeat (first | refine Ev.s ?_ | refine Ev.newC fun _ _ _ => ?_ | refine Ev.boxC fun _ _ _ => ?_ | refine Ev.stC fun _ _ => ?_ | refine Ev.sc (by omega) ?_ | refine Ev.scg (by omega) ?_)
  refine Ev.mkS Ew hS (by omega) (by omega) fun bo B1 H1 hm1 hS1 => ?_
  rw [map_replicate] at hS1
  refine Ev.bind (Ev.loop (rmul_loop (ha.mono hm1) (hb.mono hm1) (by omega) xs.length 0 (List.replicate (xs.length + ys.length) 0) H1 (by omega) (by simp) (small_replicate _) (by simp [val, val_replicate]) hS1)) ?_
  rintro _ ⟨zs, H2, rfl, hz, hsm, hv, hS2⟩
  refine Ev.eq (fun k _ => f119_A0_x0 k _ H2) ?_
  obtain ⟨B4, hm4, hr4, hS4⟩ := hS2.freezeN (n := xs.length + ys.length) (cap := xs.length + ys.length) hsm hz.symm (by omega)
  refine Ev.callD (rTrim_spec (xs := zs) (by omega)) fun v B5 H5 hm5 hS5 h5 => ?_
  rw [hv] at h5
  exact Ev.doneC h5
end Go.AM.Y
set_option linter.unusedVariables false
set_option linter.unusedSimpArgs false
set_option maxRecDepth 100000
namespace Go.AM.Y
open Go Go.AM Go.Proofs
attribute [local irreducible] run bin un ld st box newV mkS fldA fld ixA ix slc slc3 build buildS cv cvS ap cpy lenV gOp pickV b2 aIf aChk evalK resume iterD Option.bind

theorem rMake_spec {B H : AH} {xs : List Nat} {m : Value} {neg : Bool} (hm : xs.length < 274877906944) [ha : RdT B m xs] (hL : Le B H) :
    Ev (fun k _ => rn k 121 [.bool neg, m] H) (An B H fun B' v => IntV B' v (sg neg (val xs))) := by
  refine Ev.fn (fun k => f121_eq k _ _ H) ?_
  have hS := St.start hL
  repeat (first | refine Ev.s ?_ | refine Ev.newC fun _ _ _ => ?_ | refine Ev.boxC fun _ _ _ => ?_ | refine Ev.stC fun _ _ => ?_ | refine Ev.sc (by omega) ?_ | refine Ev.scg (by omega) ?_)
  refine Ev.callD (rTrim_spec (xs := xs) (by omega)) fun v1 B1 H1 hm1 hS1 h1 => ?_
  have hneg : neg = false ∨ neg = true := by cases neg <;> simp
  have key : ∀ c : Bool, c = decide (sg neg (val xs) < 0) → IntV B1 (.agg #[.bool c, v1]) (sg neg (val xs)) := by
    intro c hc
    exact ⟨v1, by rw [hc], by rw [sg_abs]; exact h1⟩
  rcases hneg with rfl | rfl
  · repeat (first | refine Ev.s ?_ | refine Ev.newC fun _ _ _ => ?_ | refine Ev.boxC fun _ _ _ => ?_ | refine Ev.stC fun _ _ => ?_ | refine Ev.sc (by omega) ?_ | refine Ev.scg (by omega) ?_)
    exact Ev.doneC (key false (by rw [← sg_neg]; rfl))
  · repeat (first | refine Ev.s ?_ | refine Ev.newC fun _ _ _ => ?_ | refine Ev.boxC fun _ _ _ => ?_ | refine Ev.stC fun _ _ => ?_ | refine Ev.sc (by omega) ?_ | refine Ev.scg (by omega) ?_)
    refine Ev.doneC (key _ ?_)
    rw [← sg_neg, Bool.true_and]
    exact decide_eq_decide.mpr (by rw [Nat.pos_iff_ne_zero, ne_eq, List.length_eq_zero_iff, limbs_eq_nil])
theorem rRight_spec {B H : AH} {xs : List Nat} {m : Value} {neg : Bool} (hm : xs.length < 9223372036854775808) [ha : RdT B m xs] (hL : Le B H) :
    Ev (fun k _ => rn k 93 [.agg #[.bool neg, m]] H) (An B H fun _ v => v = .bool (rightI neg xs)) := by
  refine Ev.fn (fun k => f93_eq k _ H) ?_
  have hS := St.start hL
  have ha := ha.rd
  unfold rightI
  repeat (first | refine Ev.s ?_ | refine Ev.newC fun _ _ _ => ?_ | refine Ev.boxC fun _ _ _ => ?_ | refine Ev.stC fun _ _ => ?_ | refine Ev.sc (by omega) ?_ | refine Ev.scg (by omega) ?_)
  by_cases h : xs.length = 0
  · rw [decide_eq_true h, if_pos h]
    repeat (first | refine Ev.s ?_ | refine Ev.newC fun _ _ _ => ?_ | refine Ev.boxC fun _ _ _ => ?_ | refine Ev.stC fun _ _ => ?_ | refine Ev.sc (by omega) ?_ | refine Ev.scg (by omega) ?_)
    cases neg with
    | true =>
      rw [Bool.not_true]
      repeat (first | refine Ev.s ?_ | refine Ev.newC fun _ _ _ => ?_ | refine Ev.boxC fun _ _ _ => ?_ | refine Ev.stC fun _ _ => ?_ | refine Ev.sc (by omega) ?_ | refine Ev.scg (by omega) ?_)
      rw [decide_eq_false (by omega)]
      repeat (first | refine Ev.s ?_ | refine Ev.newC fun _ _ _ => ?_ | refine Ev.boxC fun _ _ _ => ?_ | refine Ev.stC fun _ _ => ?_ | refine Ev.sc (by omega) ?_ | refine Ev.scg (by omega) ?_)
      exact Ev.doneC rfl
    | false =>
      rw [Bool.not_false]
      repeat (first | refine Ev.s ?_ | refine Ev.newC fun _ _ _ => ?_ | refine Ev.boxC fun _ _ _ => ?_ | refine Ev.stC fun _ _ => ?_ | refine Ev.sc (by omega) ?_ | refine Ev.scg (by omega) ?_)
      exact Ev.doneC rfl
  · rw [decide_eq_false h, if_neg h]
    repeat (first | refine Ev.s ?_ | refine Ev.newC fun _ _ _ => ?_ | refine Ev.boxC fun _ _ _ => ?_ | refine Ev.stC fun _ _ => ?_ | refine Ev.sc (by omega) ?_ | refine Ev.scg (by omega) ?_)
    rw [decide_eq_true (by omega)]
    repeat (first | refine Ev.s ?_ | refine Ev.newC fun _ _ _ => ?_ | refine Ev.boxC fun _ _ _ => ?_ | refine Ev.stC fun _ _ => ?_ | refine Ev.sc (by omega) ?_ | refine Ev.scg (by omega) ?_)
    refine Ev.ixCg (xs.length - 1) rfl (by omega) fun p hp => ?_
    repeat (first | refine Ev.s ?_ | refine Ev.newC fun _ _ _ => ?_ | refine Ev.boxC fun _ _ _ => ?_ | refine Ev.stC fun _ _ => ?_ | refine Ev.sc (by omega) ?_ | refine Ev.scg (by omega) ?_)
    exact Ev.doneC rfl
theorem add_len' (a b : Nat) : (limbs (a + b)).length ≤ (limbs a).length + (limbs b).length + 1 := by
  have := add_len (X := (a : Int)) (Y := (b : Int)) (a := (limbs a).length) (b := (limbs b).length) (by simp) (by simp)
  rwa [← Int.natCast_add, Int.natAbs_natCast] at this
end Go.AM.Y
set_option linter.unusedVariables false
set_option linter.unusedSimpArgs false
set_option maxRecDepth 100000
namespace Go.AM.Y
open Go Go.AM Go.Proofs
attribute [local irreducible] run bin un ld st box newV mkS fldA fld ixA ix slc slc3 build buildS cv cvS ap cpy lenV gOp pickV b2 aIf aChk evalK resume iterD Option.bind

def DyV (B : AH) (v : Value) (d : Dy) : Prop := ∃ m, v = .agg #[.bool d.neg, m, .int .i64 d.e] ∧ RdN B m d.mag
theorem DyV.mono {B B' : AH} {v : Value} {d : Dy} (hm : Mo B B') (h : DyV B v d) : DyV B' v d := h.elim fun m hh => ⟨m, hh.1, hh.2.mono hm⟩
theorem dzero_spec {B H : AH} {d : Dy} {v : Value} (ha : DyV B v d) (hL : Le B H) : Ev (fun k _ => rn k 64 [v] H) (An B H fun _ v => v = .bool (decide (d.mag.length = 0))) := by
  refine Ev.fn (fun k => f64_eq k _ H) ?_
  obtain ⟨m, rfl, hm⟩ := ha
  have hS := St.start hL
  repeat (first | refine Ev.s ?_ | refine Ev.newC fun _ _ _ => ?_ | refine Ev.boxC fun _ _ _ => ?_ | refine Ev.stC fun _ _ => ?_ | refine Ev.sc (by omega) ?_ | refine Ev.scg (by omega) ?_)
  exact Ev.doneC rfl
theorem within_spec {H : AH} {n lo hi : Int} : Ev (fun k _ => rn k 81 [.int .i64 n, .int .i64 lo, .int .i64 hi] H) (Pu H fun v => v = .bool (decide (lo ≤ n ∧ n ≤ hi))) := by
  refine Ev.fn (fun k => f81_eq k _ _ _ H) ?_
  repeat (first | refine Ev.s ?_ | refine Ev.newC fun _ _ _ => ?_ | refine Ev.boxC fun _ _ _ => ?_ | refine Ev.stC fun _ _ => ?_ | refine Ev.sc (by omega) ?_ | refine Ev.scg (by omega) ?_)
  by_cases h : lo ≤ n
  · rw [decide_eq_true h]
    repeat (first | refine Ev.s ?_ | refine Ev.newC fun _ _ _ => ?_ | refine Ev.boxC fun _ _ _ => ?_ | refine Ev.stC fun _ _ => ?_ | refine Ev.sc (by omega) ?_ | refine Ev.scg (by omega) ?_)
    exact Ev.doneU (by simp [h])
  · rw [decide_eq_false h]
    repeat (first | refine Ev.s ?_ | refine Ev.newC fun _ _ _ => ?_ | refine Ev.boxC fun _ _ _ => ?_ | refine Ev.stC fun _ _ => ?_ | refine Ev.sc (by omega) ?_ | refine Ev.scg (by omega) ?_)
    exact Ev.doneU (by simp [h])
theorem dsize_spec {B H : AH} {d : Dy} {v : Value} (hf : Fit d) (ha : DyV B v d) (hL : Le B H) : Ev (fun k _ => rn k 73 [v] H) (An B H fun _ v => v = .int .i64 (d.e + nbits (val d.mag))) := by
  refine Ev.fn (fun k => f73_eq k _ H) ?_
  obtain ⟨m, rfl, hm⟩ := ha
  have hS := St.start hL
  have h1 := hf.len
  have h2 := hf.lo
  have h3 := hf.hi
  have h4 := nbits_val hm.sm
  repeat (first | refine Ev.s ?_ | refine Ev.newC fun _ _ _ => ?_ | refine Ev.boxC fun _ _ _ => ?_ | refine Ev.stC fun _ _ => ?_ | refine Ev.sc (by omega) ?_ | refine Ev.scg (by omega) ?_)
  refine Ev.callU (Bits_spec (by omega) hm (St.lel inferInstance)) ?_
  rintro _ rfl
  repeat (first | refine Ev.s ?_ | refine Ev.newC fun _ _ _ => ?_ | refine Ev.boxC fun _ _ _ => ?_ | refine Ev.stC fun _ _ => ?_ | refine Ev.sc (by omega) ?_ | refine Ev.scg (by omega) ?_)
  exact Ev.doneC rfl
theorem inRange_spec {B H : AH} {d : Dy} {v : Value} (hf : Fit d) (ha : DyV B v d) (hL : Le B H) : Ev (fun k _ => rn k 82 [v] H) (An B H fun _ v => v = .bool (inRangeD d)) := by
  refine Ev.fn (fun k => f82_eq k _ H) ?_
  have ha' := ha
  obtain ⟨m, rfl, hm⟩ := ha
  have hS := St.start hL
  have h1 := hf.len
  unfold inRangeD
  repeat (first | refine Ev.s ?_ | refine Ev.newC fun _ _ _ => ?_ | refine Ev.boxC fun _ _ _ => ?_ | refine Ev.stC fun _ _ => ?_ | refine Ev.sc (by omega) ?_ | refine Ev.scg (by omega) ?_)
  refine Ev.callC (dzero_spec ha') fun v1 B1 H1 hm1 hS1 e1 => ?_
  subst e1
  by_cases h : d.mag.length = 0
  · rw [decide_eq_true h]
    repeat (first | refine Ev.s ?_ | refine Ev.newC fun _ _ _ => ?_ | refine Ev.boxC fun _ _ _ => ?_ | refine Ev.stC fun _ _ => ?_ | refine Ev.sc (by omega) ?_ | refine Ev.scg (by omega) ?_)
    exact Ev.doneC (by simp [h])
  rw [decide_eq_false h]
  repeat (first | refine Ev.s ?_ | refine Ev.newC fun _ _ _ => ?_ | refine Ev.boxC fun _ _ _ => ?_ | refine Ev.stC fun _ _ => ?_ | refine Ev.sc (by omega) ?_ | refine Ev.scg (by omega) ?_)
  refine Ev.callC (dsize_spec hf (ha'.mono hm1)) fun v2 B2 H2 hm2 hS2 e2 => ?_
  subst e2
  repeat (first | refine Ev.s ?_ | refine Ev.newC fun _ _ _ => ?_ | refine Ev.boxC fun _ _ _ => ?_ | refine Ev.stC fun _ _ => ?_ | refine Ev.sc (by omega) ?_ | refine Ev.scg (by omega) ?_)
  refine Ev.callU within_spec ?_
  rintro _ rfl
  by_cases h2 : -65536 ≤ d.e + (nbits (val d.mag) : Int) ∧ d.e + (nbits (val d.mag) : Int) ≤ 65536
  · rw [decide_eq_true h2]
    repeat (first | refine Ev.s ?_ | refine Ev.newC fun _ _ _ => ?_ | refine Ev.boxC fun _ _ _ => ?_ | refine Ev.stC fun _ _ => ?_ | refine Ev.sc (by omega) ?_ | refine Ev.scg (by omega) ?_)
    refine Ev.callU within_spec ?_
    rintro _ rfl
    by_cases h3 : -131072 ≤ d.e ∧ d.e ≤ 131072
    · rw [decide_eq_true h3]
      repeat (first | refine Ev.s ?_ | refine Ev.newC fun _ _ _ => ?_ | refine Ev.boxC fun _ _ _ => ?_ | refine Ev.stC fun _ _ => ?_ | refine Ev.sc (by omega) ?_ | refine Ev.scg (by omega) ?_)
      refine Ev.callU (Bits_spec (by omega) ((hm.mono hm1).mono hm2) (St.lel inferInstance)) ?_
      rintro _ rfl
      repeat (first | refine Ev.s ?_ | refine Ev.newC fun _ _ _ => ?_ | refine Ev.boxC fun _ _ _ => ?_ | refine Ev.stC fun _ _ => ?_ | refine Ev.sc (by omega) ?_ | refine Ev.scg (by omega) ?_)
      exact Ev.doneC (by simp [h, h2, h3])
    · rw [decide_eq_false h3]
      repeat (first | refine Ev.s ?_ | refine Ev.newC fun _ _ _ => ?_ | refine Ev.boxC fun _ _ _ => ?_ | refine Ev.stC fun _ _ => ?_ | refine Ev.sc (by omega) ?_ | refine Ev.scg (by omega) ?_)
      exact Ev.doneC (by simp [h, h3])
  · rw [decide_eq_false h2]
    repeat (first | refine Ev.s ?_ | refine Ev.newC fun _ _ _ => ?_ | refine Ev.boxC fun _ _ _ => ?_ | refine Ev.stC fun _ _ => ?_ | refine Ev.sc (by omega) ?_ | refine Ev.scg (by omega) ?_)
    exact Ev.doneC (by simp [h, h2])
theorem dRight_spec {B H : AH} {d : Dy} {v : Value} (hl : d.mag.length < 9223372036854775808) (ha : DyV B v d) (hL : Le B H) : Ev (fun k _ => rn k 37 [v] H) (An B H fun _ v => v = .bool (rightD d)) := by
  refine Ev.fn (fun k => f37_eq k _ H) ?_
  have ha' := ha
  obtain ⟨m, rfl, hm⟩ := ha
  have hS := St.start hL
  unfold rightD
  repeat (first | refine Ev.s ?_ | refine Ev.newC fun _ _ _ => ?_ | refine Ev.boxC fun _ _ _ => ?_ | refine Ev.stC fun _ _ => ?_ | refine Ev.sc (by omega) ?_ | refine Ev.scg (by omega) ?_)
  refine Ev.callC (Right_spec (by omega) hm) fun v1 B1 H1 hm1 hS1 e1 => ?_
  subst e1
  cases hr : rightI d.neg d.mag with
  | false =>
    repeat (first | refine Ev.s ?_ | refine Ev.newC fun _ _ _ => ?_ | refine Ev.boxC fun _ _ _ => ?_ | refine Ev.stC fun _ _ => ?_ | refine Ev.sc (by omega) ?_ | refine Ev.scg (by omega) ?_)
    exact Ev.doneC rfl
  | true =>
    repeat (first | refine Ev.s ?_ | refine Ev.newC fun _ _ _ => ?_ | refine Ev.boxC fun _ _ _ => ?_ | refine Ev.stC fun _ _ => ?_ | refine Ev.sc (by omega) ?_ | refine Ev.scg (by omega) ?_)
    refine Ev.callC (dzero_spec (ha'.mono hm1)) fun v2 B2 H2 hm2 hS2 e2 => ?_
    subst e2
    by_cases h : d.mag.length = 0
    · rw [decide_eq_true h]
      repeat (first | refine Ev.s ?_ | refine Ev.newC fun _ _ _ => ?_ | refine Ev.boxC fun _ _ _ => ?_ | refine Ev.stC fun _ _ => ?_ | refine Ev.sc (by omega) ?_ | refine Ev.scg (by omega) ?_)
      exact Ev.doneC (by simp [h])
    rw [decide_eq_false h]
    repeat (first | refine Ev.s ?_ | refine Ev.newC fun _ _ _ => ?_ | refine Ev.boxC fun _ _ _ => ?_ | refine Ev.stC fun _ _ => ?_ | refine Ev.sc (by omega) ?_ | refine Ev.scg (by omega) ?_)
    have hm' := (hm.mono hm1).mono hm2
    refine Ev.ixC 0 rfl (by omega) fun p hp => ?_
    repeat (first | refine Ev.s ?_ | refine Ev.newC fun _ _ _ => ?_ | refine Ev.boxC fun _ _ _ => ?_ | refine Ev.stC fun _ _ => ?_ | refine Ev.sc (by omega) ?_ | refine Ev.scg (by omega) ?_)
    refine Ev.prim (andW (b := 1) ⟨hm.sm.getD 0, by decide⟩) ?_
    rw [Nat.and_one_is_mod]
    repeat (first | refine Ev.s ?_ | refine Ev.newC fun _ _ _ => ?_ | refine Ev.boxC fun _ _ _ => ?_ | refine Ev.stC fun _ _ => ?_ | refine Ev.sc (by omega) ?_ | refine Ev.scg (by omega) ?_)
    by_cases h2 : d.mag.getD 0 0 % 2 = 1
    · rw [decide_eq_true (by omega : d.mag.getD 0 0 % 2 ≠ 0)]
      repeat (first | refine Ev.s ?_ | refine Ev.newC fun _ _ _ => ?_ | refine Ev.boxC fun _ _ _ => ?_ | refine Ev.stC fun _ _ => ?_ | refine Ev.sc (by omega) ?_ | refine Ev.scg (by omega) ?_)
      refine Ev.callU within_spec ?_
      rintro _ rfl
      repeat (first | refine Ev.s ?_ | refine Ev.newC fun _ _ _ => ?_ | refine Ev.boxC fun _ _ _ => ?_ | refine Ev.stC fun _ _ => ?_ | refine Ev.sc (by omega) ?_ | refine Ev.scg (by omega) ?_)
      exact Ev.doneC (by simp only [if_neg h, h2, true_and, Bool.true_and])
    · rw [decide_eq_false (by omega : ¬ d.mag.getD 0 0 % 2 ≠ 0)]
      repeat (first | refine Ev.s ?_ | refine Ev.newC fun _ _ _ => ?_ | refine Ev.boxC fun _ _ _ => ?_ | refine Ev.stC fun _ _ => ?_ | refine Ev.sc (by omega) ?_ | refine Ev.scg (by omega) ?_)
      exact Ev.doneC (by simp only [if_neg h, h2, false_and, decide_false, Bool.and_false])
end Go.AM.Y
set_option linter.unusedVariables false
set_option linter.unusedSimpArgs false
set_option maxRecDepth 100000
namespace Go.AM.Y
open Go Go.AM Go.Proofs
attribute [local irreducible] run bin un ld st box newV mkS fldA fld ixA ix slc slc3 build buildS cv cvS ap cpy lenV gOp pickV b2 aIf aChk evalK resume iterD Option.bind

theorem must_true {H0 B0 B H : AH} {L : List (Nat × Blk)} {p : Nat} {e0 : Int} {rest : List Value} {T : TypeId} {x : Value} [hS : St H0 B0 B L H] [hm : InL p ⟨.int .i64 e0 :: rest, T, .fix⟩ L] :
    Ev (fun k _ => rn k 63 [ptr p 0, .bool true, x] H) (fun r => r = (.bool (decide (e0 = 0)), H)) := by
  refine Ev.fn (fun k => f63_eq k _ _ _ H) ?_
  repeat (first | refine Ev.s ?_ | refine Ev.newC fun _ _ _ => ?_ | refine Ev.boxC fun _ _ _ => ?_ | refine Ev.stC fun _ _ => ?_ | refine Ev.sc (by omega) ?_ | refine Ev.scg (by omega) ?_)
  refine Ev.eq (fun k _ => f63_J0_eq k _ H) ?_
  repeat (first | refine Ev.s ?_ | refine Ev.newC fun _ _ _ => ?_ | refine Ev.boxC fun _ _ _ => ?_ | refine Ev.stC fun _ _ => ?_ | refine Ev.sc (by omega) ?_ | refine Ev.scg (by omega) ?_)
  exact Ev.ret rfl
theorem must_false {H0 B0 B H : AH} {L L' : List (Nat × Blk)} {p : Nat} {e : Int} {rest : List Value} {T : TypeId} [hS : St H0 B0 B L H] [hm : InL p ⟨.int .i64 0 :: rest, T, .fix⟩ L] (he : e ≠ 0)
    [hu : UpL p ⟨.int .i64 0 :: rest, T, .fix⟩ ⟨.int .i64 e :: rest, T, .fix⟩ L L'] :
    Ev (fun k _ => rn k 63 [ptr p 0, .bool false, .int .i64 e] H) (AnS H0 B0 B L' fun _ v => v = .bool false) := by
  refine Ev.fn (fun k => f63_eq k _ _ _ H) ?_
  repeat (first | refine Ev.s ?_ | refine Ev.newC fun _ _ _ => ?_ | refine Ev.boxC fun _ _ _ => ?_ | refine Ev.stC fun _ _ => ?_ | refine Ev.sc (by omega) ?_ | refine Ev.scg (by omega) ?_)
  refine Ev.eq (fun k _ => f63_J0_eq k _ _) ?_
  have : InL p ⟨.int .i64 e :: rest, T, .fix⟩ L' := ⟨hu.upd.mem2⟩
  repeat (first | refine Ev.s ?_ | refine Ev.newC fun _ _ _ => ?_ | refine Ev.boxC fun _ _ _ => ?_ | refine Ev.stC fun _ _ => ?_ | refine Ev.sc (by omega) ?_ | refine Ev.scg (by omega) ?_)
  rw [decide_eq_false he]
  exact Ev.doneS (Mo.refl B) rfl
theorem must_more {H0 B0 B H : AH} {L : List (Nat × Blk)} {p : Nat} {e0 : Int} {rest : List Value} {T : TypeId} {x : Value} [hS : St H0 B0 B L H] [hm : InL p ⟨.int .i64 e0 :: rest, T, .fix⟩ L] (he : e0 ≠ 0) {h : Bool} :
    Ev (fun k _ => rn k 63 [ptr p 0, .bool h, x] H) (fun r => r = (.bool false, H)) := by
  refine Ev.fn (fun k => f63_eq k _ _ _ H) ?_
  cases h
  · repeat (first | refine Ev.s ?_ | refine Ev.newC fun _ _ _ => ?_ | refine Ev.boxC fun _ _ _ => ?_ | refine Ev.stC fun _ _ => ?_ | refine Ev.sc (by omega) ?_ | refine Ev.scg (by omega) ?_)
    rw [decide_eq_false he]
    repeat (first | refine Ev.s ?_ | refine Ev.newC fun _ _ _ => ?_ | refine Ev.boxC fun _ _ _ => ?_ | refine Ev.stC fun _ _ => ?_ | refine Ev.sc (by omega) ?_ | refine Ev.scg (by omega) ?_)
    refine Ev.eq (fun k _ => f63_J0_eq k _ H) ?_
    repeat (first | refine Ev.s ?_ | refine Ev.newC fun _ _ _ => ?_ | refine Ev.boxC fun _ _ _ => ?_ | refine Ev.stC fun _ _ => ?_ | refine Ev.sc (by omega) ?_ | refine Ev.scg (by omega) ?_)
    rw [decide_eq_false he]
    exact Ev.ret rfl
  · repeat (first | refine Ev.s ?_ | refine Ev.newC fun _ _ _ => ?_ | refine Ev.boxC fun _ _ _ => ?_ | refine Ev.stC fun _ _ => ?_ | refine Ev.sc (by omega) ?_ | refine Ev.scg (by omega) ?_)
    refine Ev.eq (fun k _ => f63_J0_eq k _ H) ?_
    repeat (first | refine Ev.s ?_ | refine Ev.newC fun _ _ _ => ?_ | refine Ev.boxC fun _ _ _ => ?_ | refine Ev.stC fun _ _ => ?_ | refine Ev.sc (by omega) ?_ | refine Ev.scg (by omega) ?_)
    rw [decide_eq_false he]
    exact Ev.ret rfl
theorem prec_true {H0 B0 B H : AH} {L : List (Nat × Blk)} {p : Nat} {rest : List Value} {q : Int} [hS : St H0 B0 B L H] [hm : InL p ⟨.int .i64 0 :: rest, 73, .fix⟩ L] (hq : 2 ≤ q ∧ q ≤ 400) :
    Ev (fun k _ => rn k 56 [ptr p 0, .int .i64 q] H) (fun r => r = (.bool true, H)) := by
  refine Ev.fn (fun k => f56_eq k _ _ H) ?_
  repeat (first | refine Ev.s ?_ | refine Ev.newC fun _ _ _ => ?_ | refine Ev.boxC fun _ _ _ => ?_ | refine Ev.stC fun _ _ => ?_ | refine Ev.sc (by omega) ?_ | refine Ev.scg (by omega) ?_)
  refine Ev.callU within_spec ?_
  rintro _ rfl
  rw [decide_eq_true hq]
  refine Ev.callP must_true ?_
  exact Ev.ret rfl
theorem prec_false {H0 B0 B H : AH} {L L' : List (Nat × Blk)} {p : Nat} {rest : List Value} {q : Int} [hS : St H0 B0 B L H] [hm : InL p ⟨.int .i64 0 :: rest, 73, .fix⟩ L] (hq : ¬ (2 ≤ q ∧ q ≤ 400))
    [hu : UpL p ⟨.int .i64 0 :: rest, 73, .fix⟩ ⟨.int .i64 1 :: rest, 73, .fix⟩ L L'] :
    Ev (fun k _ => rn k 56 [ptr p 0, .int .i64 q] H) (AnS H0 B0 B L' fun _ v => v = .bool false) := by
  refine Ev.fn (fun k => f56_eq k _ _ H) ?_
  repeat (first | refine Ev.s ?_ | refine Ev.newC fun _ _ _ => ?_ | refine Ev.boxC fun _ _ _ => ?_ | refine Ev.stC fun _ _ => ?_ | refine Ev.sc (by omega) ?_ | refine Ev.scg (by omega) ?_)
  refine Ev.callU within_spec ?_
  rintro _ rfl
  rw [decide_eq_false hq]
  refine Ev.callS (must_false (by decide)) fun v B1 H1 hm1 hS1 e1 => ?_
  subst e1
  exact Ev.doneS hm1 rfl
/-- What the work tells behind 'right'. -/
theorem right_end {H0 B0 B H : AH} {L : List (Nat × Blk)} {p : Nat} {e0 : Int} {rest : List Value} [hS : St H0 B0 B L H] [hm : InL p ⟨.int .i64 e0 :: rest, 73, .fix⟩ L] :
    Ev (fun k _ => f55_A0 k (.exit 0) (f55_X_L0 (ptr p 0)) H) (fun r => r = (.bool (decide (e0 = 0)), H)) := by
  refine Ev.eq (fun k _ => f55_A0_x0 k _ H) ?_
  repeat (first | refine Ev.s ?_ | refine Ev.newC fun _ _ _ => ?_ | refine Ev.boxC fun _ _ _ => ?_ | refine Ev.stC fun _ _ => ?_ | refine Ev.sc (by omega) ?_ | refine Ev.scg (by omega) ?_)
  exact Ev.ret rfl
/-- One round of 'right'. -/
theorem right_round {H0 B0 B H : AH} {L : List (Nat × Blk)} {p b len j o : Nat} {rest cs : List Value} {neg : Bool} {m : Value} {e : Int} {xs : List Nat} {Q : Out → Prop} [hS : St H0 B0 B L H] [hm : InL p ⟨.int .i64 0 :: rest, 73, .fix⟩ L]
    [hb : InL b ⟨cs, 26, .fix⟩ L] [ht : TimesL j 3 o] [hc : Cut cs o 3 [.bool neg, m, .int .i64 e]] [hx : RdN B m xs] (hl : xs.length < 34359738368) (hj : j < len) (hlen : len < 10)
    (h1 : rightD ⟨neg, xs, e⟩ = true → ∀ B' H', Mo B B' → St H0 B0 B' L H' → Ev (fun k n => f55_L0 k (ptr p 0) (sl b 0 len len) (i64 len) (i64 (j + 1)) n H') Q)
    (h2 : rightD ⟨neg, xs, e⟩ = false → ∀ B' H' L', Mo B B' → Upd p ⟨.int .i64 0 :: rest, 73, .fix⟩ ⟨.int .i64 1 :: rest, 73, .fix⟩ L L' → St H0 B0 B' L' H' → Ev (fun k n => f55_L0 k (ptr p 0) (sl b 0 len len) (i64 len) (i64 (j + 1)) n H') Q) :
    Ev (fun k n => f55_L0 k (ptr p 0) (sl b 0 len len) (i64 len) (i64 j) n H) Q := by
  refine Ev.succ (fun k n => f55_L0_succ k _ _ _ _ n H) ?_
  repeat (first | refine Ev.s ?_ | refine Ev.newC fun _ _ _ => ?_ | refine Ev.boxC fun _ _ _ => ?_ | refine Ev.stC fun _ _ => ?_ | refine Ev.sc (by omega) ?_ | refine Ev.scg (by omega) ?_)
  rw [decide_eq_true hj]
  repeat (first | refine Ev.s ?_ | refine Ev.newC fun _ _ _ => ?_ | refine Ev.boxC fun _ _ _ => ?_ | refine Ev.stC fun _ _ => ?_ | refine Ev.sc (by omega) ?_ | refine Ev.scg (by omega) ?_)
  refine Ev.callC (dRight_spec (d := ⟨neg, xs, e⟩) (by simp only; omega) ⟨m, rfl, hx⟩) fun v1 B1 H1 hm1 hS1 e1 => ?_
  subst e1
  cases hr : rightD ⟨neg, xs, e⟩ with
  | true =>
    refine Ev.callP must_true ?_
    repeat (first | refine Ev.s ?_ | refine Ev.newC fun _ _ _ => ?_ | refine Ev.boxC fun _ _ _ => ?_ | refine Ev.stC fun _ _ => ?_ | refine Ev.sc (by omega) ?_ | refine Ev.scg (by omega) ?_)
    exact h1 hr B1 _ hm1 hS1.drop1
  | false =>
    obtain ⟨L', hu⟩ : ∃ L', Upd p ⟨.int .i64 0 :: rest, 73, .fix⟩ ⟨.int .i64 1 :: rest, 73, .fix⟩ L L' := Upd.make hm.mem
    have : UpL p ⟨.int .i64 0 :: rest, 73, .fix⟩ ⟨.int .i64 1 :: rest, 73, .fix⟩ L L' := ⟨hu⟩
    refine Ev.callS (must_false (by decide)) fun v2 B2 H2 hm2 hS2 e2 => ?_
    repeat (first | refine Ev.s ?_ | refine Ev.newC fun _ _ _ => ?_ | refine Ev.boxC fun _ _ _ => ?_ | refine Ev.stC fun _ _ => ?_ | refine Ev.sc (by omega) ?_ | refine Ev.scg (by omega) ?_)
    exact h2 hr B2 _ L' (hm1.trans hm2) hu hS2.drop1
/-- A round behind a fault: nothing changes. -/
theorem right_more {H0 B0 B H : AH} {L : List (Nat × Blk)} {p b len j o : Nat} {rest cs : List Value} {neg : Bool} {m : Value} {e : Int} {xs : List Nat} {Q : Out → Prop} [hS : St H0 B0 B L H] [hm : InL p ⟨.int .i64 1 :: rest, 73, .fix⟩ L]
    [hb : InL b ⟨cs, 26, .fix⟩ L] [ht : TimesL j 3 o] [hc : Cut cs o 3 [.bool neg, m, .int .i64 e]] [hx : RdN B m xs] (hl : xs.length < 34359738368) (hj : j < len) (hlen : len < 10)
    (h1 : ∀ B' H', Mo B B' → St H0 B0 B' L H' → Ev (fun k n => f55_L0 k (ptr p 0) (sl b 0 len len) (i64 len) (i64 (j + 1)) n H') Q) :
    Ev (fun k n => f55_L0 k (ptr p 0) (sl b 0 len len) (i64 len) (i64 j) n H) Q := by
  refine Ev.succ (fun k n => f55_L0_succ k _ _ _ _ n H) ?_
  repeat (first | refine Ev.s ?_ | refine Ev.newC fun _ _ _ => ?_ | refine Ev.boxC fun _ _ _ => ?_ | refine Ev.stC fun _ _ => ?_ | refine Ev.sc (by omega) ?_ | refine Ev.scg (by omega) ?_)
  rw [decide_eq_true hj]
  repeat (first | refine Ev.s ?_ | refine Ev.newC fun _ _ _ => ?_ | refine Ev.boxC fun _ _ _ => ?_ | refine Ev.stC fun _ _ => ?_ | refine Ev.sc (by omega) ?_ | refine Ev.scg (by omega) ?_)
  refine Ev.callC (dRight_spec (d := ⟨neg, xs, e⟩) (by simp only; omega) ⟨m, rfl, hx⟩) fun v1 B1 H1 hm1 hS1 e1 => ?_
  subst e1
  refine Ev.callP (must_more (by decide)) ?_
  repeat (first | refine Ev.s ?_ | refine Ev.newC fun _ _ _ => ?_ | refine Ev.boxC fun _ _ _ => ?_ | refine Ev.stC fun _ _ => ?_ | refine Ev.sc (by omega) ?_ | refine Ev.scg (by omega) ?_)
  exact h1 B1 _ hm1 hS1.drop1
theorem right_out {H0 B0 B H : AH} {L : List (Nat × Blk)} {p b len : Nat} {e0 : Int} {rest : List Value} [hS : St H0 B0 B L H] [hm : InL p ⟨.int .i64 e0 :: rest, 73, .fix⟩ L] (hlen : len < 10) :
    Ev (fun k n => f55_L0 k (ptr p 0) (sl b 0 len len) (i64 len) (i64 len) n H) (fun o => o = (.exit 0, f55_X_L0 (ptr p 0), H)) := by
  refine Ev.succ (fun k n => f55_L0_succ k _ _ _ _ n H) ?_
  repeat (first | refine Ev.s ?_ | refine Ev.newC fun _ _ _ => ?_ | refine Ev.boxC fun _ _ _ => ?_ | refine Ev.stC fun _ _ => ?_ | refine Ev.sc (by omega) ?_ | refine Ev.scg (by omega) ?_)
  rw [decide_eq_false (by omega : ¬ len < len)]
  repeat (first | refine Ev.s ?_ | refine Ev.newC fun _ _ _ => ?_ | refine Ev.boxC fun _ _ _ => ?_ | refine Ev.stC fun _ _ => ?_ | refine Ev.sc (by omega) ?_ | refine Ev.scg (by omega) ?_)
  exact Ev.ret rfl
theorem right1_true {H0 B0 B H : AH} {L : List (Nat × Blk)} {p b : Nat} {rest : List Value} {neg : Bool} {m : Value} {e : Int} {xs : List Nat} [hS : St H0 B0 B L H] [hm : InL p ⟨.int .i64 0 :: rest, 73, .fix⟩ L]
    [hb : InL b ⟨[.bool neg, m, .int .i64 e], 26, .fix⟩ L] [hx : RdN B m xs] (hl : xs.length < 34359738368) (hr : rightD ⟨neg, xs, e⟩ = true) :
    Ev (fun k _ => rn k 55 [ptr p 0, sl b 0 1 1] H) (AnS H0 B0 B L fun _ v => v = .bool true) := by
  refine Ev.fn (fun k => f55_eq k _ _ H) ?_
  repeat (first | refine Ev.s ?_ | refine Ev.newC fun _ _ _ => ?_ | refine Ev.boxC fun _ _ _ => ?_ | refine Ev.stC fun _ _ => ?_ | refine Ev.sc (by omega) ?_ | refine Ev.scg (by omega) ?_)
  refine Ev.bind (Ev.loop (L := fun k n => f55_L0 k (ptr p 0) (sl b 0 1 1) (i64 1) (.int .i64 0) n H) (Q := fun o => ∃ B' H', o = (.exit 0, f55_X_L0 (ptr p 0), H') ∧ Mo B B' ∧ St H0 B0 B' L H') ?_) ?_
  · refine right_round (len := 1) (j := 0) hl (by decide) (by decide) (fun _ B1 H1 hm1 hS1 => ?_) (fun h => by rw [hr] at h; cases h)
    exact (right_out (len := 1) (by decide)).mono fun o ho => ⟨B1, H1, ho, hm1, hS1⟩
  · rintro _ ⟨B1, H1, rfl, hm1, hS1⟩
    exact right_end.mono fun r h => by rw [h]; exact ⟨B1, hm1, hS1, rfl⟩
theorem right1_false {H0 B0 B H : AH} {L L' : List (Nat × Blk)} {p b : Nat} {rest : List Value} {neg : Bool} {m : Value} {e : Int} {xs : List Nat} [hS : St H0 B0 B L H] [hm : InL p ⟨.int .i64 0 :: rest, 73, .fix⟩ L]
    [hb : InL b ⟨[.bool neg, m, .int .i64 e], 26, .fix⟩ L] [hx : RdN B m xs] (hl : xs.length < 34359738368) (hr : rightD ⟨neg, xs, e⟩ = false)
    [hu : UpL p ⟨.int .i64 0 :: rest, 73, .fix⟩ ⟨.int .i64 1 :: rest, 73, .fix⟩ L L'] :
    Ev (fun k _ => rn k 55 [ptr p 0, sl b 0 1 1] H) (AnS H0 B0 B L' fun _ v => v = .bool false) := by
  refine Ev.fn (fun k => f55_eq k _ _ H) ?_
  have hm' : InL p ⟨.int .i64 1 :: rest, 73, .fix⟩ L' := ⟨hu.upd.mem2⟩
  repeat (first | refine Ev.s ?_ | refine Ev.newC fun _ _ _ => ?_ | refine Ev.boxC fun _ _ _ => ?_ | refine Ev.stC fun _ _ => ?_ | refine Ev.sc (by omega) ?_ | refine Ev.scg (by omega) ?_)
  refine Ev.bind (Ev.loop (L := fun k n => f55_L0 k (ptr p 0) (sl b 0 1 1) (i64 1) (.int .i64 0) n H) (Q := fun o => ∃ B' H', o = (.exit 0, f55_X_L0 (ptr p 0), H') ∧ Mo B B' ∧ St H0 B0 B' L' H') ?_) ?_
  · refine right_round (len := 1) (j := 0) hl (by decide) (by decide) (fun h => by rw [hr] at h; cases h) (fun _ B1 H1 L1 hm1 hu1 hS1 => ?_)
    cases hu.upd.fix hS.nd hu1
    exact (right_out (len := 1) (by decide)).mono fun o ho => ⟨B1, H1, ho, hm1, hS1⟩
  · rintro _ ⟨B1, H1, rfl, hm1, hS1⟩
    exact right_end.mono fun r h => by rw [h]; exact ⟨B1, hm1, hS1, rfl⟩
theorem right2_true {H0 B0 B H : AH} {L : List (Nat × Blk)} {p b : Nat} {rest : List Value} {neg neg2 : Bool} {m m2 : Value} {e e2 : Int} {xs xs2 : List Nat} [hS : St H0 B0 B L H] [hm : InL p ⟨.int .i64 0 :: rest, 73, .fix⟩ L]
    [hb : InL b ⟨[.bool neg, m, .int .i64 e, .bool neg2, m2, .int .i64 e2], 26, .fix⟩ L] [hx : RdN B m xs] [hx2 : RdN B m2 xs2] (hl : xs.length < 34359738368) (hl2 : xs2.length < 34359738368) (hr : rightD ⟨neg, xs, e⟩ = true) (hr2 : rightD ⟨neg2, xs2, e2⟩ = true) :
    Ev (fun k _ => rn k 55 [ptr p 0, sl b 0 2 2] H) (AnS H0 B0 B L fun _ v => v = .bool true) := by
  refine Ev.fn (fun k => f55_eq k _ _ H) ?_
  repeat (first | refine Ev.s ?_ | refine Ev.newC fun _ _ _ => ?_ | refine Ev.boxC fun _ _ _ => ?_ | refine Ev.stC fun _ _ => ?_ | refine Ev.sc (by omega) ?_ | refine Ev.scg (by omega) ?_)
  refine Ev.bind (Ev.loop (L := fun k n => f55_L0 k (ptr p 0) (sl b 0 2 2) (i64 2) (.int .i64 0) n H) (Q := fun o => ∃ B' H', o = (.exit 0, f55_X_L0 (ptr p 0), H') ∧ Mo B B' ∧ St H0 B0 B' L H') ?_) ?_
  · refine right_round (len := 2) (j := 0) hl (by decide) (by decide) (fun _ B1 H1 hm1 hS1 => ?_) (fun h => by rw [hr] at h; cases h)
    have hx2 := hx2.mono hm1
    refine right_round (len := 2) (j := 1) hl2 (by decide) (by decide) (fun _ B2 H2 hm2 hS2 => ?_) (fun h => by rw [hr2] at h; cases h)
    exact (right_out (len := 2) (by decide)).mono fun o ho => ⟨B2, H2, ho, hm1.trans hm2, hS2⟩
  · rintro _ ⟨B1, H1, rfl, hm1, hS1⟩
    exact right_end.mono fun r h => by rw [h]; exact ⟨B1, hm1, hS1, rfl⟩
theorem right2_false {H0 B0 B H : AH} {L L' : List (Nat × Blk)} {p b : Nat} {rest : List Value} {neg neg2 : Bool} {m m2 : Value} {e e2 : Int} {xs xs2 : List Nat} [hS : St H0 B0 B L H] [hm : InL p ⟨.int .i64 0 :: rest, 73, .fix⟩ L]
    [hb : InL b ⟨[.bool neg, m, .int .i64 e, .bool neg2, m2, .int .i64 e2], 26, .fix⟩ L] [hx : RdN B m xs] [hx2 : RdN B m2 xs2] (hl : xs.length < 34359738368) (hl2 : xs2.length < 34359738368) (hr : (rightD ⟨neg, xs, e⟩ && rightD ⟨neg2, xs2, e2⟩) = false)
    [hu : UpL p ⟨.int .i64 0 :: rest, 73, .fix⟩ ⟨.int .i64 1 :: rest, 73, .fix⟩ L L'] (hbp : b ≠ p) :
    Ev (fun k _ => rn k 55 [ptr p 0, sl b 0 2 2] H) (AnS H0 B0 B L' fun _ v => v = .bool false) := by
  refine Ev.fn (fun k => f55_eq k _ _ H) ?_
  have hm' : InL p ⟨.int .i64 1 :: rest, 73, .fix⟩ L' := ⟨hu.upd.mem2⟩
  have hb' : InL b ⟨[.bool neg, m, .int .i64 e, .bool neg2, m2, .int .i64 e2], 26, .fix⟩ L' := ⟨hu.upd.other hb.mem hbp⟩
  repeat (first | refine Ev.s ?_ | refine Ev.newC fun _ _ _ => ?_ | refine Ev.boxC fun _ _ _ => ?_ | refine Ev.stC fun _ _ => ?_ | refine Ev.sc (by omega) ?_ | refine Ev.scg (by omega) ?_)
  refine Ev.bind (Ev.loop (L := fun k n => f55_L0 k (ptr p 0) (sl b 0 2 2) (i64 2) (.int .i64 0) n H) (Q := fun o => ∃ B' H', o = (.exit 0, f55_X_L0 (ptr p 0), H') ∧ Mo B B' ∧ St H0 B0 B' L' H') ?_) ?_
  · refine right_round (len := 2) (j := 0) hl (by decide) (by decide) (fun h B1 H1 hm1 hS1 => ?_) (fun h B1 H1 L1 hm1 hu1 hS1 => ?_)
    · have hx2 := hx2.mono hm1
      refine right_round (len := 2) (j := 1) hl2 (by decide) (by decide) (fun h2 => by rw [h, h2] at hr; cases hr) (fun h2 B2 H2 L2 hm2 hu2 hS2 => ?_)
      cases hu.upd.fix hS.nd hu2
      exact (right_out (len := 2) (by decide)).mono fun o ho => ⟨B2, H2, ho, hm1.trans hm2, hS2⟩
    · cases hu.upd.fix hS.nd hu1
      have hx2 := hx2.mono hm1
      refine right_more (len := 2) (j := 1) hl2 (by decide) (by decide) fun B2 H2 hm2 hS2 => ?_
      exact (right_out (len := 2) (by decide)).mono fun o ho => ⟨B2, H2, ho, hm1.trans hm2, hS2⟩
  · rintro _ ⟨B1, H1, rfl, hm1, hS1⟩
    exact right_end.mono fun r h => by rw [h]; exact ⟨B1, hm1, hS1, rfl⟩
end Go.AM.Y
set_option linter.unusedVariables false
set_option linter.unusedSimpArgs false
set_option maxRecDepth 100000
namespace Go.AM.Y
open Go Go.AM Go.Proofs
attribute [local irreducible] run bin un ld st box newV mkS fldA fld ixA ix slc slc3 build buildS cv cvS ap cpy lenV gOp pickV b2 aIf aChk evalK resume iterD Option.bind

theorem zeroDyV {B : AH} : DyV B (.agg #[.bool false, .slice none 0 0, .int .i64 0]) zeroDy := ⟨_, rfl, RdN.nil⟩
def ResV (B : AH) (v : Value) (d : Dy) (c : Int) : Prop := ∃ x, v = .tuple #[x, .int .i64 c] ∧ DyV B x d
theorem told_spec {H0 B0 B H : AH} {L : List (Nat × Blk)} {p : Nat} {e0 : Int} {neg : Bool} {m : Value} {e : Int} {xs : List Nat} (hS : St H0 B0 B ((p, ⟨[.int .i64 e0, .bool neg, m, .int .i64 e], 73, .fix⟩) :: L) H) (hf : Fit ⟨neg, xs, e⟩) (hx : RdN B m xs) :
    Ev (fun k _ => rn k 58 [ptr p 0] H) (AnS H0 B0 B L fun B' v => ResV B' v (toldR e0 ⟨neg, xs, e⟩).1 (toldR e0 ⟨neg, xs, e⟩).2) := by
  refine Ev.fn (fun k => f58_eq k _ H) ?_
  repeat (first | refine Ev.s ?_ | refine Ev.newC fun _ _ _ => ?_ | refine Ev.boxC fun _ _ _ => ?_ | refine Ev.stC fun _ _ => ?_ | refine Ev.sc (by omega) ?_ | refine Ev.scg (by omega) ?_)
  by_cases h0 : e0 = 0
  · subst h0
    rw [decide_eq_false (by decide)]
    repeat (first | refine Ev.s ?_ | refine Ev.newC fun _ _ _ => ?_ | refine Ev.boxC fun _ _ _ => ?_ | refine Ev.stC fun _ _ => ?_ | refine Ev.sc (by omega) ?_ | refine Ev.scg (by omega) ?_)
    refine Ev.callC (inRange_spec hf ⟨m, rfl, hx⟩) fun v1 B1 H1 hm1 hS1 e1 => ?_
    subst e1
    have hx1 := hx.mono hm1
    cases hr : inRangeD ⟨neg, xs, e⟩ with
    | true =>
      have e2 : toldR 0 ⟨neg, xs, e⟩ = (⟨neg, xs, e⟩, 0) := by unfold toldR; rw [if_neg (by decide), if_pos hr]
      rw [e2]
      repeat (first | refine Ev.s ?_ | refine Ev.newC fun _ _ _ => ?_ | refine Ev.boxC fun _ _ _ => ?_ | refine Ev.stC fun _ _ => ?_ | refine Ev.sc (by omega) ?_ | refine Ev.scg (by omega) ?_)
      refine Ev.callP must_true ?_
      rw [decide_eq_true rfl]
      repeat (first | refine Ev.s ?_ | refine Ev.newC fun _ _ _ => ?_ | refine Ev.boxC fun _ _ _ => ?_ | refine Ev.stC fun _ _ => ?_ | refine Ev.sc (by omega) ?_ | refine Ev.scg (by omega) ?_)
      exact Ev.ret ⟨B1, hm1, (St.drop1 (St.drop1 (by assumption))), _, rfl, m, rfl, hx1⟩
    | false =>
      have e2 : toldR 0 ⟨neg, xs, e⟩ = (zeroDy, 4) := by unfold toldR; rw [if_neg (by decide), if_neg (by rw [hr]; decide)]
      rw [e2]
      repeat (first | refine Ev.s ?_ | refine Ev.newC fun _ _ _ => ?_ | refine Ev.boxC fun _ _ _ => ?_ | refine Ev.stC fun _ _ => ?_ | refine Ev.sc (by omega) ?_ | refine Ev.scg (by omega) ?_)
      refine Ev.callS (must_false (by decide)) fun v2 B2 H2 hm2 hS2 e2 => ?_
      subst e2
      repeat (first | refine Ev.s ?_ | refine Ev.newC fun _ _ _ => ?_ | refine Ev.boxC fun _ _ _ => ?_ | refine Ev.stC fun _ _ => ?_ | refine Ev.sc (by omega) ?_ | refine Ev.scg (by omega) ?_)
      exact Ev.ret ⟨B2, hm1.trans hm2, (St.drop1 (St.drop1 (by assumption))), _, rfl, zeroDyV⟩
  · have e2 : toldR e0 ⟨neg, xs, e⟩ = (zeroDy, e0) := by unfold toldR; rw [if_pos h0]
    rw [e2, decide_eq_true h0]
    repeat (first | refine Ev.s ?_ | refine Ev.newC fun _ _ _ => ?_ | refine Ev.boxC fun _ _ _ => ?_ | refine Ev.stC fun _ _ => ?_ | refine Ev.sc (by omega) ?_ | refine Ev.scg (by omega) ?_)
    refine Ev.callP must_true ?_
    rw [decide_eq_false h0]
    repeat (first | refine Ev.s ?_ | refine Ev.newC fun _ _ _ => ?_ | refine Ev.boxC fun _ _ _ => ?_ | refine Ev.stC fun _ _ => ?_ | refine Ev.sc (by omega) ?_ | refine Ev.scg (by omega) ?_)
    exact Ev.ret ⟨B, Mo.refl B, (St.drop1 (St.drop1 (by assumption))), _, rfl, zeroDyV⟩
theorem norm_loop0 {B H : AH} {neg ev rs m : Value} {n : Nat} [hx : RdN B m (limbs n)] (hL : Le B H) (hl : (limbs n).length < 34359738368) :
    ∀ (c i : Nat), i + c = (limbs n).length → (∀ t, t < i → (limbs n).getD t 0 = 0) → (∃ t, t < (limbs n).length ∧ (limbs n).getD t 0 ≠ 0) →
    Ev (fun k l => f78_L0 k neg m ev rs (i64 (32 * i)) l H) (fun o => ∃ i, o = (.exit 0, f78_X_L0 neg m ev rs (i64 (32 * i)), H) ∧ i < (limbs n).length ∧ (∀ t, t < i → (limbs n).getD t 0 = 0) ∧ (limbs n).getD i 0 ≠ 0) := by
  intro c
  have hS := St.start hL
  induction c with
  | zero =>
    intro i hi hz ⟨t, ht, hne⟩
    exact absurd (hz t (by omega)) hne
  | succ c ih =>
    intro i hi hz hex
    refine Ev.succ (fun k l => f78_L0_succ k _ _ _ _ _ l H) ?_
    repeat (first | refine Ev.s ?_ | refine Ev.newC fun _ _ _ => ?_ | refine Ev.boxC fun _ _ _ => ?_ | refine Ev.stC fun _ _ => ?_ | refine Ev.sc (by omega) ?_ | refine Ev.scg (by omega) ?_)
    rw [show 32 * i / 32 = i by omega]
    refine Ev.ixC i rfl (by omega) fun p hp => ?_
    repeat (first | refine Ev.s ?_ | refine Ev.newC fun _ _ _ => ?_ | refine Ev.boxC fun _ _ _ => ?_ | refine Ev.stC fun _ _ => ?_ | refine Ev.sc (by omega) ?_ | refine Ev.scg (by omega) ?_)
    refine Ev.ifp (fun h => ?_) fun h => ?_
    · repeat (first | refine Ev.s ?_ | refine Ev.newC fun _ _ _ => ?_ | refine Ev.boxC fun _ _ _ => ?_ | refine Ev.stC fun _ _ => ?_ | refine Ev.sc (by omega) ?_ | refine Ev.scg (by omega) ?_)
      rw [show 32 * i + 32 = 32 * (i + 1) by omega]
      refine ih (i + 1) (by omega) (fun t ht => ?_) hex
      by_cases e : t < i
      · exact hz t e
      · have : t = i := by omega
        rw [this]; exact h
    · repeat (first | refine Ev.s ?_ | refine Ev.newC fun _ _ _ => ?_ | refine Ev.boxC fun _ _ _ => ?_ | refine Ev.stC fun _ _ => ?_ | refine Ev.sc (by omega) ?_ | refine Ev.scg (by omega) ?_)
      exact Ev.ret ⟨i, rfl, by omega, hz, h⟩
theorem norm_loop1 {B H : AH} {neg ev rs m : Value} {n : Nat} [hx : RdN B m (limbs n)] (hL : Le B H) (hl : (limbs n).length < 34359738368) :
    ∀ (c j : Nat), j + c = nbits n → (∀ t, t < j → n.testBit t = false) → (∃ t, t < nbits n ∧ n.testBit t = true) → nbits n < 4611686018427387904 →
    Ev (fun k l => f78_L1 k neg m ev rs (i64 j) l H) (fun o => o = (.exit 2, f78_X_L1 neg m ev rs (i64 (ctz n)), H)) := by
  intro c
  have hS := St.start hL
  induction c with
  | zero =>
    intro j hj hz ⟨t, ht, hne⟩ _
    rw [hz t (by omega)] at hne; cases hne
  | succ c ih =>
    intro j hj hz hex hnb
    refine Ev.succ (fun k l => f78_L1_succ k _ _ _ _ _ l H) ?_
    refine Ev.callU (Bit_spec (i := j) (by omega) (by omega) hx hL) ?_
    rintro _ rfl
    rw [val_limbs]
    cases hb : n.testBit j with
    | true =>
      repeat (first | refine Ev.s ?_ | refine Ev.newC fun _ _ _ => ?_ | refine Ev.boxC fun _ _ _ => ?_ | refine Ev.stC fun _ _ => ?_ | refine Ev.sc (by omega) ?_ | refine Ev.scg (by omega) ?_)
      rw [ctz_of hz hb]
      exact Ev.ret rfl
    | false =>
      repeat (first | refine Ev.s ?_ | refine Ev.newC fun _ _ _ => ?_ | refine Ev.boxC fun _ _ _ => ?_ | refine Ev.stC fun _ _ => ?_ | refine Ev.sc (by omega) ?_ | refine Ev.scg (by omega) ?_)
      refine ih (j + 1) (by omega) (fun t ht => ?_) hex hnb
      by_cases e : t < j
      · exact hz t e
      · have : t = j := by omega
        rw [this]; exact hb
theorem norm_spec {B H : AH} {xs : List Nat} {m : Value} {neg : Bool} {e : Int} (hl : xs.length < 34359738368) (he : -4611686018427387904 ≤ e ∧ e < 4611686018427387904) (ha : RdN B m xs) (hL : Le B H) :
    Ev (fun k _ => rn k 78 [.bool neg, m, .int .i64 e] H) (An B H fun B' v => DyV B' v (canon (sg neg (val xs)) e)) := by
  refine Ev.fn (fun k => f78_eq k _ _ _ H) ?_
  have hS := St.start hL
  have h32 := nbits_val ha.sm
  repeat (first | refine Ev.s ?_ | refine Ev.newC fun _ _ _ => ?_ | refine Ev.boxC fun _ _ _ => ?_ | refine Ev.stC fun _ _ => ?_ | refine Ev.sc (by omega) ?_ | refine Ev.scg (by omega) ?_)
  have hl1 := limbs_length_le (val_lt ha.sm)
  refine Ev.callC (Trim_spec (by omega) ha) fun w B1 H1 hm1 hS1 h1 => ?_
  generalize val xs = n at *
  repeat (first | refine Ev.s ?_ | refine Ev.newC fun _ _ _ => ?_ | refine Ev.boxC fun _ _ _ => ?_ | refine Ev.stC fun _ _ => ?_ | refine Ev.sc (by omega) ?_ | refine Ev.scg (by omega) ?_)
  by_cases h0 : n = 0
  · subst h0
    rw [decide_eq_true (by rw [limbs_zero]; rfl)]
    repeat (first | refine Ev.s ?_ | refine Ev.newC fun _ _ _ => ?_ | refine Ev.boxC fun _ _ _ => ?_ | refine Ev.stC fun _ _ => ?_ | refine Ev.sc (by omega) ?_ | refine Ev.scg (by omega) ?_)
    refine Ev.doneC ?_
    have : canon (sg neg 0) e = zeroDy := by unfold canon; rw [if_pos (by cases neg <;> rfl)]
    rw [this]
    exact zeroDyV
  have hne : (limbs n).length ≠ 0 := fun h => h0 (limbs_eq_nil.mp (List.length_eq_zero_iff.mp h))
  rw [decide_eq_false hne]
  repeat (first | refine Ev.s ?_ | refine Ev.newC fun _ _ _ => ?_ | refine Ev.boxC fun _ _ _ => ?_ | refine Ev.stC fun _ _ => ?_ | refine Ev.sc (by omega) ?_ | refine Ev.scg (by omega) ?_)
  have hex : ∃ t, t < (limbs n).length ∧ (limbs n).getD t 0 ≠ 0 := by
    refine ⟨(limbs n).length - 1, by omega, limbs_getLast (n := n) _ ?_⟩
    rw [List.getLast?_eq_getElem?, List.getD_eq_getElem?_getD, List.getElem?_eq_getElem (by omega)]; rfl
  refine Ev.bind (Ev.loop (norm_loop0 (St.lel hS1) (by omega) (limbs n).length 0 (by omega) (fun t h => absurd h (by omega)) hex)) ?_
  rintro _ ⟨i, rfl, hi, hz, hnz⟩
  refine Ev.eq (fun k _ => f78_A0_x0 k _ _ _ _ _ _) ?_
  have hz' : ∀ t, t < 32 * i → n.testBit t = false := by
    intro t ht
    have := testBit_val (small_limbs n) t
    rw [val_limbs, hz (t / 32) (by omega), Nat.zero_testBit] at this
    exact this
  have hc := ctz_le_nbits h0
  have hb : n.testBit (ctz n) = true := by
    have h1 := (ctz_spec h0).2
    rw [Nat.testBit_eq_decide_div_mod_eq, h1]; rfl
  have hi2 : 32 * i ≤ nbits n := by
    refine Nat.le_of_not_lt fun hlt => ?_
    rw [hz' (ctz n) (by omega)] at hb; cases hb
  refine Ev.bind (Ev.loop (norm_loop1 (St.lel hS1) (by omega) (nbits n - 32 * i) (32 * i) (by omega) hz' ⟨ctz n, hc, hb⟩ (by omega))) ?_
  rintro _ rfl
  refine Ev.eq (fun k _ => f78_A1_x2 k _ _ _ _ _ _) ?_
  refine Ev.callC (Shr_spec h1 (by omega) (by omega)) fun v2 B2 H2 hm2 hS2 h2 => ?_
  rw [val_limbs] at h2
  have hle : (limbs (n / 2 ^ ctz n)).length ≤ (limbs n).length := limbs_length_mono (Nat.div_le_self _ _)
  refine Ev.callC (Make_spec (by omega) h2) fun v3 B3 H3 hm3 hS3 h3 => ?_
  rw [val_limbs] at h3
  obtain ⟨m3, rfl, hr3⟩ := h3
  rw [sg_abs] at hr3
  repeat (first | refine Ev.s ?_ | refine Ev.newC fun _ _ _ => ?_ | refine Ev.boxC fun _ _ _ => ?_ | refine Ev.stC fun _ _ => ?_ | refine Ev.sc (by omega) ?_ | refine Ev.scg (by omega) ?_)
  refine Ev.doneC ?_
  have hsg : ¬ sg neg n = 0 := by unfold sg; cases neg <;> simp <;> omega
  have hq : n / 2 ^ ctz n ≠ 0 := by have := (ctz_spec h0).2; generalize n / 2 ^ ctz n = q at this; omega
  have : canon (sg neg n) e = ⟨decide (sg neg (n / 2 ^ ctz n) < 0), limbs (n / 2 ^ ctz n), e + ctz n⟩ := by
    unfold canon; rw [if_neg hsg, sg_abs, ← sg_neg, ← sg_neg, decide_eq_true h0, decide_eq_true hq]
  rw [this]
  exact ⟨m3, rfl, hr3⟩
theorem up_loop {H0 B0 : AH} {L : List (Nat × Blk)} : ∀ (c : Nat) (n : Int) (xs : List Nat) (m : Value) (B H : AH), n ≤ 100000 * (c : Int) + 100000 → RdN B m xs → xs.length + 3126 * c < 68719476736 → St H0 B0 B L H → -9223372036854775808 ≤ n → n < 1099511627776 →
    Ev (fun k l => f67_L0 k m (.int .i64 n) l H) (fun o => ∃ B' H' m' ys n', o = (.exit 0, f67_X_L0 m' (.int .i64 n'), H') ∧ n' ≤ 100000 ∧ -9223372036854775808 ≤ n' ∧ val ys * 2 ^ n'.toNat = val xs * 2 ^ n.toNat ∧ ys.length < 68719476736 ∧ RdN B' m' ys ∧ Mo B B' ∧ St H0 B0 B' L H') := by
  intro c
  induction c with
  | zero =>
    intro n xs m B H hn hr hl hS hlo hhi
    refine Ev.succ (fun k l => f67_L0_succ k _ _ l H) ?_
    repeat (first | refine Ev.s ?_ | refine Ev.newC fun _ _ _ => ?_ | refine Ev.boxC fun _ _ _ => ?_ | refine Ev.stC fun _ _ => ?_ | refine Ev.sc (by omega) ?_ | refine Ev.scg (by omega) ?_)
    rw [decide_eq_false (by omega)]
    repeat (first | refine Ev.s ?_ | refine Ev.newC fun _ _ _ => ?_ | refine Ev.boxC fun _ _ _ => ?_ | refine Ev.stC fun _ _ => ?_ | refine Ev.sc (by omega) ?_ | refine Ev.scg (by omega) ?_)
    exact Ev.ret ⟨B, H, m, xs, n, rfl, by omega, hlo, rfl, by omega, hr, Mo.refl B, hS⟩
  | succ c ih =>
    intro n xs m B H hn hr hl hS hlo hhi
    refine Ev.succ (fun k l => f67_L0_succ k _ _ l H) ?_
    repeat (first | refine Ev.s ?_ | refine Ev.newC fun _ _ _ => ?_ | refine Ev.boxC fun _ _ _ => ?_ | refine Ev.stC fun _ _ => ?_ | refine Ev.sc (by omega) ?_ | refine Ev.scg (by omega) ?_)
    by_cases hg : 100000 < n
    · rw [decide_eq_true hg]
      obtain ⟨K, hK⟩ : ∃ K : Nat, K = 100000 := ⟨_, rfl⟩
      rw [show (Value.int .i64 100000) = i64 K by rw [hK]; rfl]
      refine Ev.s ?_
      refine Ev.callC (Shl_spec (n := K) hr (by omega) (by omega)) fun v B1 H1 hm1 hS1 h1 => ?_
      obtain ⟨w, rfl, hw⟩ := h1
      repeat (first | refine Ev.s ?_ | refine Ev.newC fun _ _ _ => ?_ | refine Ev.boxC fun _ _ _ => ?_ | refine Ev.stC fun _ _ => ?_ | refine Ev.sc (by omega) ?_ | refine Ev.scg (by omega) ?_)
      have h2 := limbs_shl_len (x := val xs) (k := K)
      have h3 := limbs_length_le (val_lt hr.sm)
      have e : n.toNat = (n - K).toNat + K := by omega
      have h4 := ih (n - K) _ w B1 H1 (by omega) hw (by omega) hS1 (by omega) (by omega)
      refine h4.mono fun o ho => ?_
      obtain ⟨B', H', m', ys, n', q1, q2, q3, q4, q5, q6, q7, q8⟩ := ho
      refine ⟨B', H', m', ys, n', q1, q2, q3, ?_, q5, q6, hm1.trans q7, q8⟩
      rw [q4, val_limbs, e, Nat.pow_add, Nat.mul_assoc, Nat.mul_comm (2 ^ K)]
    · rw [decide_eq_false hg]
      repeat (first | refine Ev.s ?_ | refine Ev.newC fun _ _ _ => ?_ | refine Ev.boxC fun _ _ _ => ?_ | refine Ev.stC fun _ _ => ?_ | refine Ev.sc (by omega) ?_ | refine Ev.scg (by omega) ?_)
      exact Ev.ret ⟨B, H, m, xs, n, rfl, by omega, hlo, rfl, by omega, hr, Mo.refl B, hS⟩
theorem up_spec {B H : AH} {xs : List Nat} {m : Value} {n : Int} (hl : xs.length < 34359738368) (hn : -9223372036854775808 ≤ n ∧ n < 1099511627) (ha : RdN B m xs) (hL : Le B H) :
    Ev (fun k _ => rn k 67 [m, .int .i64 n] H) (An B H fun B' v => RdN B' v (limbs (val xs * 2 ^ n.toNat))) := by
  refine Ev.fn (fun k => f67_eq k _ _ H) ?_
  have hS := St.start hL
  refine Ev.bind (Ev.loop (up_loop 11000 n xs m B H (by omega) ha (by omega) hS hn.1 (by omega))) ?_
  rintro _ ⟨B1, H1, m1, ys, n1, rfl, q2, q3, q4, q5, q6, q7, q8⟩
  refine Ev.eq (fun k _ => f67_A0_x0 k _ _ _) ?_
  have e : PrimEq (fold1 maxV [.int .i64 n1, .int .i64 0]) (.int .i64 ((n1.toNat : Nat) : Int)) := ⟨by
    show Option.bind (maxV _ _) _ = _
    have : maxV (.int .i64 n1) (.int .i64 0) = some (.int .i64 ((n1.toNat : Nat) : Int)) := by
      show some _ = _
      congr 2; split <;> omega
    rw [this, Option.bind_some]; rfl⟩
  repeat (first | refine Ev.s ?_ | refine Ev.newC fun _ _ _ => ?_ | refine Ev.boxC fun _ _ _ => ?_ | refine Ev.stC fun _ _ => ?_ | refine Ev.sc (by omega) ?_ | refine Ev.scg (by omega) ?_)
  refine Ev.callC (Shl_spec q6 (by omega) (by omega)) fun v B2 H2 hm2 hS2 h2 => ?_
  obtain ⟨w, rfl, hw⟩ := h2
  repeat (first | refine Ev.s ?_ | refine Ev.newC fun _ _ _ => ?_ | refine Ev.boxC fun _ _ _ => ?_ | refine Ev.stC fun _ _ => ?_ | refine Ev.sc (by omega) ?_ | refine Ev.scg (by omega) ?_)
  rw [q4] at hw
  exact Ev.doneC hw
end Go.AM.Y
set_option linter.unusedVariables false
set_option linter.unusedSimpArgs false
set_option maxRecDepth 100000
namespace Go.AM.Y
open Go Go.AM Go.Proofs
attribute [local irreducible] run bin un ld st box newV mkS fldA fld ixA ix slc slc3 build buildS cv cvS ap cpy lenV gOp pickV b2 aIf aChk evalK resume iterD Option.bind

theorem From_dspec {B H : AH} {n : Int} (hn : -9223372036854775808 ≤ n ∧ n < 9223372036854775808) (hL : Le B H) :
    Ev (fun k _ => rn k 41 [.int .i64 n] H) (An B H fun B' v => DyV B' v (canon n 0)) := by
  refine Ev.fn (fun k => f41_eq k _ H) ?_
  have hS := St.start hL
  repeat (first | refine Ev.s ?_ | refine Ev.newC fun _ _ _ => ?_ | refine Ev.boxC fun _ _ _ => ?_ | refine Ev.stC fun _ _ => ?_ | refine Ev.sc (by omega) ?_ | refine Ev.scg (by omega) ?_)
  refine Ev.callC (zFrom_spec hn) fun v1 B1 H1 hm1 hS1 h1 => ?_
  obtain ⟨m1, rfl, hr1⟩ := h1
  repeat (first | refine Ev.s ?_ | refine Ev.newC fun _ _ _ => ?_ | refine Ev.boxC fun _ _ _ => ?_ | refine Ev.stC fun _ _ => ?_ | refine Ev.sc (by omega) ?_ | refine Ev.scg (by omega) ?_)
  have hl : (limbs n.natAbs).length ≤ 2 := limbs_length_le (by omega)
  refine Ev.callC (norm_spec (by omega) (by decide) hr1) fun v2 B2 H2 hm2 hS2 h2 => ?_
  rw [val_limbs, sg_int] at h2
  obtain ⟨m2, rfl, hr2⟩ := h2
  repeat (first | refine Ev.s ?_ | refine Ev.newC fun _ _ _ => ?_ | refine Ev.boxC fun _ _ _ => ?_ | refine Ev.stC fun _ _ => ?_ | refine Ev.sc (by omega) ?_ | refine Ev.scg (by omega) ?_)
  exact Ev.doneC ⟨m2, rfl, hr2⟩
end Go.AM.Y
set_option linter.unusedVariables false
set_option linter.unusedSimpArgs false
set_option maxRecDepth 100000
namespace Go.AM.Y
open Go Go.AM Go.Proofs
attribute [local irreducible] run bin un ld st box newV mkS fldA fld ixA ix slc slc3 build buildS cv cvS ap cpy lenV gOp pickV b2 aIf aChk evalK resume iterD Option.bind

theorem DyV.small {B : AH} {v : Value} {d : Dy} (h : DyV B v d) : small d.mag := h.elim fun m hh => hh.2.sm
end Go.AM.Y
set_option linter.unusedVariables false
set_option linter.unusedSimpArgs false
set_option maxRecDepth 100000
namespace Go.AM.Y
open Go Go.AM Go.Proofs
attribute [local irreducible] run bin un ld st box newV mkS fldA fld ixA ix slc slc3 build buildS cv cvS ap cpy lenV gOp pickV b2 aIf aChk evalK resume iterD Option.bind

theorem St.ne01 {H0 B0 B H : AH} {a b : Nat} {K K' : Blk} {L : List (Nat × Blk)} (h : St H0 B0 B ((a, K) :: (b, K') :: L) H) : a ≠ b := by
  have := h.nd
  simp only [List.map_cons, List.nodup_cons, List.mem_cons] at this
  exact fun e => this.1 (.inl e)
end Go.AM.Y
set_option linter.unusedVariables false
set_option linter.unusedSimpArgs false
set_option maxRecDepth 100000
namespace Go.AM.Y
open Go Go.AM Go.Proofs
attribute [local irreducible] run bin un ld st box newV mkS fldA fld ixA ix slc slc3 build buildS cv cvS ap cpy lenV gOp pickV b2 aIf aChk evalK resume iterD Option.bind

theorem cut_loop {B H : AH} {wv neg ev aw m : Value} {x N : Nat} [hx : RdN B m (limbs x)] (hL : Le B H) (hl : (limbs x).length < 34359738368) (hN : N < 4611686018427387904) (s0 : Bool) :
    ∀ (c j : Nat) (s : Bool), j + c = N → s = (s0 || decide (x % 2 ^ j ≠ 0)) →
    Ev (fun k l => f57_L0 k wv neg m ev (.bool s) aw (i64 N) (i64 j) l H) (fun o => o = (.exit 0, f57_X_L0 wv neg m ev (.bool (s0 || decide (x % 2 ^ N ≠ 0))) aw (i64 N), H)) := by
  intro c
  have hS := St.start hL
  induction c with
  | zero =>
    intro j s hj hs
    refine Ev.succ (fun k l => f57_L0_succ k _ _ _ _ _ _ _ _ l H) ?_
    repeat (first | refine Ev.s ?_ | refine Ev.newC fun _ _ _ => ?_ | refine Ev.boxC fun _ _ _ => ?_ | refine Ev.stC fun _ _ => ?_ | refine Ev.sc (by omega) ?_ | refine Ev.scg (by omega) ?_)
    rw [decide_eq_false (by omega)]
    repeat (first | refine Ev.s ?_ | refine Ev.newC fun _ _ _ => ?_ | refine Ev.boxC fun _ _ _ => ?_ | refine Ev.stC fun _ _ => ?_ | refine Ev.sc (by omega) ?_ | refine Ev.scg (by omega) ?_)
    refine Ev.ret ?_
    rw [hs, show j = N by omega]
  | succ c ih =>
    intro j s hj hs
    refine Ev.succ (fun k l => f57_L0_succ k _ _ _ _ _ _ _ _ l H) ?_
    repeat (first | refine Ev.s ?_ | refine Ev.newC fun _ _ _ => ?_ | refine Ev.boxC fun _ _ _ => ?_ | refine Ev.stC fun _ _ => ?_ | refine Ev.sc (by omega) ?_ | refine Ev.scg (by omega) ?_)
    rw [decide_eq_true (by omega)]
    cases s with
    | true =>
      repeat (first | refine Ev.s ?_ | refine Ev.newC fun _ _ _ => ?_ | refine Ev.boxC fun _ _ _ => ?_ | refine Ev.stC fun _ _ => ?_ | refine Ev.sc (by omega) ?_ | refine Ev.scg (by omega) ?_)
      refine Ev.ret ?_
      have : (s0 || decide (x % 2 ^ N ≠ 0)) = true := by
        cases s0 with
        | true => rfl
        | false =>
          have h1 : x % 2 ^ j ≠ 0 := by simpa using hs.symm
          have h2 := mod_more (k := N) h1 (by omega)
          simpa using h2
      rw [this]
    | false =>
      repeat (first | refine Ev.s ?_ | refine Ev.newC fun _ _ _ => ?_ | refine Ev.boxC fun _ _ _ => ?_ | refine Ev.stC fun _ _ => ?_ | refine Ev.sc (by omega) ?_ | refine Ev.scg (by omega) ?_)
      have h1 : s0 = false ∧ x % 2 ^ j = 0 := by
        cases s0 with
        | true => simp at hs
        | false => exact ⟨rfl, by simpa using hs⟩
      refine Ev.callU (Bit_spec (i := j) (by omega) (by omega) hx hL) ?_
      rintro _ rfl
      rw [val_limbs]
      repeat (first | refine Ev.s ?_ | refine Ev.newC fun _ _ _ => ?_ | refine Ev.boxC fun _ _ _ => ?_ | refine Ev.stC fun _ _ => ?_ | refine Ev.sc (by omega) ?_ | refine Ev.scg (by omega) ?_)
      refine ih (j + 1) _ (by omega) ?_
      rw [h1.1, Bool.false_or]
      have := mod_step h1.2
      cases hb : x.testBit j with
      | true => exact (decide_eq_true (this.mpr hb)).symm
      | false => exact (decide_eq_false (fun h => by rw [this.mp h] at hb; cases hb)).symm
theorem cut_spec {H0 B0 B H : AH} {L : List (Nat × Blk)} {p : Nat} {o0 o1 o2 o3 m : Value} {neg sticky away : Bool} {x P : Nat} {e : Int} (hS : St H0 B0 B ((p, ⟨[o0, o1, o2, o3], 73, .fix⟩) :: L) H) (hr : RdN B m (limbs x)) (hl : (limbs x).length < 17179869184) (hP : P < 1000000)
    (he : -2305843009213693952 ≤ e ∧ e < 2305843009213693952) :
    Ev (fun k _ => rn k 57 [ptr p 0, .bool neg, m, .int .i64 e, .bool sticky, i64 P, .bool away] H)
      (fun r => ∃ B' m', r.1 = .tuple #[] ∧ Mo B B' ∧ St H0 B0 B' ((p, ⟨[o0, .bool (cutD neg x e sticky P away).neg, m', .int .i64 (cutD neg x e sticky P away).e], 73, .fix⟩) :: L) r.2 ∧ RdN B' m' (cutD neg x e sticky P away).mag) := by
  have hnb := nbits_val (small_limbs x)
  rw [val_limbs] at hnb
  have j1 : ∀ (q : Nat) (mq : Value) (e' : Int) (B1 H1 : AH), St H0 B0 B1 ((p, ⟨[o0, o1, o2, o3], 73, .fix⟩) :: L) H1 → RdN B1 mq (limbs q) → (limbs q).length < 34359738368 → (-4611686018427387904 ≤ e' ∧ e' < 4611686018427387904) → Mo B B1 →
      canon (sg neg q) e' = cutD neg x e sticky P away →
      Ev (fun k _ => f57_J1 k (ptr p 0) (.bool neg) mq (.int .i64 e') H1) (fun r => ∃ B' m', r.1 = .tuple #[] ∧ Mo B B' ∧ St H0 B0 B' ((p, ⟨[o0, .bool (cutD neg x e sticky P away).neg, m', .int .i64 (cutD neg x e sticky P away).e], 73, .fix⟩) :: L) r.2 ∧ RdN B' m' (cutD neg x e sticky P away).mag) := by
    intro q mq e' B1 H1 hS1 hr1 hl1 he1 hm1 hc
    refine Ev.eq (fun k _ => f57_J1_eq k _ _ _ _ _) ?_
    refine Ev.callC (norm_spec hl1 he1 hr1) fun v3 B3 H3 hm3 hS3 h3 => ?_
    rw [val_limbs, hc] at h3
    obtain ⟨m3, rfl, hr3⟩ := h3
    generalize cutD neg x e sticky P away = d at *
    refine Ev.s ?_
    refine Ev.s ?_
    refine Ev.stC fun H5 hS5 => ?_
    exact Ev.ret ⟨B3, m3, rfl, hm1.trans hm3, hS5, hr3⟩
  have j0 : ∀ (q : Nat) (mq : Value) (e' : Int) (st : Bool) (B1 H1 : AH), St H0 B0 B1 ((p, ⟨[o0, o1, o2, o3], 73, .fix⟩) :: L) H1 → RdN B1 mq (limbs q) → (limbs q).length < 17179869184 → (-4611686018427387904 ≤ e' ∧ e' < 4611686018427387904) → Mo B B1 →
      canon (sg neg (if (st && away) = true then q + 1 else q)) e' = cutD neg x e sticky P away →
      Ev (fun k _ => f57_J0 k (ptr p 0) (.bool neg) mq (.int .i64 e') (.bool st) (.bool away) H1) (fun r => ∃ B' m', r.1 = .tuple #[] ∧ Mo B B' ∧ St H0 B0 B' ((p, ⟨[o0, .bool (cutD neg x e sticky P away).neg, m', .int .i64 (cutD neg x e sticky P away).e], 73, .fix⟩) :: L) r.2 ∧ RdN B' m' (cutD neg x e sticky P away).mag) := by
    intro q mq e' st B1 H1 hS1 hr1 hl1 he1 hm1 hc
    refine Ev.eq (fun k _ => f57_J0_eq k _ _ _ _ _ _ _) ?_
    cases st with
    | false =>
      repeat (first | refine Ev.s ?_ | refine Ev.newC fun _ _ _ => ?_ | refine Ev.boxC fun _ _ _ => ?_ | refine Ev.stC fun _ _ => ?_ | refine Ev.sc (by omega) ?_ | refine Ev.scg (by omega) ?_)
      exact j1 q mq e' B1 H1 hS1 hr1 (by omega) he1 hm1 hc
    | true =>
      cases away with
      | false =>
        repeat (first | refine Ev.s ?_ | refine Ev.newC fun _ _ _ => ?_ | refine Ev.boxC fun _ _ _ => ?_ | refine Ev.stC fun _ _ => ?_ | refine Ev.sc (by omega) ?_ | refine Ev.scg (by omega) ?_)
        exact j1 q mq e' B1 H1 hS1 hr1 (by omega) he1 hm1 hc
      | true =>
        repeat (first | refine Ev.s ?_ | refine Ev.newC fun _ _ _ => ?_ | refine Ev.boxC fun _ _ _ => ?_ | refine Ev.stC fun _ _ => ?_ | refine Ev.sc (by omega) ?_ | refine Ev.scg (by omega) ?_)
        refine Ev.callC (From_spec (n := 1) (by decide)) fun v2 B2 H2 hm2 hS2 h2 => ?_
        have hl1' : (limbs 1).length ≤ 1 := limbs_length_le (by decide)
        refine Ev.callC (Add_spec (hr1.mono hm2) h2 (by omega) (by omega)) fun v3 B3 H3 hm3 hS3 h3 => ?_
        rw [val_limbs, val_limbs] at h3
        have hlen : (limbs (q + 1)).length ≤ (limbs q).length + 1 := by
          refine limbs_length_le ?_
          have := val_lt (small_limbs q)
          rw [val_limbs] at this
          rw [Nat.pow_succ]
          generalize 4294967296 ^ (limbs q).length = PP at *
          omega
        exact j1 (q + 1) v3 e' B3 H3 hS3 h3 (by omega) he1 ((hm1.trans hm2).trans hm3) hc
  refine Ev.fn (fun k => f57_eq k _ _ _ _ _ _ _ H) ?_
  refine Ev.callU (Bits_spec (by omega) hr (St.lel hS)) ?_
  rintro _ rfl
  rw [val_limbs]
  refine Ev.prim (bin_sub64 (by omega)) ?_
  refine Ev.s ?_
  by_cases hn : (0 : Int) < (nbits x : Int) - (P : Int)
  · rw [decide_eq_true hn, show (nbits x : Int) - (P : Int) = ((nbits x - P : Nat) : Int) by omega]
    repeat (first | refine Ev.s ?_ | refine Ev.newC fun _ _ _ => ?_ | refine Ev.boxC fun _ _ _ => ?_ | refine Ev.stC fun _ _ => ?_ | refine Ev.sc (by omega) ?_ | refine Ev.scg (by omega) ?_)
    refine Ev.bind (Ev.loop (cut_loop (N := nbits x - P) (St.lel hS) (by omega) (by omega) sticky (nbits x - P) 0 sticky (by omega) (by rw [Nat.pow_zero, Nat.mod_one]; simp))) ?_
    rintro _ rfl
    refine Ev.eq (fun k _ => f57_A0_x0 k _ _ _ _ _ _ _ _) ?_
    refine Ev.callC (Shr_spec hr (by omega) (by omega)) fun v2 B2 H2 hm2 hS2 h2 => ?_
    rw [val_limbs] at h2
    have hle : (limbs (x / 2 ^ (nbits x - P))).length ≤ (limbs x).length := limbs_length_mono (Nat.div_le_self _ _)
    repeat (first | refine Ev.s ?_ | refine Ev.newC fun _ _ _ => ?_ | refine Ev.boxC fun _ _ _ => ?_ | refine Ev.stC fun _ _ => ?_ | refine Ev.sc (by omega) ?_ | refine Ev.scg (by omega) ?_)
    exact j0 _ v2 _ _ B2 H2 hS2 h2 (by omega) (by omega) hm2 rfl
  · rw [decide_eq_false hn]
    repeat (first | refine Ev.s ?_ | refine Ev.newC fun _ _ _ => ?_ | refine Ev.boxC fun _ _ _ => ?_ | refine Ev.stC fun _ _ => ?_ | refine Ev.sc (by omega) ?_ | refine Ev.scg (by omega) ?_)
    refine j0 x m e sticky B H hS hr hl (by omega) (Mo.refl B) ?_
    unfold cutD
    have : nbits x - P = 0 := by omega
    rw [this, Nat.pow_zero, Nat.mod_one, Nat.div_one]
    simp
end Go.AM.Y
set_option linter.unusedVariables false
set_option linter.unusedSimpArgs false
set_option maxRecDepth 100000
namespace Go.AM.Y
open Go Go.AM Go.Proofs
attribute [local irreducible] run bin un ld st box newV mkS fldA fld ixA ix slc slc3 build buildS cv cvS ap cpy lenV gOp pickV b2 aIf aChk evalK resume iterD Option.bind

theorem Round_dspec {B H : AH} {x : Dy} {v : Value} {p : Int} {up : Bool} (hlx : x.mag.length < 8589934592) (hx : DyV B v x) (hL : Le B H) :
    Ev (fun k _ => rn k 18 [v, .int .i64 p, .bool up] H) (An B H fun B' v => ResV B' v (roundR x p up).1 (roundR x p up).2) := by
  refine Ev.fn (fun k => f18_eq k _ _ _ H) ?_
  obtain ⟨mx, rfl, hrx⟩ := hx
  have hS := St.start hL
  unfold roundR
  repeat (first | refine Ev.s ?_ | refine Ev.newC fun _ _ _ => ?_ | refine Ev.boxC fun _ _ _ => ?_ | refine Ev.stC fun _ _ => ?_ | refine Ev.sc (by omega) ?_ | refine Ev.scg (by omega) ?_)
  refine Ev.bsE (by decide) fun bs H2 hS2 => ?_
  cases hr : rightD x with
  | true =>
    have bx := right_bounds hr
    refine Ev.callS (right1_true (xs := x.mag) (by omega) hr) fun v3 B3 H3 hm3 hS3 e3 => ?_
    subst e3
    have hrx := hrx.mono hm3
    repeat (first | refine Ev.s ?_ | refine Ev.newC fun _ _ _ => ?_ | refine Ev.boxC fun _ _ _ => ?_ | refine Ev.stC fun _ _ => ?_ | refine Ev.sc (by omega) ?_ | refine Ev.scg (by omega) ?_)
    by_cases hp : 2 ≤ p ∧ p ≤ 400
    · rw [if_pos ⟨rfl, hp⟩]
      refine Ev.callP (prec_true hp) ?_
      repeat (first | refine Ev.s ?_ | refine Ev.newC fun _ _ _ => ?_ | refine Ev.boxC fun _ _ _ => ?_ | refine Ev.stC fun _ _ => ?_ | refine Ev.sc (by omega) ?_ | refine Ev.scg (by omega) ?_)
      have hS4 := hS3.drop1
      have hrx' : RdN B3 mx (limbs (val x.mag)) := by rw [← right_limbs hr hrx.sm]; exact hrx
      have hlen := limbs_length_le (val_lt hrx.sm)
      obtain ⟨P, rfl⟩ : ∃ P : Nat, p = (P : Int) := ⟨p.toNat, by omega⟩
      rw [Int.toNat_natCast]
      refine Ev.b2 (cut_spec (P := P) hS4 hrx' (by omega) (by omega) (by omega)) fun v5 H5 h5 => ?_
      obtain ⟨B5, m5, e5, hm5, hS5, hr5⟩ := h5
      simp only at e5 hS5
      subst e5
      refine Ev.eq (fun k _ => f18_J0_eq k _ _ _) ?_
      refine Ev.callS (told_spec hS5 (cutD_fit (by omega) (by omega)) hr5) fun v6 B6 H6 hm6 hS6 h6 => ?_
      obtain ⟨o, rfl, mo, rfl, hro⟩ := h6
      repeat (first | refine Ev.s ?_ | refine Ev.newC fun _ _ _ => ?_ | refine Ev.boxC fun _ _ _ => ?_ | refine Ev.stC fun _ _ => ?_ | refine Ev.sc (by omega) ?_ | refine Ev.scg (by omega) ?_)
      exact Ev.doneC ⟨_, rfl, mo, rfl, hro⟩
    · rw [if_neg (fun h => hp h.2)]
      refine Ev.callS (prec_false hp) fun v4 B4 H4 hm4 hS4 e4 => ?_
      subst e4
      repeat (first | refine Ev.s ?_ | refine Ev.newC fun _ _ _ => ?_ | refine Ev.boxC fun _ _ _ => ?_ | refine Ev.stC fun _ _ => ?_ | refine Ev.sc (by omega) ?_ | refine Ev.scg (by omega) ?_)
      refine Ev.eq (fun k _ => f18_J0_eq k _ _ _) ?_
      refine Ev.callS (told_spec (xs := []) hS4.drop1 zeroFit RdN.nil) fun v6 B6 H6 hm6 hS6 h6 => ?_
      rw [told_one] at h6
      obtain ⟨o, rfl, mo, rfl, hro⟩ := h6
      repeat (first | refine Ev.s ?_ | refine Ev.newC fun _ _ _ => ?_ | refine Ev.boxC fun _ _ _ => ?_ | refine Ev.stC fun _ _ => ?_ | refine Ev.sc (by omega) ?_ | refine Ev.scg (by omega) ?_)
      exact Ev.doneC ⟨_, rfl, mo, rfl, hro⟩
  | false =>
    refine Ev.callS (right1_false (xs := x.mag) (by omega) hr) fun v3 B3 H3 hm3 hS3 e3 => ?_
    subst e3
    rw [if_neg (fun h => by cases h.1)]
    repeat (first | refine Ev.s ?_ | refine Ev.newC fun _ _ _ => ?_ | refine Ev.boxC fun _ _ _ => ?_ | refine Ev.stC fun _ _ => ?_ | refine Ev.sc (by omega) ?_ | refine Ev.scg (by omega) ?_)
    refine Ev.eq (fun k _ => f18_J0_eq k _ _ _) ?_
    refine Ev.callS (told_spec (xs := []) hS3.drop1 zeroFit RdN.nil) fun v6 B6 H6 hm6 hS6 h6 => ?_
    rw [told_one] at h6
    obtain ⟨o, rfl, mo, rfl, hro⟩ := h6
    repeat (first | refine Ev.s ?_ | refine Ev.newC fun _ _ _ => ?_ | refine Ev.boxC fun _ _ _ => ?_ | refine Ev.stC fun _ _ => ?_ | refine Ev.sc (by omega) ?_ | refine Ev.scg (by omega) ?_)
    exact Ev.doneC ⟨_, rfl, mo, rfl, hro⟩
end Go.AM.Y
set_option linter.unusedVariables false
set_option linter.unusedSimpArgs false
set_option maxRecDepth 100000
namespace Go.AM.Y
open Go Go.AM Go.Proofs
attribute [local irreducible] run bin un ld st box newV mkS fldA fld ixA ix slc slc3 build buildS cv cvS ap cpy lenV gOp pickV b2 aIf aChk evalK resume iterD Option.bind

theorem Div_dspec {B H : AH} {x y : Dy} {v w : Value} {p : Int} {away : Bool} (hlx : x.mag.length < 33554432) (hly : y.mag.length < 33554432) (hx : DyV B v x) (hy : DyV B w y) (hL : Le B H) :
    Ev (fun k _ => rn k 22 [v, w, .int .i64 p, .bool away] H) (An B H fun B' v => ResV B' v (divR x y p away).1 (divR x y p away).2) := by
  refine Ev.fn (fun k => f22_eq k _ _ _ _ H) ?_
  obtain ⟨mx, rfl, hrx⟩ := hx
  obtain ⟨my, rfl, hry⟩ := hy
  have hS := St.start hL
  unfold divR
  repeat (first | refine Ev.s ?_ | refine Ev.newC fun _ _ _ => ?_ | refine Ev.boxC fun _ _ _ => ?_ | refine Ev.stC fun _ _ => ?_ | refine Ev.sc (by omega) ?_ | refine Ev.scg (by omega) ?_)
  refine Ev.bsE (by decide) fun bs H2 hS2 => ?_
  have hne := St.ne01 hS2
  cases hr : (rightD x && rightD y) with
  | true =>
    have hrr := hr
    rw [Bool.and_eq_true] at hrr
    have bx := right_bounds hrr.1
    have bY := right_bounds hrr.2
    refine Ev.callS (right2_true (xs := x.mag) (xs2 := y.mag) (by omega) (by omega) hrr.1 hrr.2) fun v3 B3 H3 hm3 hS3 e3 => ?_
    subst e3
    have hrx := hrx.mono hm3
    have hry := hry.mono hm3
    repeat (first | refine Ev.s ?_ | refine Ev.newC fun _ _ _ => ?_ | refine Ev.boxC fun _ _ _ => ?_ | refine Ev.stC fun _ _ => ?_ | refine Ev.sc (by omega) ?_ | refine Ev.scg (by omega) ?_)
    by_cases hp : 2 ≤ p ∧ p ≤ 400
    · rw [if_pos ⟨rfl, hp⟩]
      refine Ev.callP (prec_true hp) ?_
      repeat (first | refine Ev.s ?_ | refine Ev.newC fun _ _ _ => ?_ | refine Ev.boxC fun _ _ _ => ?_ | refine Ev.stC fun _ _ => ?_ | refine Ev.sc (by omega) ?_ | refine Ev.scg (by omega) ?_)
      refine Ev.callC (dzero_spec (d := y) ⟨my, rfl, hry⟩) fun v4 B4 H4 hm4 hS4 e4 => ?_
      subst e4
      have hrx := hrx.mono hm4
      have hry := hry.mono hm4
      by_cases hy0 : y.mag.length = 0
      · rw [if_pos hy0, decide_eq_true hy0]
        repeat (first | refine Ev.s ?_ | refine Ev.newC fun _ _ _ => ?_ | refine Ev.boxC fun _ _ _ => ?_ | refine Ev.stC fun _ _ => ?_ | refine Ev.sc (by omega) ?_ | refine Ev.scg (by omega) ?_)
        refine Ev.callS (must_false (by decide)) fun v5 B5 H5 hm5 hS5 e5 => ?_
        subst e5
        repeat (first | refine Ev.s ?_ | refine Ev.newC fun _ _ _ => ?_ | refine Ev.boxC fun _ _ _ => ?_ | refine Ev.stC fun _ _ => ?_ | refine Ev.sc (by omega) ?_ | refine Ev.scg (by omega) ?_)
        refine Ev.eq (fun k _ => f22_J0_eq k _ _ _) ?_
        refine Ev.callS (told_spec (xs := []) hS5.drop1 zeroFit RdN.nil) fun v6 B6 H6 hm6 hS6 h6 => ?_
        rw [told_three] at h6
        obtain ⟨o, rfl, mo, rfl, hro⟩ := h6
        repeat (first | refine Ev.s ?_ | refine Ev.newC fun _ _ _ => ?_ | refine Ev.boxC fun _ _ _ => ?_ | refine Ev.stC fun _ _ => ?_ | refine Ev.sc (by omega) ?_ | refine Ev.scg (by omega) ?_)
        exact Ev.doneC ⟨_, rfl, mo, rfl, hro⟩
      rw [if_neg hy0, decide_eq_false hy0]
      repeat (first | refine Ev.s ?_ | refine Ev.newC fun _ _ _ => ?_ | refine Ev.boxC fun _ _ _ => ?_ | refine Ev.stC fun _ _ => ?_ | refine Ev.sc (by omega) ?_ | refine Ev.scg (by omega) ?_)
      refine Ev.callP must_true ?_
      rw [decide_eq_true rfl]
      repeat (first | refine Ev.s ?_ | refine Ev.newC fun _ _ _ => ?_ | refine Ev.boxC fun _ _ _ => ?_ | refine Ev.stC fun _ _ => ?_ | refine Ev.sc (by omega) ?_ | refine Ev.scg (by omega) ?_)
      refine Ev.callC (dzero_spec (d := x) ⟨mx, rfl, hrx⟩) fun v5 B5 H5 hm5 hS5 e5 => ?_
      subst e5
      have hrx := hrx.mono hm5
      have hry := hry.mono hm5
      by_cases hx0 : x.mag.length = 0
      · rw [if_pos hx0, decide_eq_true hx0]
        repeat (first | refine Ev.s ?_ | refine Ev.newC fun _ _ _ => ?_ | refine Ev.boxC fun _ _ _ => ?_ | refine Ev.stC fun _ _ => ?_ | refine Ev.sc (by omega) ?_ | refine Ev.scg (by omega) ?_)
        refine Ev.eq (fun k _ => f22_J0_eq k _ _ _) ?_
        refine Ev.callS (told_spec (xs := []) hS5.drop1 zeroFit RdN.nil) fun v6 B6 H6 hm6 hS6 h6 => ?_
        rw [told_zero] at h6
        obtain ⟨o, rfl, mo, rfl, hro⟩ := h6
        repeat (first | refine Ev.s ?_ | refine Ev.newC fun _ _ _ => ?_ | refine Ev.boxC fun _ _ _ => ?_ | refine Ev.stC fun _ _ => ?_ | refine Ev.sc (by omega) ?_ | refine Ev.scg (by omega) ?_)
        exact Ev.doneC ⟨_, rfl, mo, rfl, hro⟩
      rw [if_neg hx0, decide_eq_false hx0]
      have hnx := nbits_val hrx.sm
      have hny := nbits_val hry.sm
      repeat (first | refine Ev.s ?_ | refine Ev.newC fun _ _ _ => ?_ | refine Ev.boxC fun _ _ _ => ?_ | refine Ev.stC fun _ _ => ?_ | refine Ev.sc (by omega) ?_ | refine Ev.scg (by omega) ?_)
      refine Ev.callU (Bits_spec (by omega) hry (St.lel hS5)) ?_
      rintro _ rfl
      repeat (first | refine Ev.s ?_ | refine Ev.newC fun _ _ _ => ?_ | refine Ev.boxC fun _ _ _ => ?_ | refine Ev.stC fun _ _ => ?_ | refine Ev.sc (by omega) ?_ | refine Ev.scg (by omega) ?_)
      refine Ev.callU (Bits_spec (by omega) hrx (St.lel hS5)) ?_
      rintro _ rfl
      repeat (first | refine Ev.s ?_ | refine Ev.newC fun _ _ _ => ?_ | refine Ev.boxC fun _ _ _ => ?_ | refine Ev.stC fun _ _ => ?_ | refine Ev.sc (by omega) ?_ | refine Ev.scg (by omega) ?_)
      obtain ⟨P, rfl⟩ : ∃ P : Nat, p = (P : Int) := ⟨p.toNat, by omega⟩
      rw [show (if (P : Int) + 2 + (nbits (val y.mag) : Int) - (nbits (val x.mag) : Int) > 0 then (P : Int) + 2 + (nbits (val y.mag) : Int) - (nbits (val x.mag) : Int) else 0) = ((divK x y P : Nat) : Int) by unfold divK; split <;> omega]
      have hK : divK x y P ≤ P + 2 + nbits (val y.mag) := Nat.sub_le _ _
      refine Ev.callC (up_spec (by omega) (by omega) hrx) fun v6 B6 H6 hm6 hS6 h6 => ?_
      rw [Int.toNat_natCast] at h6 ⊢
      have hry := hry.mono hm6
      repeat (first | refine Ev.s ?_ | refine Ev.newC fun _ _ _ => ?_ | refine Ev.boxC fun _ _ _ => ?_ | refine Ev.stC fun _ _ => ?_ | refine Ev.sc (by omega) ?_ | refine Ev.scg (by omega) ?_)
      have hlim := limbs_length_le (val_lt hrx.sm)
      have hsl := limbs_shl_len (x := val x.mag) (k := divK x y P)
      have hyne : val y.mag ≠ 0 := val_ne (right_limbs hrr.2 hry.sm) hy0
      refine Ev.callC (DivMod_spec h6 hry (by omega) (by omega) hyne) fun v7 B7 H7 hm7 hS7 h7 => ?_
      obtain ⟨q, r, rfl, hq, hrem⟩ := h7
      rw [val_limbs] at hq hrem
      repeat (first | refine Ev.s ?_ | refine Ev.newC fun _ _ _ => ?_ | refine Ev.boxC fun _ _ _ => ?_ | refine Ev.stC fun _ _ => ?_ | refine Ev.sc (by omega) ?_ | refine Ev.scg (by omega) ?_)
      have hS8 := hS7.drop1
      have hql := limbs_length_mono (Nat.div_le_self (val x.mag * 2 ^ divK x y P) (val y.mag))
      refine Ev.b2 (cut_spec (P := P) hS8 hq (by omega) (by omega) (by omega)) fun v9 H9 h9 => ?_
      have hsame : cutD (x.neg != y.neg) (val x.mag * 2 ^ divK x y P / val y.mag) (x.e - y.e - (divK x y P : Nat)) (decide (0 < (limbs (val x.mag * 2 ^ divK x y P % val y.mag)).length)) P (away != (x.neg != y.neg)) = divD x y P away := by
        unfold divD; congr 1; exact decide_eq_decide.mpr (by rw [Nat.pos_iff_ne_zero, ne_eq, List.length_eq_zero_iff, limbs_eq_nil])
      rw [hsame] at h9
      have hfit : Fit (divD x y P away) := cutD_fit (by omega) (by omega)
      obtain ⟨B9, m9, e9, hm9, hS9, hr9⟩ := h9
      simp only at e9 hS9
      subst e9
      refine Ev.eq (fun k _ => f22_J0_eq k _ _ _) ?_
      refine Ev.callS (told_spec hS9 hfit hr9) fun v6 B6 H6 hm6 hS6 h6 => ?_
      obtain ⟨o, rfl, mo, rfl, hro⟩ := h6
      repeat (first | refine Ev.s ?_ | refine Ev.newC fun _ _ _ => ?_ | refine Ev.boxC fun _ _ _ => ?_ | refine Ev.stC fun _ _ => ?_ | refine Ev.sc (by omega) ?_ | refine Ev.scg (by omega) ?_)
      exact Ev.doneC ⟨_, rfl, mo, rfl, hro⟩
    · rw [if_neg (fun h => hp h.2)]
      refine Ev.callS (prec_false hp) fun v4 B4 H4 hm4 hS4 e4 => ?_
      subst e4
      repeat (first | refine Ev.s ?_ | refine Ev.newC fun _ _ _ => ?_ | refine Ev.boxC fun _ _ _ => ?_ | refine Ev.stC fun _ _ => ?_ | refine Ev.sc (by omega) ?_ | refine Ev.scg (by omega) ?_)
      refine Ev.eq (fun k _ => f22_J0_eq k _ _ _) ?_
      refine Ev.callS (told_spec (xs := []) hS4.drop1 zeroFit RdN.nil) fun v6 B6 H6 hm6 hS6 h6 => ?_
      rw [told_one] at h6
      obtain ⟨o, rfl, mo, rfl, hro⟩ := h6
      repeat (first | refine Ev.s ?_ | refine Ev.newC fun _ _ _ => ?_ | refine Ev.boxC fun _ _ _ => ?_ | refine Ev.stC fun _ _ => ?_ | refine Ev.sc (by omega) ?_ | refine Ev.scg (by omega) ?_)
      exact Ev.doneC ⟨_, rfl, mo, rfl, hro⟩
  | false =>
    refine Ev.callS (right2_false (xs := x.mag) (xs2 := y.mag) (by omega) (by omega) hr hne) fun v3 B3 H3 hm3 hS3 e3 => ?_
    subst e3
    rw [if_neg (fun h => by cases h.1)]
    repeat (first | refine Ev.s ?_ | refine Ev.newC fun _ _ _ => ?_ | refine Ev.boxC fun _ _ _ => ?_ | refine Ev.stC fun _ _ => ?_ | refine Ev.sc (by omega) ?_ | refine Ev.scg (by omega) ?_)
    refine Ev.eq (fun k _ => f22_J0_eq k _ _ _) ?_
    refine Ev.callS (told_spec (xs := []) hS3.drop1 zeroFit RdN.nil) fun v6 B6 H6 hm6 hS6 h6 => ?_
    rw [told_one] at h6
    obtain ⟨o, rfl, mo, rfl, hro⟩ := h6
    repeat (first | refine Ev.s ?_ | refine Ev.newC fun _ _ _ => ?_ | refine Ev.boxC fun _ _ _ => ?_ | refine Ev.stC fun _ _ => ?_ | refine Ev.sc (by omega) ?_ | refine Ev.scg (by omega) ?_)
    exact Ev.doneC ⟨_, rfl, mo, rfl, hro⟩
end Go.AM.Y
set_option linter.unusedVariables false
set_option linter.unusedSimpArgs false
set_option maxRecDepth 100000
namespace Go.AM.Y
open Go Go.AM Go.Proofs
attribute [local irreducible] run bin un ld st box newV mkS fldA fld ixA ix slc slc3 build buildS cv cvS ap cpy lenV gOp pickV b2 aIf aChk evalK resume iterD Option.bind

theorem same_loop {H0 B0 B H : AH} {L : List (Nat × Blk)} {p q : Nat} {nx ny mx my : Value} {xs ys : List Nat} [hS : St H0 B0 B L H] [hp : InL p ⟨[nx, mx], 24, .fix⟩ L] [hq : InL q ⟨[ny, my], 24, .fix⟩ L] [hx : RdN B mx xs] [hy : RdN B my ys]
    (hl : xs.length = ys.length) (hlx : xs.length < 34359738368) : ∀ (c i : Nat), i + c = xs.length → (∀ t, t < i → xs.getD t 0 = ys.getD t 0) →
    Ev (fun k n => f103_L0 k (ptr p 0) (ptr q 0) (i64 i) n H) (fun o => (o = (.exit 0, f103_X_L0 unk, H) ∧ xs = ys) ∨ (o = (.ret, f103_X_L0 (.bool false), H) ∧ xs ≠ ys)) := by
  intro c
  induction c with
  | zero =>
    intro i hi hz
    refine Ev.succ (fun k n => f103_L0_succ k _ _ _ n H) ?_
    repeat (first | refine Ev.s ?_ | refine Ev.newC fun _ _ _ => ?_ | refine Ev.boxC fun _ _ _ => ?_ | refine Ev.stC fun _ _ => ?_ | refine Ev.sc (by omega) ?_ | refine Ev.scg (by omega) ?_)
    rw [decide_eq_false (by omega)]
    repeat (first | refine Ev.s ?_ | refine Ev.newC fun _ _ _ => ?_ | refine Ev.boxC fun _ _ _ => ?_ | refine Ev.stC fun _ _ => ?_ | refine Ev.sc (by omega) ?_ | refine Ev.scg (by omega) ?_)
    refine Ev.ret (.inl ⟨rfl, ?_⟩)
    apply List.ext_getElem? 
    intro t
    by_cases ht : t < xs.length
    · have := hz t (by omega)
      rw [List.getD_eq_getElem?_getD, List.getD_eq_getElem?_getD, List.getElem?_eq_getElem ht, List.getElem?_eq_getElem (by omega)] at this
      rw [List.getElem?_eq_getElem ht, List.getElem?_eq_getElem (by omega)]
      exact congrArg some this
    · rw [List.getElem?_eq_none (by omega), List.getElem?_eq_none (by omega)]
  | succ c ih =>
    intro i hi hz
    refine Ev.succ (fun k n => f103_L0_succ k _ _ _ n H) ?_
    repeat (first | refine Ev.s ?_ | refine Ev.newC fun _ _ _ => ?_ | refine Ev.boxC fun _ _ _ => ?_ | refine Ev.stC fun _ _ => ?_ | refine Ev.sc (by omega) ?_ | refine Ev.scg (by omega) ?_)
    rw [decide_eq_true (by omega)]
    repeat (first | refine Ev.s ?_ | refine Ev.newC fun _ _ _ => ?_ | refine Ev.boxC fun _ _ _ => ?_ | refine Ev.stC fun _ _ => ?_ | refine Ev.sc (by omega) ?_ | refine Ev.scg (by omega) ?_)
    refine Ev.ixC i rfl (by omega) fun a ha => ?_
    repeat (first | refine Ev.s ?_ | refine Ev.newC fun _ _ _ => ?_ | refine Ev.boxC fun _ _ _ => ?_ | refine Ev.stC fun _ _ => ?_ | refine Ev.sc (by omega) ?_ | refine Ev.scg (by omega) ?_)
    refine Ev.ixC i rfl (by omega) fun b hb => ?_
    repeat (first | refine Ev.s ?_ | refine Ev.newC fun _ _ _ => ?_ | refine Ev.boxC fun _ _ _ => ?_ | refine Ev.stC fun _ _ => ?_ | refine Ev.sc (by omega) ?_ | refine Ev.scg (by omega) ?_)
    refine Ev.ifp (fun h => ?_) fun h => ?_
    · repeat (first | refine Ev.s ?_ | refine Ev.newC fun _ _ _ => ?_ | refine Ev.boxC fun _ _ _ => ?_ | refine Ev.stC fun _ _ => ?_ | refine Ev.sc (by omega) ?_ | refine Ev.scg (by omega) ?_)
      exact Ev.ret (.inr ⟨rfl, fun e => h (by rw [e])⟩)
    · repeat (first | refine Ev.s ?_ | refine Ev.newC fun _ _ _ => ?_ | refine Ev.boxC fun _ _ _ => ?_ | refine Ev.stC fun _ _ => ?_ | refine Ev.sc (by omega) ?_ | refine Ev.scg (by omega) ?_)
      refine ih (i + 1) (by omega) fun t ht => ?_
      by_cases e : t < i
      · exact hz t e
      · rw [show t = i by omega]; exact Decidable.of_not_not h
theorem Same_ispec {B H : AH} {xs ys : List Nat} {mx my : Value} {nx ny : Bool} (hlx : xs.length < 34359738368) (hx : RdN B mx xs) (hy : RdN B my ys) (hL : Le B H) :
    Ev (fun k _ => rn k 103 [.agg #[.bool nx, mx], .agg #[.bool ny, my]] H) (An B H fun _ v => v = .bool (decide (nx = ny ∧ xs = ys))) := by
  refine Ev.fn (fun k => f103_eq k _ _ H) ?_
  have hS := St.start hL
  repeat (first | refine Ev.s ?_ | refine Ev.newC fun _ _ _ => ?_ | refine Ev.boxC fun _ _ _ => ?_ | refine Ev.stC fun _ _ => ?_ | refine Ev.sc (by omega) ?_ | refine Ev.scg (by omega) ?_)
  cases hb : (nx != ny) with
  | true =>
    have h3 : nx ≠ ny := by simpa using hb
    repeat (first | refine Ev.s ?_ | refine Ev.newC fun _ _ _ => ?_ | refine Ev.boxC fun _ _ _ => ?_ | refine Ev.stC fun _ _ => ?_ | refine Ev.sc (by omega) ?_ | refine Ev.scg (by omega) ?_)
    exact Ev.doneC (by simp [h3])
  | false =>
    have h3 : nx = ny := by simpa using hb
    repeat (first | refine Ev.s ?_ | refine Ev.newC fun _ _ _ => ?_ | refine Ev.boxC fun _ _ _ => ?_ | refine Ev.stC fun _ _ => ?_ | refine Ev.sc (by omega) ?_ | refine Ev.scg (by omega) ?_)
    by_cases h : xs.length ≠ ys.length
    · rw [decide_eq_true h]
      repeat (first | refine Ev.s ?_ | refine Ev.newC fun _ _ _ => ?_ | refine Ev.boxC fun _ _ _ => ?_ | refine Ev.stC fun _ _ => ?_ | refine Ev.sc (by omega) ?_ | refine Ev.scg (by omega) ?_)
      exact Ev.doneC (by rw [decide_eq_false]; intro e; exact h (by rw [e.2]))
    · rw [decide_eq_false h]
      repeat (first | refine Ev.s ?_ | refine Ev.newC fun _ _ _ => ?_ | refine Ev.boxC fun _ _ _ => ?_ | refine Ev.stC fun _ _ => ?_ | refine Ev.sc (by omega) ?_ | refine Ev.scg (by omega) ?_)
      refine Ev.bind (Ev.loop (same_loop (xs := xs) (ys := ys) (Decidable.of_not_not h) hlx xs.length 0 (by omega) (fun t ht => absurd ht (by omega)))) ?_
      rintro _ (⟨rfl, e⟩ | ⟨rfl, e⟩)
      · refine Ev.eq (fun k _ => f103_A0_x0 k _ _) ?_
        exact Ev.doneC (by rw [decide_eq_true ⟨h3, e⟩])
      · refine Ev.eq (fun k _ => f103_A0_ret k _ _) ?_
        exact Ev.doneC (by rw [decide_eq_false fun h => e h.2])
theorem Same_dspec {B H : AH} {x y : Dy} {v w : Value} (hlx : x.mag.length < 34359738368) (hx : DyV B v x) (hy : DyV B w y) (hL : Le B H) :
    Ev (fun k _ => rn k 59 [v, w] H) (An B H fun _ v => v = .bool (decide (sameD x y))) := by
  refine Ev.fn (fun k => f59_eq k _ _ H) ?_
  obtain ⟨mx, rfl, hrx⟩ := hx
  obtain ⟨my, rfl, hry⟩ := hy
  have hS := St.start hL
  repeat (first | refine Ev.s ?_ | refine Ev.newC fun _ _ _ => ?_ | refine Ev.boxC fun _ _ _ => ?_ | refine Ev.stC fun _ _ => ?_ | refine Ev.sc (by omega) ?_ | refine Ev.scg (by omega) ?_)
  by_cases h : x.e = y.e
  · rw [decide_eq_true h]
    repeat (first | refine Ev.s ?_ | refine Ev.newC fun _ _ _ => ?_ | refine Ev.boxC fun _ _ _ => ?_ | refine Ev.stC fun _ _ => ?_ | refine Ev.sc (by omega) ?_ | refine Ev.scg (by omega) ?_)
    refine Ev.callC (Same_ispec hlx hrx hry) fun v2 B2 H2 hm2 hS2 h2 => ?_
    subst h2
    repeat (first | refine Ev.s ?_ | refine Ev.newC fun _ _ _ => ?_ | refine Ev.boxC fun _ _ _ => ?_ | refine Ev.stC fun _ _ => ?_ | refine Ev.sc (by omega) ?_ | refine Ev.scg (by omega) ?_)
    exact Ev.doneC (by unfold sameD; simp [h])
  · rw [decide_eq_false h]
    repeat (first | refine Ev.s ?_ | refine Ev.newC fun _ _ _ => ?_ | refine Ev.boxC fun _ _ _ => ?_ | refine Ev.stC fun _ _ => ?_ | refine Ev.sc (by omega) ?_ | refine Ev.scg (by omega) ?_)
    exact Ev.doneC (by rw [decide_eq_false fun e => h e.1])
theorem same_spec {B H : AH} {x y : Dy} {v w : Value} (hlx : x.mag.length < 34359738368) (hx : DyV B v x) (hy : DyV B w y) (hL : Le B H) :
    Ev (fun k _ => rn k 19 [v, w] H) (An B H fun _ v => v = .bool (decide (sameD x y))) := by
  refine Ev.fn (fun k => f19_eq k _ _ H) ?_
  have hx' := hx
  have hy' := hy
  obtain ⟨mx, rfl, hrx⟩ := hx
  obtain ⟨my, rfl, hry⟩ := hy
  have hS := St.start hL
  repeat (first | refine Ev.s ?_ | refine Ev.newC fun _ _ _ => ?_ | refine Ev.boxC fun _ _ _ => ?_ | refine Ev.stC fun _ _ => ?_ | refine Ev.sc (by omega) ?_ | refine Ev.scg (by omega) ?_)
  refine Ev.callC (Same_dspec hlx hx' hy') fun v2 B2 H2 hm2 hS2 h2 => ?_
  subst h2
  exact Ev.doneC rfl
end Go.AM.Y
set_option linter.unusedVariables false
set_option linter.unusedSimpArgs false
set_option maxRecDepth 100000
namespace Go.AM.Y
open Go Go.AM Go.Proofs
attribute [local irreducible] run bin un ld st box newV mkS fldA fld ixA ix slc slc3 build buildS cv cvS ap cpy lenV gOp pickV b2 aIf aChk evalK resume iterD Option.bind

theorem ex1 : roundR (canon 13 0) 3 false = (canon 12 0, 0) := by kernel_rfl
theorem ex2 : roundR (canon 13 0) 3 true = (canon 14 0, 0) := by kernel_rfl
theorem ex3 : divR (canon 1 0) (canon 3 0) 4 false = (⟨false, [5], -4⟩, 0) := by kernel_rfl
theorem ex4 : rightD ⟨false, [], 1⟩ = false := by kernel_rfl
theorem ex_len13 : (canon 13 0).mag.length = 1 := by kernel_rfl
theorem ex_len12 : (canon 12 0).mag.length = 1 := by kernel_rfl
theorem ex_len14 : (canon 14 0).mag.length = 1 := by kernel_rfl
theorem ex_len1 : (canon 1 0).mag.length = 1 := by kernel_rfl
theorem ex_len3 : (canon 3 0).mag.length = 1 := by kernel_rfl
theorem examples_spec {B H : AH} (hL : Le B H) : Ev (fun k _ => rn k 15 [] H) (An B H fun _ v => v = .bool true) := by
  refine Ev.fn (fun k => f15_eq k H) ?_
  have hS := St.start hL
  refine Ev.callC (From_dspec (n := 13) (by decide)) fun v1 B1 H1 hm1 hS1 h1 => ?_
  refine Ev.callC (Round_dspec (by rw [ex_len13]; decide) h1) fun v2 B2 H2 hm2 hS2 h2 => ?_
  rw [ex1] at h2
  obtain ⟨a, rfl, ha⟩ : ResV B2 v2 (canon 12 0) 0 := h2
  have ha' := ha
  obtain ⟨ma, rfl, hra⟩ := ha
  repeat (first | refine Ev.s ?_ | refine Ev.newC fun _ _ _ => ?_ | refine Ev.boxC fun _ _ _ => ?_ | refine Ev.stC fun _ _ => ?_ | refine Ev.sc (by omega) ?_ | refine Ev.scg (by omega) ?_)
  refine Ev.callC (From_dspec (n := 13) (by decide)) fun v3 B3 H3 hm3 hS3 h3 => ?_
  refine Ev.callC (Round_dspec (by rw [ex_len13]; decide) h3) fun v4 B4 H4 hm4 hS4 h4 => ?_
  rw [ex2] at h4
  obtain ⟨b, rfl, hb⟩ : ResV B4 v4 (canon 14 0) 0 := h4
  have hb' := hb
  obtain ⟨mb, rfl, hrb⟩ := hb
  repeat (first | refine Ev.s ?_ | refine Ev.newC fun _ _ _ => ?_ | refine Ev.boxC fun _ _ _ => ?_ | refine Ev.stC fun _ _ => ?_ | refine Ev.sc (by omega) ?_ | refine Ev.scg (by omega) ?_)
  refine Ev.callC (From_dspec (n := 1) (by decide)) fun v5 B5 H5 hm5 hS5 h5 => ?_
  refine Ev.callC (From_dspec (n := 3) (by decide)) fun v6 B6 H6 hm6 hS6 h6 => ?_
  refine Ev.callC (Div_dspec (by rw [ex_len1]; decide) (by rw [ex_len3]; decide) (h5.mono hm6) h6) fun v7 B7 H7 hm7 hS7 h7 => ?_
  rw [ex3] at h7
  obtain ⟨c, rfl, hc⟩ : ResV B7 v7 ⟨false, [5], -4⟩ 0 := h7
  have hc' := hc
  obtain ⟨mc, rfl, hrc⟩ := hc
  repeat (first | refine Ev.s ?_ | refine Ev.newC fun _ _ _ => ?_ | refine Ev.boxC fun _ _ _ => ?_ | refine Ev.stC fun _ _ => ?_ | refine Ev.sc (by omega) ?_ | refine Ev.scg (by omega) ?_)
  refine Ev.callC (From_dspec (n := 12) (by decide)) fun v8 B8 H8 hm8 hS8 h8 => ?_
  have ha8 := (((((((ha'.mono hm3).mono hm4).mono hm5).mono hm6).mono hm7)).mono hm8)
  repeat (first | refine Ev.s ?_ | refine Ev.newC fun _ _ _ => ?_ | refine Ev.boxC fun _ _ _ => ?_ | refine Ev.stC fun _ _ => ?_ | refine Ev.sc (by omega) ?_ | refine Ev.scg (by omega) ?_)
  refine Ev.callC (same_spec (by rw [ex_len12]; decide) ha8 h8) fun v9 B9 H9 hm9 hS9 h9 => ?_
  rw [decide_eq_true ⟨rfl, rfl, rfl⟩] at h9
  subst h9
  repeat (first | refine Ev.s ?_ | refine Ev.newC fun _ _ _ => ?_ | refine Ev.boxC fun _ _ _ => ?_ | refine Ev.stC fun _ _ => ?_ | refine Ev.sc (by omega) ?_ | refine Ev.scg (by omega) ?_)
  refine Ev.callC (From_dspec (n := 14) (by decide)) fun v10 B10 H10 hm10 hS10 h10 => ?_
  have hb10 := (((((hb'.mono hm5).mono hm6).mono hm7).mono hm8).mono hm9).mono hm10
  repeat (first | refine Ev.s ?_ | refine Ev.newC fun _ _ _ => ?_ | refine Ev.boxC fun _ _ _ => ?_ | refine Ev.stC fun _ _ => ?_ | refine Ev.sc (by omega) ?_ | refine Ev.scg (by omega) ?_)
  refine Ev.callC (same_spec (by rw [ex_len14]; decide) hb10 h10) fun v11 B11 H11 hm11 hS11 h11 => ?_
  rw [decide_eq_true ⟨rfl, rfl, rfl⟩] at h11
  subst h11
  repeat (first | refine Ev.s ?_ | refine Ev.newC fun _ _ _ => ?_ | refine Ev.boxC fun _ _ _ => ?_ | refine Ev.stC fun _ _ => ?_ | refine Ev.sc (by omega) ?_ | refine Ev.scg (by omega) ?_)
  refine Ev.bsC (by decide) fun b12 H12 hS12 => ?_
  obtain ⟨B13, hm13, hr13, hS13⟩ := hS12.freezeN (xs := [5]) (n := 1) (cap := 1) (by intro x hx; simp at hx; omega) rfl (by decide)
  repeat (first | refine Ev.s ?_ | refine Ev.newC fun _ _ _ => ?_ | refine Ev.boxC fun _ _ _ => ?_ | refine Ev.stC fun _ _ => ?_ | refine Ev.sc (by omega) ?_ | refine Ev.scg (by omega) ?_)
  have hc13 := ((((hc'.mono hm8).mono hm9).mono hm10).mono hm11).mono hm13
  refine Ev.callC (same_spec (y := ⟨false, [5], -4⟩) (by decide) hc13 ⟨_, rfl, hr13⟩) fun v14 B14 H14 hm14 hS14 h14 => ?_
  rw [decide_eq_true ⟨rfl, rfl, rfl⟩] at h14
  subst h14
  repeat (first | refine Ev.s ?_ | refine Ev.newC fun _ _ _ => ?_ | refine Ev.boxC fun _ _ _ => ?_ | refine Ev.stC fun _ _ => ?_ | refine Ev.sc (by omega) ?_ | refine Ev.scg (by omega) ?_)
  refine Ev.callC (dRight_spec (d := ⟨false, [], 1⟩) (by decide) ⟨_, rfl, RdN.nil⟩) fun v15 B15 H15 hm15 hS15 h15 => ?_
  rw [ex4] at h15
  subst h15
  repeat (first | refine Ev.s ?_ | refine Ev.newC fun _ _ _ => ?_ | refine Ev.boxC fun _ _ _ => ?_ | refine Ev.stC fun _ _ => ?_ | refine Ev.sc (by omega) ?_ | refine Ev.scg (by omega) ?_)
  exact Ev.doneC rfl
end Go.AM.Y
set_option linter.unusedVariables false
namespace Go.AM
theorem canon_zero {e : Int} : canon 0 e = zeroDy := by unfold canon; rw [if_pos rfl]
/-- What a number in its one form is. -/
theorem canon_val {z e : Int} (h : z ≠ 0) : ∃ q t : Nat, q % 2 = 1 ∧ z.natAbs = 2 ^ t * q ∧ t = ctz z.natAbs ∧ canon z e = ⟨decide (z < 0), limbs q, e + t⟩ := by
  have hz : z.natAbs ≠ 0 := by omega
  obtain ⟨h1, h2⟩ := ctz_spec hz
  exact ⟨_, _, h2, h1.symm, rfl, by unfold canon; rw [if_neg h]⟩
/-- An odd number has its digits. -/
theorem rightI_limbs {neg : Bool} {n : Nat} (h : neg = true → n ≠ 0) : rightI neg (limbs n) = true := by
  unfold rightI
  by_cases h0 : n = 0
  · subst h0
    rw [limbs_zero]
    cases neg with
    | true => exact absurd rfl (h rfl)
    | false => rfl
  · have hl : (limbs n).length ≠ 0 := fun e => h0 (limbs_eq_nil.mp (List.length_eq_zero_iff.mp e))
    rw [if_neg hl]
    refine decide_eq_true ?_
    refine limbs_getLast (n := n) _ ?_
    rw [List.getLast?_eq_getElem?, List.getD_eq_getElem?_getD, List.getElem?_eq_getElem (by omega)]; rfl
theorem limbs_getD_zero (n : Nat) : (limbs n).getD 0 0 = n % 4294967296 := by
  have := val_head (limbs n) (small_limbs n)
  rw [val_limbs] at this; exact this.symm
theorem right_canon {z e : Int} (h : z = 0 ∨ (-131072 ≤ (canon z e).e ∧ (canon z e).e ≤ 131072)) : rightD (canon z e) = true := by
  by_cases hz : z = 0
  · subst hz; rw [canon_zero]; rfl
  · have h := h.resolve_left hz
    obtain ⟨q, t, h1, h2, h3, h4⟩ := canon_val (e := e) hz
    rw [h4] at h ⊢
    have hq : q ≠ 0 := by omega
    have hl : (limbs q).length ≠ 0 := fun e => hq (limbs_eq_nil.mp (List.length_eq_zero_iff.mp e))
    unfold rightD
    rw [rightI_limbs (fun _ => hq), Bool.true_and]
    refine decide_eq_true ?_
    rw [if_neg hl]
    refine ⟨?_, h⟩
    rw [limbs_getD_zero]; omega
/-- A number that is right is in its one form. -/
theorem canon_right {d : Dy} (h : rightD d = true) (hs : small d.mag) : canon (dz d) d.e = d := by
  have hl := right_limbs h hs
  have h' := h
  unfold rightD at h
  rw [Bool.and_eq_true, decide_eq_true_eq] at h
  obtain ⟨hI, hE⟩ := h
  by_cases h0 : d.mag.length = 0
  · rw [if_pos h0] at hE
    have hm : d.mag = [] := List.length_eq_zero_iff.mp h0
    unfold rightI at hI
    rw [if_pos h0] at hI
    have hn : d.neg = false := by cases hh : d.neg with | false => rfl | true => rw [hh] at hI; cases hI
    have : dz d = 0 := by unfold dz; rw [hm, hn]; rfl
    rw [this, canon_zero]
    cases d; simp only at hm hn hE; subst hm hn hE; rfl
  · rw [if_neg h0] at hE
    have hv := val_ne hl h0
    have hz : dz d ≠ 0 := by unfold dz sg; cases d.neg <;> simp <;> omega
    have ha : (dz d).natAbs = val d.mag := sg_abs
    have hodd : val d.mag % 2 = 1 := by
      have h1 := hE.1
      rw [hl, limbs_getD_zero] at h1
      omega
    unfold canon
    rw [if_neg hz, ha, ctz_odd hodd, Nat.pow_zero, Nat.div_one, ← hl]
    have hn : decide (dz d < 0) = d.neg := by
      unfold dz; rw [← sg_neg, decide_eq_true hv, Bool.and_true]
    rw [hn]
    cases d; simp
theorem canon_bounds {z e : Int} (h : z ≠ 0) : e ≤ (canon z e).e ∧ (canon z e).e + (nbits (val (canon z e).mag) : Int) = e + (nbits z.natAbs : Int) ∧ nbits (val (canon z e).mag) ≤ nbits z.natAbs ∧ 0 < nbits (val (canon z e).mag) := by
  obtain ⟨q, t, h1, h2, h3, h4⟩ := canon_val (e := e) h
  rw [h4]
  simp only
  have hq : q ≠ 0 := by omega
  have := nbits_mul_pow (k := t) hq
  have hpos := nbits_pos hq
  rw [val_limbs, h2, Nat.mul_comm, this]
  omega
theorem canon_right' {z e : Int} (h1 : -131072 ≤ e) (h2 : e + (nbits z.natAbs : Int) ≤ 131073) : rightD (canon z e) = true := by
  refine right_canon ?_
  by_cases h : z = 0
  · exact .inl h
  · have := canon_bounds (e := e) h
    exact .inr (by omega)
end Go.AM
set_option linter.unusedVariables false
namespace Go.AM
structure Ok (X E : Int) : Prop where
  lo : -20000 ≤ E
  hi : E ≤ 20000
  nb : nbits X.natAbs ≤ 20000
theorem Ok.right {X E : Int} (h : Ok X E) : rightD (canon X E) = true := canon_right' (by have := h.lo; omega) (by have := h.hi; have := h.nb; omega)
theorem canon_len {z e : Int} {l : Nat} (h : nbits z.natAbs ≤ 32 * l) : (canon z e).mag.length ≤ l := by
  by_cases hz : z = 0
  · subst hz; rw [canon_zero]; simp
  · obtain ⟨q, t, h1, h2, h3, h4⟩ := canon_val (e := e) hz
    rw [h4]
    refine limbs_length_le ?_
    rw [show (4294967296 : Nat) = 2 ^ 32 by decide, ← Nat.pow_mul]
    have := nbits_le.mp h
    have h5 : q ≤ z.natAbs := by rw [h2]; exact Nat.le_mul_of_pos_left _ (Nat.pow_pos (by decide))
    omega
theorem Ok.len {X E : Int} (h : Ok X E) : (canon X E).mag.length ≤ 625 := canon_len (by have := h.nb; omega)
theorem canon_neg {z e : Int} : (canon z e).neg = decide (z < 0) := by
  unfold canon; split
  · rename_i h; subst h; rfl
  · rfl
theorem Ok.neg {X E : Int} (h : Ok X E) : Ok (-X) E := ⟨h.lo, h.hi, by rw [Int.natAbs_neg]; exact h.nb⟩
end Go.AM
namespace Go.AM
open Go.RowKit

structure Loc where
  blk : Nat
  base : Nat
  kind : BK
  csize : Nat
  esz : Nat
abbrev Mp := Nat → Option Loc

inductive VRel (m : Mp) : Value → Value → Prop
  | unk (v : Value) : VRel m (.chan (some 0)) v
  | flat (v : Value) : flat1 v = true → VRel m v v
  | ptr (b off : Nat) (L : Loc) : m b = some L → VRel m (.pointer (some ⟨b, off, none⟩)) (.pointer (some ⟨L.blk, L.base + off, none⟩))
  | slice (b off off' len cap cap' : Nat) (L : Loc) : m b = some L → len ≤ cap → len ≤ cap' → (off' = L.base + off ∨ len = 0) → (L.kind = .fix → off' = L.base + off ∧ cap' = cap) →
      (L.kind = .grow → off = 0 → 0 < cap → off' + cap' * L.esz ≤ L.csize) → (L.kind ≠ .fix → len < cap ∨ (cap = 0 ∧ cap' = 0)) → VRel m (.slice (some ⟨b, off, none⟩) len cap) (.slice (some ⟨L.blk, off', none⟩) len cap')
  | agg (xs ys : Array Value) : xs.size = ys.size → (∀ (i : Nat) (x y : Value), xs[i]? = some x → ys[i]? = some y → VRel m x y) → VRel m (.agg xs) (.agg ys)
  | tuple (xs ys : Array Value) : xs.size = ys.size → (∀ (i : Nat) (x y : Value), xs[i]? = some x → ys[i]? = some y → VRel m x y) → VRel m (.tuple xs) (.tuple ys)
  | func (f : FuncId) (a b a' b' : Array Value) : a.size = a'.size → (∀ (i : Nat) (x y : Value), a[i]? = some x → a'[i]? = some y → VRel m x y) → b.size = b'.size → (∀ (i : Nat) (x y : Value), b[i]? = some x → b'[i]? = some y → VRel m x y) →
      VRel m (.func (.func f) a b) (.func (.func f) a' b')

theorem VRel.mono {m m' : Mp} (hm : ∀ b L, m b = some L → m' b = some L) {x y : Value} (h : VRel m x y) : VRel m' x y := by
  induction h with
  | unk v => exact .unk v
  | flat v h => exact .flat v h
  | ptr b off L h => exact .ptr b off L (hm _ _ h)
  | slice b off off' len cap cap' L h h1 h2 h3 h4 h5 h6 => exact .slice b off off' len cap cap' L (hm _ _ h) h1 h2 h3 h4 h5 h6
  | agg xs ys h _ ih => exact .agg xs ys h ih
  | tuple xs ys h _ ih => exact .tuple xs ys h ih
  | func f a b a' b' h1 _ h2 _ ih1 ih2 => exact .func f a b a' b' h1 ih1 h2 ih2

theorem VRel.undef (m : Mp) : VRel m undef undef := .tuple _ _ rfl fun i x y h _ => by simp at h

def LRel (m : Mp) (xs ys : List Value) : Prop := xs.length = ys.length ∧ ∀ (i : Nat) (x y : Value), xs[i]? = some x → ys[i]? = some y → VRel m x y
theorem LRel.mono {m m' : Mp} (hm : ∀ b L, m b = some L → m' b = some L) {xs ys : List Value} (h : LRel m xs ys) : LRel m' xs ys := ⟨h.1, fun i x y hx hy => (h.2 i x y hx hy).mono hm⟩
theorem LRel.nil (m : Mp) : LRel m [] [] := ⟨rfl, fun i x y h => by simp at h⟩
theorem LRel.cons {m : Mp} {x y : Value} {xs ys : List Value} (h : VRel m x y) (hs : LRel m xs ys) : LRel m (x :: xs) (y :: ys) := by
  refine ⟨by simp [hs.1], fun i a b ha hb => ?_⟩
  cases i with
  | zero => simp at ha hb; subst ha hb; exact h
  | succ i => simp at ha hb; exact hs.2 i a b ha hb
theorem LRel.cons_inv {m : Mp} {x : Value} {xs ys : List Value} (h : LRel m (x :: xs) ys) : ∃ y zs, ys = y :: zs ∧ VRel m x y ∧ LRel m xs zs := by
  cases ys with
  | nil => have := h.1; simp at this
  | cons y zs => exact ⟨y, zs, rfl, h.2 0 x y rfl rfl, by have := h.1; simpa using this, fun i a b ha hb => h.2 (i + 1) a b (by simpa using ha) (by simpa using hb)⟩
theorem LRel.nil_inv {m : Mp} {ys : List Value} (h : LRel m [] ys) : ys = [] := List.eq_nil_of_length_eq_zero (by rw [← h.1]; rfl)
theorem LRel.append {m : Mp} {xs ys xs' ys' : List Value} (h : LRel m xs ys) (h' : LRel m xs' ys') : LRel m (xs ++ xs') (ys ++ ys') := by
  refine ⟨by simp [h.1, h'.1], fun i a b ha hb => ?_⟩
  rw [List.getElem?_append] at ha hb
  rw [← h.1] at hb
  split at ha
  · rename_i hi; rw [if_pos hi] at hb; exact h.2 i a b ha hb
  · rename_i hi; rw [if_neg hi] at hb; exact h'.2 _ a b ha hb
theorem LRel.take {m : Mp} {xs ys : List Value} (h : LRel m xs ys) (n : Nat) : LRel m (xs.take n) (ys.take n) := by
  refine ⟨by simp [h.1], fun i a b ha hb => ?_⟩
  rw [List.getElem?_take] at ha hb
  split at ha
  · rename_i hi; rw [if_pos hi] at hb; exact h.2 i a b ha hb
  · cases ha
theorem LRel.drop {m : Mp} {xs ys : List Value} (h : LRel m xs ys) (n : Nat) : LRel m (xs.drop n) (ys.drop n) := by
  refine ⟨by simp [h.1], fun i a b ha hb => ?_⟩
  rw [List.getElem?_drop] at ha hb
  exact h.2 _ a b ha hb
theorem LRel.set {m : Mp} {xs ys : List Value} (h : LRel m xs ys) (n : Nat) {x y : Value} (hv : VRel m x y) : LRel m (xs.set n x) (ys.set n y) := by
  refine ⟨by simp [h.1], fun i a b ha hb => ?_⟩
  by_cases hn : n = i
  · subst hn
    have h1 : n < xs.length := by
      rcases Nat.lt_or_ge n xs.length with h1 | h1
      · exact h1
      · rw [List.getElem?_eq_none (by simpa using h1)] at ha; cases ha
    rw [List.getElem?_set_self h1] at ha
    rw [List.getElem?_set_self (by rw [← h.1]; exact h1)] at hb
    cases ha
    cases hb
    exact hv
  · rw [List.getElem?_set_ne hn] at ha hb
    exact h.2 i a b ha hb
theorem LRel.map {m : Mp} {α : Type} (f g : α → Value) (l : List α) (h : ∀ a ∈ l, VRel m (f a) (g a)) : LRel m (l.map f) (l.map g) := by
  induction l with
  | nil => exact LRel.nil m
  | cons a l ih => exact LRel.cons (h a (by simp)) (ih fun b hb => h b (by simp [hb]))
theorem LRel.spl {m : Mp} {xs ys us vs : List Value} (h : LRel m xs ys) (h' : LRel m us vs) (o : Nat) : LRel m (spl xs o us) (spl ys o vs) := by
  unfold AM.spl
  rw [← h'.1]
  exact (h.take o).append (h'.append (h.drop _))
theorem length_spl (xs : List Value) (o : Nat) (ys : List Value) (h : o + ys.length ≤ xs.length) : (spl xs o ys).length = xs.length := by
  unfold spl; simp; omega
theorem LRel.of_flat {m : Mp} : ∀ (l : List Value), l.all flat1 = true → LRel m l l := fun l h => ⟨rfl, fun i x y hx hy => by
  rw [hx] at hy
  cases hy
  exact .flat x (List.all_eq_true.1 h x (List.mem_of_getElem? hx))⟩

theorem VRel.aggL {m : Mp} {xs ys : Array Value} (h : LRel m xs.toList ys.toList) : VRel m (.agg xs) (.agg ys) :=
  .agg xs ys (by simpa using h.1) fun i x y hx hy => h.2 i x y (by simpa using hx) (by simpa using hy)
theorem VRel.agg_inv {m : Mp} {xs : Array Value} {v : Value} (h : VRel m (.agg xs) v) : ∃ ys, v = .agg ys ∧ LRel m xs.toList ys.toList := by
  cases h with
  | flat v h => simp [flat1] at h
  | agg xs ys h1 h2 => exact ⟨ys, rfl, by simpa using h1, fun i x y hx hy => h2 i x y (by simpa using hx) (by simpa using hy)⟩
theorem VRel.tuple_inv {m : Mp} {xs : Array Value} {v : Value} (h : VRel m (.tuple xs) v) : ∃ ys, v = .tuple ys ∧ LRel m xs.toList ys.toList := by
  cases h with
  | flat v h => simp [flat1] at h
  | tuple xs ys h1 h2 => exact ⟨ys, rfl, by simpa using h1, fun i x y hx hy => h2 i x y (by simpa using hx) (by simpa using hy)⟩
theorem VRel.flat_inv {m : Mp} {x v : Value} (hf : flat1 x = true) (h : VRel m x v) : v = x := by
  cases h <;> first | rfl | simp [flat1] at hf
theorem VRel.of_flat {m : Mp} {v : Value} (h : AM.flat v = true) : VRel m v v := by
  unfold AM.flat at h
  split at h
  · exact VRel.aggL (LRel.of_flat _ h)
  · exact .flat _ h
theorem VRel.ptr_inv {m : Mp} {b off : Nat} {v : Value} (h : VRel m (.pointer (some ⟨b, off, none⟩)) v) : ∃ L, m b = some L ∧ v = .pointer (some ⟨L.blk, L.base + off, none⟩) := by
  cases h with
  | flat v h => simp [flat1] at h
  | ptr b off L h => exact ⟨L, h, rfl⟩
theorem VRel.slice_inv {m : Mp} {b off len cap : Nat} {v : Value} (h : VRel m (.slice (some ⟨b, off, none⟩) len cap) v) : ∃ L off' cap', m b = some L ∧ v = .slice (some ⟨L.blk, off', none⟩) len cap' ∧ len ≤ cap ∧ len ≤ cap' ∧
    (off' = L.base + off ∨ len = 0) ∧ (L.kind = .fix → off' = L.base + off ∧ cap' = cap) ∧ (L.kind = .grow → off = 0 → 0 < cap → off' + cap' * L.esz ≤ L.csize) ∧ (L.kind ≠ .fix → len < cap ∨ (cap = 0 ∧ cap' = 0)) := by
  cases h with
  | flat v h => simp [flat1] at h
  | slice b off off' len cap cap' L h h1 h2 h3 h4 h5 h6 => exact ⟨L, off', cap', h, rfl, h1, h2, h3, h4, h5, h6⟩
/-- Cells: each is one, on both sides. -/
theorem VRel.isCell {m : Mp} {x y : Value} (h : VRel m x y) (hc : AM.isCell x = true) : y.oneCell' = true ∧ y.cells = #[y] := by
  cases h <;> first
    | (simp [AM.isCell] at hc; done)
    | exact ⟨rfl, rfl⟩
    | (rename_i hf; cases x <;> simp [flat1] at hf <;> exact ⟨rfl, rfl⟩)
theorem VRel.cells {m : Mp} {x y : Value} (h : VRel m x y) (hc : okCells x = true) : LRel m x.cells.toList y.cells.toList ∧ ∀ u ∈ y.cells.toList, u.oneCell' = true := by
  by_cases ha : ∃ cs, x = .agg cs
  · obtain ⟨cs, rfl⟩ := ha
    obtain ⟨ys, rfl, hl⟩ := h.agg_inv
    refine ⟨hl, fun u hu => ?_⟩
    obtain ⟨i, hi⟩ := List.getElem?_of_mem hu
    have hlt : i < cs.toList.length := by rw [hl.1]; exact (List.getElem?_eq_some_iff.1 hi).1
    have hx := List.getElem?_eq_getElem hlt
    exact (VRel.isCell (hl.2 i _ _ hx hi) (List.all_eq_true.1 hc _ (List.mem_of_getElem? hx))).1
  · have hx : x.cells = #[x] := by cases x <;> first | rfl | exact (ha ⟨_, rfl⟩).elim
    have hc' : AM.isCell x = true := by unfold okCells at hc; cases x <;> first | exact hc | exact (ha ⟨_, rfl⟩).elim
    obtain ⟨h1, h2⟩ := h.isCell hc'
    rw [hx, h2]
    exact ⟨LRel.cons h (LRel.nil m), fun u hu => by simp at hu; subst hu; exact h1⟩

/-- One block. -/
structure BRel (P : Program) (B0 : Nat) (m : Mp) (L : Loc) (k : Blk) (w : World) : Prop where
  kind : L.kind = k.kind
  there : ∃ c e fr, w.heap[L.blk]? = some (.cells c e fr) ∧ LRel m k.cells ((c.toList.drop L.base).take k.cells.length) ∧ (k.kind ≠ .ro → fr = (0, 0) ∧ e = k.elem ∧ L.base ≤ c.size) ∧ (k.kind = .fix → L.base = 0 ∧ c.size = k.cells.length) ∧
    (k.kind = .grow → c.size = L.csize)
  own : k.kind ≠ .ro → B0 ≤ L.blk
  esz : k.kind = .grow → L.esz = szT P k.elem
structure Rel (P : Program) (B0 : Nat) (w0 : World) (m : Mp) (H : AH) (w : World) : Prop where
  below : Below B0 w0 w
  hB : B0 ≤ w.heap.size
  dom : ∀ b L, m b = some L → b < H.length ∧ L.blk < w.heap.size
  blks : ∀ b L k, m b = some L → blk H b = some k → BRel P B0 m L k w
  inj : ∀ b1 b2 L1 L2 k1 k2, m b1 = some L1 → m b2 = some L2 → blk H b1 = some k1 → blk H b2 = some k2 → k1.kind ≠ .ro → b1 ≠ b2 → L1.blk ≠ L2.blk
structure Ext (m : Mp) (H : AH) (w : World) (m' : Mp) (H' : AH) (w' : World) : Prop where
  mono : ∀ b L, m b = some L → m' b = some L
  len : H.length ≤ H'.length
  size : w.heap.size ≤ w'.heap.size
  alive : ∀ b k', b < H.length → blk H' b = some k' → ∃ k, blk H b = some k ∧ k.kind = k'.kind
  new : ∀ b L, m' b = some L → m b = some L ∨ (H.length ≤ b ∧ (w.heap.size ≤ L.blk ∨ ∃ b0 L0 k0, m b0 = some L0 ∧ blk H b0 = some k0 ∧ k0.kind ≠ .ro ∧ L0.blk = L.blk))
  frame : ∀ B, B < w.heap.size → (∀ b L k, m b = some L → blk H b = some k → k.kind ≠ .ro → L.blk ≠ B) → w'.heap[B]? = w.heap[B]?
theorem Ext.refl (m : Mp) (H : AH) (w : World) : Ext m H w m H w := ⟨fun _ _ h => h, Nat.le_refl _, Nat.le_refl _, fun _ k' _ h => ⟨k', h, rfl⟩, fun _ _ h => .inl h, fun _ _ _ => rfl⟩
theorem Ext.trans {m m' m'' : Mp} {H H' H'' : AH} {w w' w'' : World} (hd : ∀ b L, m b = some L → b < H.length) (h : Ext m H w m' H' w') (k : Ext m' H' w' m'' H'' w'') : Ext m H w m'' H'' w'' := by
  refine ⟨fun b L hb => k.mono b L (h.mono b L hb), Nat.le_trans h.len k.len, Nat.le_trans h.size k.size, ?_, ?_, ?_⟩
  · intro b k'' hb hk
    obtain ⟨k', h1, h2⟩ := k.alive b k'' (Nat.lt_of_lt_of_le hb h.len) hk
    obtain ⟨k0, h3, h4⟩ := h.alive b k' hb h1
    exact ⟨k0, h3, h4.trans h2⟩
  · intro b L hb
    rcases k.new b L hb with h1 | ⟨h1, h2⟩
    · exact h.new b L h1
    · refine .inr ⟨Nat.le_trans h.len h1, ?_⟩
      rcases h2 with h2 | ⟨b0, L0, k0, h3, h4, h5, h6⟩
      · exact .inl (Nat.le_trans h.size h2)
      · rcases h.new b0 L0 h3 with h7 | ⟨h7, h8⟩
        · obtain ⟨k1, h9, h10⟩ := h.alive b0 k0 (hd _ _ h7) h4
          exact .inr ⟨b0, L0, k1, h7, h9, by rw [h10]; exact h5, h6⟩
        · rw [h6] at h8
          exact h8
  · intro B hB hr
    rw [k.frame B (Nat.lt_of_lt_of_le hB h.size), h.frame B hB hr]
    intro b L k' hb hk hne
    rcases h.new b L hb with h1 | ⟨h1, h2⟩
    · obtain ⟨k0, h3, h4⟩ := h.alive b k' (hd _ _ h1) hk
      exact hr b L k0 h1 h3 (by rw [h4]; exact hne)
    · rcases h2 with h2 | ⟨b0, L0, k0, h3, h4, h5, h6⟩
      · omega
      · rw [← h6]; exact hr b0 L0 k0 h3 h4 h5
end Go.AM
namespace Go.AM
open Go.RowKit

theorem blk_lt' {H : AH} {b : Nat} {k : Blk} (h : blk H b = some k) : b < H.length := by
  unfold blk at h
  rcases Nat.lt_or_ge b H.length with h1 | h1
  · exact h1
  · rw [List.getElem?_eq_none h1] at h; cases h
theorem blk_mkB_old' {H : AH} {b : Nat} (cs : List Value) (e : TypeId) (kd : BK) (h : b < H.length) : blk (mkB H cs e kd) b = blk H b := by
  unfold blk mkB
  rw [List.getElem?_append_left h]
theorem blk_mkB_new' (H : AH) (cs : List Value) (e : TypeId) (kd : BK) : blk (mkB H cs e kd) H.length = some ⟨cs, e, kd⟩ := by
  unfold blk mkB
  simp
theorem length_mkB' (H : AH) (cs : List Value) (e : TypeId) (kd : BK) : (mkB H cs e kd).length = H.length + 1 := by simp [mkB]
theorem blk_put_same {H : AH} {b : Nat} (k : Blk) (cs : List Value) (h : b < H.length) : blk (put H b k cs) b = some ⟨cs, k.elem, k.kind⟩ := by
  unfold blk put
  rw [List.getElem?_set_self h]
  rfl
theorem blk_put_ne {H : AH} {b c : Nat} (k : Blk) (cs : List Value) (h : b ≠ c) : blk (put H b k cs) c = blk H c := by
  unfold blk put
  rw [List.getElem?_set_ne h]
theorem length_put' (H : AH) (b : Nat) (k : Blk) (cs : List Value) : (put H b k cs).length = H.length := by simp [put]
theorem blk_kill_same (H : AH) (b : Nat) : blk (kill H b) b = none := by
  unfold blk kill
  rcases Nat.lt_or_ge b H.length with h1 | h1
  · rw [List.getElem?_set_self h1]; rfl
  · rw [List.getElem?_eq_none (by simpa using h1)]; rfl
theorem blk_kill_ne {H : AH} {b c : Nat} (h : b ≠ c) : blk (kill H b) c = blk H c := by
  unfold blk kill
  rw [List.getElem?_set_ne h]
theorem length_kill' (H : AH) (b : Nat) : (kill H b).length = H.length := by simp [kill]

section
variable {P : Program} {B0 : Nat} {w0 : World} {m : Mp} {H : AH} {w : World}

theorem addAddr (b o j : Nat) : (⟨b, o, none⟩ : Addr).add j = ⟨b, o + j, none⟩ := Addr.add_lit b o j
theorem BRel.row {L : Loc} {k : Blk} (h : BRel P B0 m L k w) {off n : Nat} {cs : List Value} (hr : rdN k off n = some cs) :
    ∃ ds, LRel m cs ds ∧ ∀ (j : Nat) (u : Value), ds[j]? = some u → w.cell? ((⟨L.blk, L.base + off, none⟩ : Addr).add j) = some u := by
  obtain ⟨c, e, fr, hw, hl, _⟩ := h.there
  unfold rdN at hr
  split at hr
  · rename_i hle
    cases hr
    refine ⟨_, (hl.drop off).take n, fun j u hu => ?_⟩
    rw [addAddr]
    unfold World.cell?
    rw [hw]
    rw [List.getElem?_take] at hu
    split at hu
    · rename_i hj
      rw [List.getElem?_drop, List.getElem?_take, if_pos (by omega), List.getElem?_drop] at hu
      simp only [Option.isSome_none, Bool.false_eq_true, if_false]
      rw [← Array.getElem?_toList, ← hu]
      congr 1
      omega
    · cases hu
  · cases hr
theorem BRel.cell {L : Loc} {k : Blk} (h : BRel P B0 m L k w) {off : Nat} {x : Value} (hx : k.cells[off]? = some x) :
    ∃ y, VRel m x y ∧ w.cell? ⟨L.blk, L.base + off, none⟩ = some y := by
  have hlt := (List.getElem?_eq_some_iff.1 hx).1
  obtain ⟨ds, hl, hc⟩ := h.row (off := off) (n := 1) (cs := (k.cells.drop off).take 1) (by unfold rdN; rw [if_pos (by omega)])
  have h0 : ((k.cells.drop off).take 1)[0]? = some x := by simp [hx]
  have hlen := hl.1
  cases ds with
  | nil => simp at hlen; omega
  | cons y ds => exact ⟨y, hl.2 0 x y h0 rfl, by simpa [addAddr] using hc 0 y rfl⟩

theorem setRow_size (w : World) (g : Nat) (cs : Array Value) : (w.setRow g cs).heap.size = w.heap.size := by simp [World.setRow]
theorem setRow_ne (w : World) {g k : Nat} (cs : Array Value) (h : g ≠ k) : (w.setRow g cs).heap[k]? = w.heap[k]? := by
  simp only [World.setRow, Array.getElem?_modify]
  rw [if_neg h]
/-- A block of the call's own is written. -/
theorem Rel.write (h : Rel P B0 w0 m H w) {b : Nat} {L : Loc} {k : Blk} (hm : m b = some L) (hb : blk H b = some k) (hk : k.kind ≠ .ro) {c : Array Value} {e : TypeId} {fr : Nat × Nat} (hw : w.heap[L.blk]? = some (.cells c e fr))
    (cs : List Value) (c' : Array Value) (hs : c'.size = c.size) (hlen : cs.length = k.cells.length) (hl : LRel m cs ((c'.toList.drop L.base).take cs.length)) :
    Rel P B0 w0 m (put H b k cs) (w.setRow L.blk c') ∧ Ext m H w m (put H b k cs) (w.setRow L.blk c') := by
  have hB := (h.blks b L k hm hb)
  have hfr : Ext m H w m (put H b k cs) (w.setRow L.blk c') := by
    refine ⟨fun _ _ h => h, Nat.le_of_eq (length_put' ..).symm, Nat.le_of_eq (setRow_size ..).symm, ?_, fun _ _ h => .inl h, ?_⟩
    · intro b2 k2 _ hk2
      by_cases hbb : b = b2
      · subst hbb
        rw [blk_put_same _ _ (blk_lt' hb)] at hk2
        cases hk2
        exact ⟨k, hb, rfl⟩
      · rw [blk_put_ne _ _ hbb] at hk2
        exact ⟨k2, hk2, rfl⟩
    · intro B _ hr
      exact setRow_ne _ _ (hr b L k hm hb hk)
  refine ⟨⟨?_, ?_, ?_, ?_, ?_⟩, hfr⟩
  · refine h.below.trans ⟨rfl, rfl, rfl, hfr.size, fun j hj => setRow_ne _ _ ?_⟩
    have := hB.own hk
    omega
  · rw [setRow_size]; exact h.hB
  · intro b2 L2 h2
    rw [length_put', setRow_size]
    exact h.dom b2 L2 h2
  · intro b2 L2 k2 hm2 hk2
    by_cases hbb : b = b2
    · subst hbb
      rw [hm] at hm2
      cases hm2
      rw [blk_put_same _ _ (blk_lt' hb)] at hk2
      cases hk2
      obtain ⟨c0, e0, fr0, hw0, _, h3, h4, h5⟩ := hB.there
      rw [hw] at hw0
      cases hw0
      exact ⟨hB.kind, ⟨c', e, fr, setRow_heap w _ _ _ _ _ hw, hl, (fun hx => by rw [hs]; exact h3 hx), fun hf => ⟨(h4 hf).1, by rw [hs, (h4 hf).2, hlen]⟩, fun hg => by rw [hs, h5 hg]⟩, hB.own, hB.esz⟩
    · rw [blk_put_ne _ _ hbb] at hk2
      have hne : L.blk ≠ L2.blk := h.inj b b2 L L2 k k2 hm hm2 hb hk2 hk hbb
      obtain ⟨q1, ⟨c2, e2, fr2, hw2, r⟩, q3, q4⟩ := h.blks b2 L2 k2 hm2 hk2
      exact ⟨q1, ⟨c2, e2, fr2, by rw [setRow_ne _ _ hne]; exact hw2, r⟩, q3, q4⟩
  · intro b1 b2 L1 L2 k1 k2 hm1 hm2 hk1 hk2 hne hbb
    have up : ∀ b3 k3, blk (put H b k cs) b3 = some k3 → ∃ k4, blk H b3 = some k4 ∧ k4.kind = k3.kind := fun b3 k3 h3 => hfr.alive b3 k3 (by have := blk_lt' h3; rwa [length_put'] at this) h3
    obtain ⟨k3, h3, h4⟩ := up b1 k1 hk1
    obtain ⟨k4, h5, _⟩ := up b2 k2 hk2
    exact h.inj b1 b2 L1 L2 k3 k4 hm1 hm2 h3 h5 (by rw [h4]; exact hne) hbb
def upd (m : Mp) (b : Nat) (L : Loc) : Mp := fun i => if i = b then some L else m i
theorem upd_same (m : Mp) (b : Nat) (L : Loc) : upd m b L b = some L := by simp [upd]
theorem upd_mono (h : ∀ b L, m b = some L → b < H.length) (L0 : Loc) : ∀ b L, m b = some L → upd m H.length L0 b = some L := by
  intro b L hb
  unfold upd
  rw [if_neg (by have := h b L hb; omega)]
  exact hb
theorem Rel.drew (h : Rel P B0 w0 m H w) : Rel P B0 w0 m H w.drew :=
  ⟨h.below.drew, h.hB, h.dom, fun b L k h1 h2 => let ⟨q1, q2, q3, q4⟩ := h.blks b L k h1 h2; ⟨q1, q2, q3, q4⟩, h.inj⟩
theorem Ext.drew {m' : Mp} {H' : AH} {w' : World} (h : Ext m H w m' H' w') : Ext m H w m' H' w'.drew := ⟨h.mono, h.len, h.size, h.alive, h.new, h.frame⟩
theorem Ext.drewL {m' : Mp} {H' : AH} {w' : World} (h : Ext m H w.drew m' H' w') : Ext m H w m' H' w' := ⟨h.mono, h.len, h.size, h.alive, h.new, h.frame⟩
/-- A block is made. -/
theorem Rel.make (h : Rel P B0 w0 m H w) (cs : List Value) (e : TypeId) (kd : BK) (c : Array Value) (hkd : kd ≠ .ro) (hl : LRel m cs (c.toList.take cs.length)) (hf : kd = .fix → c.size = cs.length) :
    let L : Loc := ⟨w.heap.size, 0, kd, c.size, szT P e⟩
    Rel P B0 w0 (upd m H.length L) (mkB H cs e kd) (w.alloc (.cells c e)) ∧ Ext m H w (upd m H.length L) (mkB H cs e kd) (w.alloc (.cells c e)) := by
  intro L
  have hmono := upd_mono (m := m) (H := H) (fun b L hb => (h.dom b L hb).1) L
  have old : ∀ b2 L2, upd m H.length L b2 = some L2 → (b2 = H.length ∧ L2 = L) ∨ (b2 ≠ H.length ∧ m b2 = some L2) := by
    intro b2 L2 h2
    unfold upd at h2
    split at h2
    · rename_i hb; cases h2; exact .inl ⟨hb, rfl⟩
    · rename_i hb; exact .inr ⟨hb, h2⟩
  have hfr : Ext m H w (upd m H.length L) (mkB H cs e kd) (w.alloc (.cells c e)) := by
    refine ⟨hmono, by rw [length_mkB']; omega, by simp, ?_, ?_, fun B hB _ => heap_alloc_old w _ _ hB⟩
    · intro b2 k2 hb2 hk2
      rw [blk_mkB_old' _ _ _ hb2] at hk2
      exact ⟨k2, hk2, rfl⟩
    · intro b2 L2 h2
      rcases old b2 L2 h2 with ⟨rfl, rfl⟩ | ⟨_, h3⟩
      · exact .inr ⟨Nat.le_refl _, .inl (Nat.le_refl _)⟩
      · exact .inl h3
  refine ⟨⟨h.below.alloc h.hB _, by simp; exact Nat.le_succ_of_le h.hB, ?_, ?_, ?_⟩, hfr⟩
  · intro b2 L2 h2
    rw [length_mkB']
    simp only [World.size_alloc]
    rcases old b2 L2 h2 with ⟨rfl, rfl⟩ | ⟨_, h3⟩
    · exact ⟨by omega, by show w.heap.size < _; omega⟩
    · have := h.dom b2 L2 h3; omega
  · intro b2 L2 k2 h2 hk2
    rcases old b2 L2 h2 with ⟨rfl, rfl⟩ | ⟨hne, h3⟩
    · rw [blk_mkB_new'] at hk2
      cases hk2
      refine ⟨rfl, ⟨c, e, (0, 0), heap_alloc_new w _, ?_, fun _ => ⟨rfl, rfl, Nat.zero_le _⟩, fun hk => ⟨rfl, hf hk⟩, fun _ => rfl⟩, fun _ => h.hB, fun _ => rfl⟩
      show LRel _ cs ((c.toList.drop 0).take cs.length)
      rw [List.drop_zero]
      exact hl.mono hmono
    · have hlt := (h.dom b2 L2 h3)
      rw [blk_mkB_old' _ _ _ hlt.1] at hk2
      obtain ⟨q1, ⟨c2, e2, fr2, hw2, r1, r2⟩, q3, q4⟩ := h.blks b2 L2 k2 h3 hk2
      exact ⟨q1, ⟨c2, e2, fr2, by rw [heap_alloc_old w _ _ hlt.2]; exact hw2, r1.mono hmono, r2⟩, q3, q4⟩
  · intro b1 b2 L1 L2 k1 k2 hm1 hm2 hk1 hk2 hne hbb
    rcases old b1 L1 hm1 with ⟨rfl, rfl⟩ | ⟨hn1, h1⟩
    · rcases old b2 L2 hm2 with ⟨rfl, rfl⟩ | ⟨hn2, h2⟩
      · exact (hbb rfl).elim
      · have := (h.dom b2 L2 h2).2
        show w.heap.size ≠ L2.blk
        omega
    · have hd1 := h.dom b1 L1 h1
      rw [blk_mkB_old' _ _ _ hd1.1] at hk1
      rcases old b2 L2 hm2 with ⟨rfl, rfl⟩ | ⟨hn2, h2⟩
      · show L1.blk ≠ w.heap.size
        omega
      · have hd2 := h.dom b2 L2 h2
        rw [blk_mkB_old' _ _ _ hd2.1] at hk2
        exact h.inj b1 b2 L1 L2 k1 k2 h1 h2 hk1 hk2 hne hbb
/-- A block is given up. -/
theorem Rel.killed (h : Rel P B0 w0 m H w) (b : Nat) : Rel P B0 w0 m (kill H b) w ∧ Ext m H w m (kill H b) w := by
  have up : ∀ b3 k3, blk (kill H b) b3 = some k3 → blk H b3 = some k3 := by
    intro b3 k3 h3
    by_cases hb : b = b3
    · subst hb; rw [blk_kill_same] at h3; cases h3
    · rwa [blk_kill_ne hb] at h3
  refine ⟨⟨h.below, h.hB, fun b2 L2 h2 => by rw [length_kill']; exact h.dom b2 L2 h2, fun b2 L2 k2 h2 hk2 => h.blks b2 L2 k2 h2 (up _ _ hk2), fun b1 b2 L1 L2 k1 k2 hm1 hm2 hk1 hk2 => h.inj b1 b2 L1 L2 k1 k2 hm1 hm2 (up _ _ hk1) (up _ _ hk2)⟩,
    ⟨fun _ _ h => h, Nat.le_of_eq (length_kill' ..).symm, Nat.le_refl _, fun b2 k2 _ hk2 => ⟨k2, up _ _ hk2, rfl⟩, fun _ _ h => .inl h, fun _ _ _ => rfl⟩⟩
/-- A row that has room is written behind its end: the elder block is given up, the new one lies where it lay. -/
theorem Rel.regrow (h : Rel P B0 w0 m H w) {b : Nat} {L : Loc} {k : Blk} (hm : m b = some L) (hb : blk H b = some k) (hk : k.kind = .grow) {c : Array Value} {e : TypeId} {fr : Nat × Nat} (hw : w.heap[L.blk]? = some (.cells c e fr))
    (base : Nat) (cs : List Value) (c' : Array Value) (hs : c'.size = c.size) (hbs : base ≤ c'.size) (hl : LRel m cs ((c'.toList.drop base).take cs.length)) :
    let L' : Loc := ⟨L.blk, base, .grow, L.csize, L.esz⟩
    Rel P B0 w0 (upd m H.length L') (mkB (kill H b) cs k.elem .grow) (w.setRow L.blk c') ∧ Ext m H w (upd m H.length L') (mkB (kill H b) cs k.elem .grow) (w.setRow L.blk c') := by
  intro L'
  have hk' : k.kind ≠ .ro := by rw [hk]; decide
  have hmono := upd_mono (m := m) (H := H) (fun b L hb => (h.dom b L hb).1) L'
  have old : ∀ b2 L2, upd m H.length L' b2 = some L2 → (b2 = H.length ∧ L2 = L') ∨ (b2 ≠ H.length ∧ m b2 = some L2) := by
    intro b2 L2 h2
    unfold upd at h2
    split at h2
    · rename_i hb; cases h2; exact .inl ⟨hb, rfl⟩
    · rename_i hb; exact .inr ⟨hb, h2⟩
  have hlk : (kill H b).length = H.length := length_kill' ..
  have back : ∀ b3 k3, b3 < H.length → blk (mkB (kill H b) cs k.elem .grow) b3 = some k3 → b ≠ b3 ∧ blk H b3 = some k3 := by
    intro b3 k3 h3 hk3
    rw [blk_mkB_old' _ _ _ (by rw [hlk]; exact h3)] at hk3
    by_cases hbb : b = b3
    · subst hbb; rw [blk_kill_same] at hk3; cases hk3
    · exact ⟨hbb, by rwa [blk_kill_ne hbb] at hk3⟩
  have hB := h.blks b L k hm hb
  have hfr : Ext m H w (upd m H.length L') (mkB (kill H b) cs k.elem .grow) (w.setRow L.blk c') := by
    refine ⟨hmono, by rw [length_mkB', hlk]; omega, Nat.le_of_eq (setRow_size ..).symm, ?_, ?_, ?_⟩
    · intro b2 k2 hb2 hk2
      exact ⟨k2, (back b2 k2 hb2 hk2).2, rfl⟩
    · intro b2 L2 h2
      rcases old b2 L2 h2 with ⟨rfl, rfl⟩ | ⟨_, h3⟩
      · exact .inr ⟨Nat.le_refl _, .inr ⟨b, L, k, hm, hb, hk', rfl⟩⟩
      · exact .inl h3
    · intro B _ hr
      exact setRow_ne _ _ (hr b L k hm hb hk')
  refine ⟨⟨?_, by rw [setRow_size]; exact h.hB, ?_, ?_, ?_⟩, hfr⟩
  · refine h.below.trans ⟨rfl, rfl, rfl, hfr.size, fun j hj => setRow_ne _ _ ?_⟩
    have := hB.own hk'
    omega
  · intro b2 L2 h2
    rw [length_mkB', hlk, setRow_size]
    rcases old b2 L2 h2 with ⟨rfl, rfl⟩ | ⟨_, h3⟩
    · have := (h.dom b L hm).2
      exact ⟨by omega, this⟩
    · have := h.dom b2 L2 h3; omega
  · intro b2 L2 k2 h2 hk2
    rcases old b2 L2 h2 with ⟨rfl, rfl⟩ | ⟨hne, h3⟩
    · rw [← hlk, blk_mkB_new'] at hk2
      cases hk2
      obtain ⟨c0, e0, fr0, hw0, _, h4, _, h6⟩ := hB.there
      rw [hw] at hw0
      cases hw0
      exact ⟨rfl, ⟨c', e, fr, setRow_heap w _ _ _ _ _ hw, hl.mono hmono, fun _ => ⟨(h4 hk').1, (h4 hk').2.1, hbs⟩, (fun hx => by cases hx), fun _ => by rw [hs]; exact h6 hk⟩, fun _ => hB.own hk', fun _ => hB.esz hk⟩
    · have hlt := (h.dom b2 L2 h3)
      obtain ⟨hbb, hk3⟩ := back b2 k2 hlt.1 hk2
      have hne2 : L.blk ≠ L2.blk := h.inj b b2 L L2 k k2 hm h3 hb hk3 hk' hbb
      obtain ⟨q1, ⟨c2, e2, fr2, hw2, r1, r2⟩, q3, q4⟩ := h.blks b2 L2 k2 h3 hk3
      exact ⟨q1, ⟨c2, e2, fr2, by rw [setRow_ne _ _ hne2]; exact hw2, r1.mono hmono, r2⟩, q3, q4⟩
  · intro b1 b2 L1 L2 k1 k2 hm1 hm2 hk1 hk2 hne hbb
    rcases old b1 L1 hm1 with ⟨rfl, rfl⟩ | ⟨hn1, h1⟩
    · rcases old b2 L2 hm2 with ⟨rfl, rfl⟩ | ⟨hn2, h2⟩
      · exact (hbb rfl).elim
      · obtain ⟨hb2, hk3⟩ := back b2 k2 (h.dom b2 L2 h2).1 hk2
        exact h.inj b b2 L L2 k k2 hm h2 hb hk3 hk' hb2
    · obtain ⟨hb1, hk3⟩ := back b1 k1 (h.dom b1 L1 h1).1 hk1
      rcases old b2 L2 hm2 with ⟨rfl, rfl⟩ | ⟨hn2, h2⟩
      · exact h.inj b1 b L1 L k1 k h1 hm hk3 hb hne (Ne.symm hb1)
      · obtain ⟨_, hk4⟩ := back b2 k2 (h.dom b2 L2 h2).1 hk2
        exact h.inj b1 b2 L1 L2 k1 k2 h1 h2 hk3 hk4 hne hbb
end
end Go.AM
set_option linter.unusedVariables false
set_option linter.unusedSimpArgs false
namespace Go.AM
open Go.RowKit

theorem info_of_underlying {P : Program} {t : TypeId} {d : TypeDesc} (h : P.underlying t = some d) : ∃ i, P.info? t = some i := by
  unfold Program.underlying at h
  cases hi : P.info? t with
  | none => rw [hi] at h; cases h
  | some i => exact ⟨i, rfl⟩
theorem szT_eq {P : Program} {t : TypeId} {i : TypeInfo} (h : P.info? t = some i) : szT P t = i.size := by simp [szT, Program.cellsOf, h]
theorem byT_eq {P : Program} {t : TypeId} {i : TypeInfo} (h : P.info? t = some i) : byT P t = i.bytes := by simp [byT, Program.bytesOf, h]
theorem run_sizeOf {P : Program} {t : TypeId} {i : TypeInfo} (h : P.info? t = some i) (w : World) : (sizeOf t).run P w = .ok (szT P t) w := by
  simp [sizeOf, typeInfo, h, szT_eq h]
theorem aggT_true {P : Program} {t : TypeId} (h : aggT P t = some true) (w : World) : (isAgg t).run P w = .ok true w ∧ ∃ i, P.info? t = some i := by
  unfold aggT at h
  split at h
  · rename_i fs hd; exact ⟨by simp [isAgg, run_underlying hd], info_of_underlying hd⟩
  · rename_i n e hd; exact ⟨by simp [isAgg, run_underlying hd], info_of_underlying hd⟩
  · cases h
  · cases h
theorem aggT_false {P : Program} {t : TypeId} (h : aggT P t = some false) (w : World) : (isAgg t).run P w = .ok false w ∧ ∃ i, P.info? t = some i := by
  unfold aggT at h
  split at h
  · cases h
  · cases h
  · rename_i d h1 h2 hd
    refine ⟨?_, info_of_underlying hd⟩
    cases d <;> first | (simp [isAgg, run_underlying hd]; done) | exact (h1 _ rfl).elim | exact (h2 _ _ rfl).elim
  · cases h
theorem zeroT_inv {P : Program} {t : TypeId} {z : Value} (h : zeroT P t = some z) : ∃ i, P.info? t = some i ∧ i.zero = some z ∧ flat z = true := by
  unfold zeroT at h
  cases hi : P.info? t with
  | none => rw [hi] at h; cases h
  | some i =>
    rw [hi] at h
    cases hz : i.zero with
    | none => simp [hz] at h
    | some z' =>
      simp only [hz, Option.bind_some] at h
      split at h
      · rename_i hf; cases h; exact ⟨i, rfl, hz, hf⟩
      · cases h
theorem run_zeroValue {P : Program} {t : TypeId} {z : Value} {i : TypeInfo} (h : P.info? t = some i) (hz : i.zero = some z) (w : World) : (zeroValue t).run P w = .ok z w := by
  simp [zeroValue, typeInfo, h, hz]

section
variable {P : Program} {B0 : Nat} {w0 : World} {m : Mp} {H : AH} {w : World}

theorem ldC_inv {a v : Value} (h : ldC H a = some v) : ∃ b off k, a = .pointer (some ⟨b, off, none⟩) ∧ blk H b = some k ∧ k.cells[off]? = some v := by
  unfold ldC at h
  split at h
  · rename_i b off
    cases hb : blk H b with
    | none => rw [hb] at h; cases h
    | some k => rw [hb] at h; exact ⟨b, off, k, rfl, hb, h⟩
  · cases h
theorem ld_sound (R : Rel P B0 w0 m H w) {t : TypeId} {a a' v : Value} (ha : VRel m a a') (h : ld P t H a = some v) :
    ∃ v', (Instr.loadAt t a').run P w = .ok v' w ∧ VRel m v v' := by
  unfold ld at h
  split at h
  · rename_i hg
    obtain ⟨h1, i, hi⟩ := aggT_true hg w
    unfold ldA at h
    split at h
    · rename_i b off
      cases hb : blk H b with
      | none => rw [hb] at h; cases h
      | some k =>
        rw [hb] at h
        simp only [Option.bind_some] at h
        cases hr : rdN k off (szT P t) with
        | none => rw [hr] at h; cases h
        | some cs =>
          rw [hr] at h
          cases h
          obtain ⟨L, hm, rfl⟩ := ha.ptr_inv
          obtain ⟨ds, hl, hc⟩ := (R.blks b L k hm hb).row hr
          have hlen : ds.length = szT P t := by
            rw [← hl.1]
            unfold rdN at hr
            split at hr
            · cases hr; simp; omega
            · cases hr
          refine ⟨.agg ds.toArray, ?_, VRel.aggL (by simpa using hl)⟩
          have := run_loadCells_list (P := P) w _ ds hc
          rw [hlen] at this
          simp [Instr.loadAt, Instr.sureAddr, loadVar, h1, run_sizeOf hi, this]
    · cases h
  · rename_i hg
    obtain ⟨h1, i, hi⟩ := aggT_false hg w
    obtain ⟨b, off, k, rfl, hb, hx⟩ := ldC_inv h
    obtain ⟨L, hm, rfl⟩ := ha.ptr_inv
    obtain ⟨y, hy, hc⟩ := (R.blks b L k hm hb).cell hx
    exact ⟨y, by simp [Instr.loadAt, Instr.sureAddr, loadVar, h1, hc], hy⟩
  · cases h

/-- Cells are stored into a block of the call's own. -/
theorem store_sound (R : Rel P B0 w0 m H w) {b off : Nat} {k : Blk} {L : Loc} (hm : m b = some L) (hb : blk H b = some k) (hk : k.kind ≠ .ro) {cs ds : List Value} (hle : off + cs.length ≤ k.cells.length) (hl : LRel m cs ds) (h1 : ∀ u ∈ ds, u.oneCell' = true) :
    ∃ w', (storeCells ⟨L.blk, L.base + off, none⟩ ds).run P w = .ok () w' ∧ Rel P B0 w0 m (put H b k (spl k.cells off cs)) w' ∧ Ext m H w m (put H b k (spl k.cells off cs)) w' := by
  obtain ⟨c, e, fr, hw, hlr, h3, h4, h5⟩ := (R.blks b L k hm hb).there
  obtain ⟨rfl, _, hbs⟩ := h3 hk
  have hsz : L.base + k.cells.length ≤ c.size := by
    have := hlr.1
    simp at this
    omega
  have hst := run_storeCells_at P L.blk (L.base + off) e ds 0 c w hw (by have := hl.1; omega) h1
  have hlen := length_spl k.cells off cs hle
  refine ⟨_, hst, R.write hm hb hk hw _ _ ?_ hlen ?_⟩
  · have := hl.1
    simp
    omega
  · rw [hlen]
    have e1 : ((c.toList.take (L.base + off + 0) ++ ds ++ c.toList.drop (L.base + off + 0 + ds.length)).toArray.toList.drop L.base).take k.cells.length = spl ((c.toList.drop L.base).take k.cells.length) off ds := by
      have hd := hl.1
      have hcl : c.toList.length = c.size := by simp
      apply List.ext_getElem?
      intro j
      unfold AM.spl
      simp only [List.getElem?_take, List.getElem?_drop, List.getElem?_append, List.length_take, List.length_drop, Nat.add_zero, List.length_append]
      rw [hcl]
      by_cases hj : j < k.cells.length
      · rw [if_pos hj]
        by_cases h6 : j < off
        · rw [if_pos (by omega), if_pos (by omega), if_pos (by omega), if_pos (by omega), if_pos (by omega), if_pos (by omega)]
        · by_cases h7 : j < off + ds.length
          · rw [if_pos (by omega), if_neg (by omega), if_neg (by omega), if_pos (by omega)]
            congr 1
            omega
          · rw [if_neg (by omega), if_neg (by omega), if_neg (by omega), if_pos (by omega)]
            congr 1
            omega
      · rw [if_neg hj]
        by_cases h7 : j < off + ds.length
        · omega
        · rw [if_neg (by omega), if_neg (by omega), if_neg (by omega)]
    rw [e1]
    exact hlr.spl hl off
theorem st_sound (R : Rel P B0 w0 m H w) {t : TypeId} {a a' v v' : Value} {H' : AH} (ha : VRel m a a') (hv : VRel m v v') (h : st P t H a v = some H') :
    ∃ w', (Instr.storeAt t a' v').run P w = .ok () w' ∧ Rel P B0 w0 m H' w' ∧ Ext m H w m H' w' := by
  unfold st at h
  split at h
  · rename_i hg
    obtain ⟨h1, i, hi⟩ := aggT_true hg w
    unfold stA at h
    split at h
    · rename_i b off cs
      cases hb : blk H b with
      | none => rw [hb] at h; cases h
      | some k =>
        rw [hb] at h
        simp only [Option.bind_some] at h
        split at h
        · rename_i hc
          obtain ⟨c1, c2, c3, c4⟩ := hc
          cases h
          obtain ⟨L, hm, rfl⟩ := ha.ptr_inv
          obtain ⟨q1, q2⟩ := hv.cells (x := .agg cs) c4
          obtain ⟨w', h5, h6, h7⟩ := store_sound R hm hb c1 (off := off) (cs := cs.toList) (by simpa [c3] using c2) q1 q2
          have hsz : v'.cells.size = szT P t := by have := q1.1; simp [Value.cells] at this; simp [Value.cells]; omega
          exact ⟨w', by simp [Instr.storeAt, Instr.sureAddr, storeVar, run_sizeOf hi, hsz, h5], h6, h7⟩
        · cases h
    · cases h
  · rename_i hg
    obtain ⟨h1, i, hi⟩ := aggT_false hg w
    split at h
    · rename_i hs
      unfold stC at h
      split at h
      · rename_i b off
        cases hb : blk H b with
        | none => rw [hb] at h; cases h
        | some k =>
          rw [hb] at h
          simp only [Option.bind_some] at h
          split at h
          · rename_i hc
            obtain ⟨c1, c2, c3⟩ := hc
            cases h
            obtain ⟨L, hm, rfl⟩ := ha.ptr_inv
            obtain ⟨q1, q2⟩ := hv.isCell c3
            obtain ⟨w', h5, h6, h7⟩ := store_sound R hm hb c1 (off := off) (cs := [v]) (ds := [v']) (by simp; omega) (LRel.cons hv (LRel.nil m)) (by simp [q1])
            have e1 : spl k.cells off [v] = k.cells.set off v := by
              unfold spl
              rw [List.set_eq_take_append_cons_drop, if_pos c2]
              simp
            rw [e1] at h6 h7
            exact ⟨w', by simp [Instr.storeAt, Instr.sureAddr, storeVar, run_sizeOf hi, hs, q2, h5], h6, h7⟩
          · cases h
      · cases h
    · cases h
  · cases h
theorem VRel.newPtr {L : Loc} {b : Nat} (hm : m b = some L) (h0 : L.base = 0) : VRel m (AM.ptr b 0) (.pointer (some ⟨L.blk, 0, none⟩)) := by
  have := VRel.ptr (m := m) b 0 L hm
  rw [h0] at this
  exact this
theorem box_sound (R : Rel P B0 w0 m H w) {t : TypeId} {v v' u : Value} {H' : AH} (hv : VRel m v v') (h : box t H v = some (u, H')) :
    ∃ u' m' w', (Instr.box t v').run P w = .ok u' w' ∧ VRel m' u u' ∧ Rel P B0 w0 m' H' w' ∧ Ext m H w m' H' w' := by
  unfold box at h
  split at h
  · rename_i hc
    cases h
    obtain ⟨q1, q2⟩ := hv.cells hc
    have hsz : v'.cells.size = v.cells.toList.length := by have := q1.1; simp at this ⊢; omega
    obtain ⟨h1, h2⟩ := R.make (P := P) v.cells.toList t .fix v'.cells (by decide) (by rw [List.take_of_length_le (by simp; simp at hsz; omega)]; exact q1) (fun _ => hsz)
    exact ⟨_, _, _, by simp [Instr.box, newVar, newRow], VRel.newPtr (upd_same _ _ _) rfl, h1, h2⟩
  · cases h
theorem newV_sound (R : Rel P B0 w0 m H w) {t : TypeId} {u : Value} {H' : AH} (h : newV P t H = some (u, H')) (old : Value) :
    ∃ u' m' w', (Instr.alloc t true old).run P w = .ok u' w' ∧ VRel m' u u' ∧ Rel P B0 w0 m' H' w' ∧ Ext m H w m' H' w' := by
  unfold newV at h
  cases hz : zeroT P t with
  | none => rw [hz] at h; cases h
  | some z =>
    rw [hz] at h
    obtain ⟨i, hi, h1, h2⟩ := zeroT_inv hz
    obtain ⟨u', m', w', h3, h4⟩ := box_sound R (VRel.of_flat h2) h
    refine ⟨u', m', w', ?_, h4⟩
    simp [Instr.box] at h3
    simp [Instr.alloc, run_zeroValue hi h1, h3]
end
end Go.AM
