/-
  Facts of the abstract evaluator and of the functions that the law reaches, part 1. Conditions: none.
-/
import Derived.Test.YteolpiadibbcaaaProg
import Derived.KernelRfl
import Derived.Test.YteolpiadibbcaaaG0NodeKeys
set_option linter.unusedVariables false
set_option linter.unusedSimpArgs false
set_option linter.unnecessarySimpa false
set_option exponentiation.threshold 200000
set_option maxRecDepth 100000
set_option linter.unusedVariables false
set_option maxRecDepth 100000
namespace Go.AM.N
open Go Go.AM Go.Proofs
noncomputable section
def tbs : FuncId → Tbl
  | 4 => [(19, [2, 7, 8, 9]), (20, [2, 6, 7])]
  | 5 => [(34, [1, 2, 7, 8, 9, 10, 11]), (35, [1, 2, 6, 7, 9, 10])]
  | 7 => [(25, [0, 1, 2, 7, 8, 9, 10, 11]), (26, [1, 2, 7, 8, 9, 10]), (52, [1, 2, 7, 8, 9, 12]), (53, [1, 2, 6, 7, 8, 9]), (84, [2, 7, 8])]
  | 9 => [(21, [2, 3, 7]), (34, [2, 3, 7, 8, 9, 10, 12]), (35, [2, 3, 6, 7, 8, 9, 10]), (49, [2, 3, 7, 8, 9, 10, 13]), (50, [3, 6, 7, 8, 9, 10])]
  | 12 => [(33, [1, 4, 5, 6]), (37, [4, 5, 6, 27, 28, 29]), (38, [4])]
  | 13 => [(22, [1, 5, 6]), (23, [5]), (40, [1, 7, 8]), (41, [7])]
  | 15 => [(24, [0, 2, 4, 5, 6, 7]), (25, [0, 2, 4, 5, 6, 7]), (26, [0, 2, 4])]
  | 16 => [(30, [0, 2, 4, 5]), (31, [0, 2, 4, 5]), (32, [0, 2, 3, 4])]
  | 18 => [(12, [1, 3]), (25, [1, 4, 34, 35, 36]), (26, [1, 2])]
  | 20 => [(10, [3, 12, 13, 14]), (11, [3])]
  | 21 => [(10, [1, 3, 4]), (11, [3])]
  | 22 => [(10, [0, 2, 3, 4]), (11, [2, 3])]
  | 24 => [(15, [1, 2, 3, 6, 7, 9]), (24, [1, 2, 3, 6, 7, 9, 10])]
  | 25 => [(18, [1, 2, 4, 5])]
  | 26 => [(13, [1, 3]), (14, [1, 2]), (31, [1, 5]), (32, [2])]
  | 27 => [(10, [1, 2, 3, 6, 7, 8]), (11, [1, 2, 3, 6, 7, 8]), (27, [1, 2, 3, 6, 7, 8, 9, 10])]
  | 28 => [(18, [1, 2, 4, 5])]
  | 29 => [(7, [1, 2, 5]), (8, [1, 2, 5])]
  | 30 => [(21, [1, 2, 4, 6, 7])]
  | 31 => [(18, [3, 5, 6, 8])]
  | 33 => [(21, [3, 5, 6, 8])]
  | 42 => [(13, [2, 3, 5]), (14, [2, 3, 4]), (28, [2, 3, 6]), (29, [4])]
  | 45 => [(7, [1, 2, 6]), (8, [4, 5, 6])]
  | 48 => [(10, [0, 3, 9, 10, 11]), (11, [0, 3]), (34, [6, 25, 26, 27]), (35, [6])]
  | 49 => [(10, [0, 3, 9, 10, 11]), (11, [0, 3]), (34, [6, 25, 26, 27]), (35, [6])]
  | 51 => [(7, [0, 1, 7, 8]), (8, [4])]
  | 52 => [(9, [0, 1]), (18, [0])]
  | 53 => [(9, [0, 1]), (18, [0])]
  | _ => []
noncomputable def gv : Given := fun f => if f = 50 then some (gCopy Try.prog [70]) else none
noncomputable abbrev rn (k : Nat) : CallF := run Try.prog tbs gv k
theorem ranges : rangesB Try.prog tbs = true := by kernel_rfl
abbrev f7_T_L0 (s0 s1 s2 s7 s8 s9 s10 s11 : Value) : List Value := [s0, s1, s2, unk, unk, unk, unk, s7, s8, s9, s10, s11, unk, unk, unk, unk, unk, unk, unk, unk, unk, unk, unk, unk, unk, unk, unk, unk, unk, unk, unk, unk, unk, unk, unk, unk, unk, unk, unk, unk, unk, unk, unk, unk, unk, unk, unk, unk, unk, unk, unk, unk, unk, unk, unk, unk, unk, unk, unk, unk, unk, unk, unk, unk, unk, unk, unk, unk, unk, unk, unk, unk, unk, unk, unk, unk, unk, unk, unk, unk, unk, unk, unk, unk, unk, unk, unk, unk, unk, unk, unk, unk, unk, unk, unk, unk, unk, unk, unk, unk, unk, unk, unk, unk, unk, unk, unk, unk, unk, unk, unk, unk, unk, unk, unk, unk, unk, unk, unk, unk, unk, unk, unk, unk, unk, unk, unk, unk, unk, unk, unk, unk, unk, unk, unk, unk, unk, unk, unk, unk, unk, unk, unk, unk, unk, unk, unk, unk, unk, unk, unk, unk, unk, unk, unk, unk, unk, unk, unk, unk, unk, unk, unk, unk, unk, unk, unk, unk, unk, unk, unk, unk, unk, unk, unk, unk, unk, unk, unk, unk, unk, unk, unk, unk, unk, unk, unk, unk, unk, unk, unk, unk, unk]
abbrev f7_X_L0 (s1 s2 s7 s8 s9 s10 : Value) : List Value := [unk, s1, s2, unk, unk, unk, unk, s7, s8, s9, s10, unk, unk, unk, unk, unk, unk, unk, unk, unk, unk, unk, unk, unk, unk, unk, unk, unk, unk, unk, unk, unk, unk, unk, unk, unk, unk, unk, unk, unk, unk, unk, unk, unk, unk, unk, unk, unk, unk, unk, unk, unk, unk, unk, unk, unk, unk, unk, unk, unk, unk, unk, unk, unk, unk, unk, unk, unk, unk, unk, unk, unk, unk, unk, unk, unk, unk, unk, unk, unk, unk, unk, unk, unk, unk, unk, unk, unk, unk, unk, unk, unk, unk, unk, unk, unk, unk, unk, unk, unk, unk, unk, unk, unk, unk, unk, unk, unk, unk, unk, unk, unk, unk, unk, unk, unk, unk, unk, unk, unk, unk, unk, unk, unk, unk, unk, unk, unk, unk, unk, unk, unk, unk, unk, unk, unk, unk, unk, unk, unk, unk, unk, unk, unk, unk, unk, unk, unk, unk, unk, unk, unk, unk, unk, unk, unk, unk, unk, unk, unk, unk, unk, unk, unk, unk, unk, unk, unk, unk, unk, unk, unk, unk, unk, unk, unk, unk, unk, unk, unk, unk, unk, unk, unk, unk, unk, unk, unk, unk, unk, unk, unk, unk]
abbrev f7_T_L1 (s1 s2 s7 s8 s9 s12 : Value) : List Value := [unk, s1, s2, unk, unk, unk, unk, s7, s8, s9, unk, unk, s12, unk, unk, unk, unk, unk, unk, unk, unk, unk, unk, unk, unk, unk, unk, unk, unk, unk, unk, unk, unk, unk, unk, unk, unk, unk, unk, unk, unk, unk, unk, unk, unk, unk, unk, unk, unk, unk, unk, unk, unk, unk, unk, unk, unk, unk, unk, unk, unk, unk, unk, unk, unk, unk, unk, unk, unk, unk, unk, unk, unk, unk, unk, unk, unk, unk, unk, unk, unk, unk, unk, unk, unk, unk, unk, unk, unk, unk, unk, unk, unk, unk, unk, unk, unk, unk, unk, unk, unk, unk, unk, unk, unk, unk, unk, unk, unk, unk, unk, unk, unk, unk, unk, unk, unk, unk, unk, unk, unk, unk, unk, unk, unk, unk, unk, unk, unk, unk, unk, unk, unk, unk, unk, unk, unk, unk, unk, unk, unk, unk, unk, unk, unk, unk, unk, unk, unk, unk, unk, unk, unk, unk, unk, unk, unk, unk, unk, unk, unk, unk, unk, unk, unk, unk, unk, unk, unk, unk, unk, unk, unk, unk, unk, unk, unk, unk, unk, unk, unk, unk, unk, unk, unk, unk, unk, unk, unk, unk, unk, unk, unk]
abbrev f7_X_L1 (s1 s2 s6 s7 s8 s9 : Value) : List Value := [unk, s1, s2, unk, unk, unk, s6, s7, s8, s9, unk, unk, unk, unk, unk, unk, unk, unk, unk, unk, unk, unk, unk, unk, unk, unk, unk, unk, unk, unk, unk, unk, unk, unk, unk, unk, unk, unk, unk, unk, unk, unk, unk, unk, unk, unk, unk, unk, unk, unk, unk, unk, unk, unk, unk, unk, unk, unk, unk, unk, unk, unk, unk, unk, unk, unk, unk, unk, unk, unk, unk, unk, unk, unk, unk, unk, unk, unk, unk, unk, unk, unk, unk, unk, unk, unk, unk, unk, unk, unk, unk, unk, unk, unk, unk, unk, unk, unk, unk, unk, unk, unk, unk, unk, unk, unk, unk, unk, unk, unk, unk, unk, unk, unk, unk, unk, unk, unk, unk, unk, unk, unk, unk, unk, unk, unk, unk, unk, unk, unk, unk, unk, unk, unk, unk, unk, unk, unk, unk, unk, unk, unk, unk, unk, unk, unk, unk, unk, unk, unk, unk, unk, unk, unk, unk, unk, unk, unk, unk, unk, unk, unk, unk, unk, unk, unk, unk, unk, unk, unk, unk, unk, unk, unk, unk, unk, unk, unk, unk, unk, unk, unk, unk, unk, unk, unk, unk, unk, unk, unk, unk, unk, unk]
abbrev f7_T_J0 (s2 s7 s8 : Value) : List Value := [unk, unk, s2, unk, unk, unk, unk, s7, s8, unk, unk, unk, unk, unk, unk, unk, unk, unk, unk, unk, unk, unk, unk, unk, unk, unk, unk, unk, unk, unk, unk, unk, unk, unk, unk, unk, unk, unk, unk, unk, unk, unk, unk, unk, unk, unk, unk, unk, unk, unk, unk, unk, unk, unk, unk, unk, unk, unk, unk, unk, unk, unk, unk, unk, unk, unk, unk, unk, unk, unk, unk, unk, unk, unk, unk, unk, unk, unk, unk, unk, unk, unk, unk, unk, unk, unk, unk, unk, unk, unk, unk, unk, unk, unk, unk, unk, unk, unk, unk, unk, unk, unk, unk, unk, unk, unk, unk, unk, unk, unk, unk, unk, unk, unk, unk, unk, unk, unk, unk, unk, unk, unk, unk, unk, unk, unk, unk, unk, unk, unk, unk, unk, unk, unk, unk, unk, unk, unk, unk, unk, unk, unk, unk, unk, unk, unk, unk, unk, unk, unk, unk, unk, unk, unk, unk, unk, unk, unk, unk, unk, unk, unk, unk, unk, unk, unk, unk, unk, unk, unk, unk, unk, unk, unk, unk, unk, unk, unk, unk, unk, unk, unk, unk, unk, unk, unk, unk, unk, unk, unk, unk, unk, unk]
@[irreducible] def f7_L0 (k : Nat) (s0 s1 s2 s7 s8 s9 s10 s11 : Value) (n : Nat) (H : AH) : Option Out := iterD (fun T H K => evalK Try.prog (rn k) k (tbs 7) (codeAt (bodyOf Try.f7) [1, 1, 1, 1, 1, 1, 0, 1, 0, 0]) T H K) (cutT (tbs 7) 25) (cutT (tbs 7) 26) n (f7_T_L0 s0 s1 s2 s7 s8 s9 s10 s11) H
@[irreducible] def f7_A0 (k : Nat) (e : EX) (T : List Value) (H : AH) : Option (Value × AH) := resume Try.prog (rn k) k (tbs 7) (bodyOf Try.f7) [1, 1, 1, 1, 1, 1, 0, 1, 0] e T H (resK Try.prog Try.f7.results.toList)
@[irreducible] def f7_L1 (k : Nat) (s1 s2 s7 s8 s9 s12 : Value) (n : Nat) (H : AH) : Option Out := iterD (fun T H K => evalK Try.prog (rn k) k (tbs 7) (codeAt (bodyOf Try.f7) [1, 1, 1, 1, 1, 1, 1, 1, 0, 1, 0, 0]) T H K) (cutT (tbs 7) 52) (cutT (tbs 7) 53) n (f7_T_L1 s1 s2 s7 s8 s9 s12) H
@[irreducible] def f7_A1 (k : Nat) (e : EX) (T : List Value) (H : AH) : Option (Value × AH) := resume Try.prog (rn k) k (tbs 7) (bodyOf Try.f7) [1, 1, 1, 1, 1, 1, 1, 1, 0, 1, 0] e T H (resK Try.prog Try.f7.results.toList)
@[irreducible] def f7_J0 (k : Nat) (s2 s7 s8 : Value) (H : AH) : Option (Value × AH) := resume Try.prog (rn k) k (tbs 7) (bodyOf Try.f7) [1, 1, 1, 1, 1, 1, 1, 1, 1, 1, 1, 1, 0] .normal (f7_T_J0 s2 s7 s8) H (resK Try.prog Try.f7.results.toList)
theorem f7_L0_succ (k : Nat) (s0 s1 s2 s7 s8 s9 s10 s11 : Value) (n : Nat) (H : AH) : f7_L0 k s0 s1 s2 s7 s8 s9 s10 s11 (n + 1) H =
(lenV Try.prog 22 s0).bind fun v7 =>
(bin Try.prog .lss 3 s11 v7).bind fun v8 =>
b2 (gOp v8 true (some (s11, H)) H) fun v9 h9 =>
b2 (gOp v8 true ((bin Try.prog .lss 3 v9 (.int .i64 12)).bind fun v => some (v, h9)) h9) fun v10 h10 =>
(pickV v8 v10 (.bool false)).bind fun v11 =>
aIf v11
 ((ixA Try.prog 22 s0 s11).bind fun v12 =>
 (ld Try.prog 9 h10 v12).bind fun v13 =>
 (lenV Try.prog 9 v13).bind fun v14 =>
 (bin Try.prog .lss 3 v14 (.int .i64 1)).bind fun v15 =>
 b2 (gOp v15 false (some (s0, h10)) h10) fun v16 h16 =>
 b2 (gOp v15 false (some (s11, h16)) h16) fun v17 h17 =>
 b2 (gOp v15 false ((ixA Try.prog 22 v16 v17).bind fun v => some (v, h17)) h17) fun v18 h18 =>
 b2 (gOp v15 false ((ld Try.prog 9 h18 v18).bind fun v => some (v, h18)) h18) fun v19 h19 =>
 b2 (gOp v15 false ((lenV Try.prog 9 v19).bind fun v => some (v, h19)) h19) fun v20 h20 =>
 b2 (gOp v15 false ((bin Try.prog .gtr 3 v20 (.int .i64 16)).bind fun v => some (v, h20)) h20) fun v21 h21 =>
 (pickV v15 (.bool true) v21).bind fun v22 =>
 aIf v22
  ((bin Try.prog .add 3 s11 (.int .i64 1)).bind fun v23 =>
  f7_L0 k s0 s1 s2 s7 s8 s9 s10 v23 n h21)
  ((ixA Try.prog 22 s0 s11).bind fun v24 =>
  (ld Try.prog 9 h21 v24).bind fun v25 =>
  (mpU Try.prog 56 h21 s10 v25 (.bool true)).bind fun h26 =>
  (ixA Try.prog 22 s0 s11).bind fun v27 =>
  (ld Try.prog 9 h26 v27).bind fun v28 =>
  (bin Try.prog .eql 9 v28 s1).bind fun v29 =>
  aIf v29
   ((bin Try.prog .add 3 s11 (.int .i64 2)).bind fun v30 =>
   (bin Try.prog .add 3 s11 (.int .i64 1)).bind fun v31 =>
   f7_L0 k s0 s1 s2 s7 s8 v30 s10 v31 n h26)
   ((bin Try.prog .add 3 s11 (.int .i64 1)).bind fun v32 =>
   f7_L0 k s0 s1 s2 s7 s8 s9 s10 v32 n h26)))
 (some ((.exit 0), (f7_X_L0 s1 s2 s7 s8 s9 s10), h10)) := by kernel_rfl
theorem f7_A0_x0 (k : Nat) (s1 s2 s7 s8 s9 s10 : Value) (H : AH) : f7_A0 k (.exit 0) (f7_X_L0 s1 s2 s7 s8 s9 s10) H =
(fldA Try.prog 25 s8 1).bind fun v33 =>
(ld Try.prog 22 H v33).bind fun v34 =>
(lenV Try.prog 22 v34).bind fun v35 =>
(lenM Try.prog 56 H s10).bind fun v36 =>
(bin Try.prog .neq 3 v35 v36).bind fun v37 =>
b2 (gOp v37 false ((fldA Try.prog 25 s8 2).bind fun v => some (v, H)) H) fun v38 h38 =>
b2 (gOp v37 false ((ld Try.prog 23 h38 v38).bind fun v => some (v, h38)) h38) fun v39 h39 =>
b2 (gOp v37 false ((lenV Try.prog 23 v39).bind fun v => some (v, h39)) h39) fun v40 h40 =>
b2 (gOp v37 false (some (s10, h40)) h40) fun v41 h41 =>
b2 (gOp v37 false ((lenM Try.prog 56 h41 v41).bind fun v => some (v, h41)) h41) fun v42 h42 =>
b2 (gOp v37 false ((bin Try.prog .neq 3 v40 v42).bind fun v => some (v, h42)) h42) fun v43 h43 =>
(pickV v37 (.bool true) v43).bind fun v44 =>
aIf v44
 (some ((.bool false), h43))
 ((f7_L1 k s1 s2 s7 s8 s9 (.int .i64 1) k h43).bind fun p => f7_A1 k p.1 p.2.1 p.2.2) := by kernel_rfl
theorem f7_L1_succ (k : Nat) (s1 s2 s7 s8 s9 s12 : Value) (n : Nat) (H : AH) : f7_L1 k s1 s2 s7 s8 s9 s12 (n + 1) H =
(fldA Try.prog 25 s8 1).bind fun v45 =>
(ld Try.prog 22 H v45).bind fun v46 =>
(lenV Try.prog 22 v46).bind fun v47 =>
(bin Try.prog .lss 3 s12 v47).bind fun v48 =>
aIf v48
 ((fldA Try.prog 25 s8 1).bind fun v49 =>
 (ld Try.prog 22 H v49).bind fun v50 =>
 (bin Try.prog .sub 3 s12 (.int .i64 1)).bind fun v51 =>
 (ixA Try.prog 22 v50 v51).bind fun v52 =>
 (ld Try.prog 9 H v52).bind fun v53 =>
 (fldA Try.prog 25 s8 1).bind fun v54 =>
 (ld Try.prog 22 H v54).bind fun v55 =>
 (ixA Try.prog 22 v55 s12).bind fun v56 =>
 (ld Try.prog 9 H v56).bind fun v57 =>
 (bin Try.prog .geq 9 v53 v57).bind fun v58 =>
 aIf v58
  (some (.ret, (f7_X_L1 s1 s2 (.bool false) s7 s8 s9), H))
  ((bin Try.prog .add 3 s12 (.int .i64 1)).bind fun v59 =>
  f7_L1 k s1 s2 s7 s8 s9 v59 n H))
 (some ((.exit 2), (f7_X_L1 s1 s2 unk s7 s8 s9), H)) := by kernel_rfl
theorem f7_A1_x2 (k : Nat) (s1 s2 s6 s7 s8 s9 : Value) (H : AH) : f7_A1 k (.exit 2) (f7_X_L1 s1 s2 s6 s7 s8 s9) H =
(ld Try.prog 25 H s8).bind fun v60 =>
b2 (rn k 23 [v60, s1] H) fun v61 h61 =>
(bin Try.prog .lss 3 v61 (.int .i64 (-1))).bind fun v62 =>
b2 (gOp v62 false (some (v61, h61)) h61) fun v63 h63 =>
b2 (gOp v62 false ((fldA Try.prog 25 s8 1).bind fun v => some (v, h63)) h63) fun v64 h64 =>
b2 (gOp v62 false ((ld Try.prog 22 h64 v64).bind fun v => some (v, h64)) h64) fun v65 h65 =>
b2 (gOp v62 false ((lenV Try.prog 22 v65).bind fun v => some (v, h65)) h65) fun v66 h66 =>
b2 (gOp v62 false ((bin Try.prog .geq 3 v63 v66).bind fun v => some (v, h66)) h66) fun v67 h67 =>
(pickV v62 (.bool true) v67).bind fun v68 =>
b2 (gOp v68 false (some (v61, h67)) h67) fun v69 h69 =>
b2 (gOp v68 false ((bin Try.prog .geq 3 v69 (.int .i64 0)).bind fun v => some (v, h69)) h69) fun v70 h70 =>
b2 (gOp v68 false (some (v70, h70)) h70) fun v71 h71 =>
b2 (gOp v71 true ((fldA Try.prog 25 s8 1).bind fun v => some (v, h71)) h71) fun v72 h72 =>
b2 (gOp v71 true ((ld Try.prog 22 h72 v72).bind fun v => some (v, h72)) h72) fun v73 h73 =>
b2 (gOp v71 true (some (v61, h73)) h73) fun v74 h74 =>
b2 (gOp v71 true ((ixA Try.prog 22 v73 v74).bind fun v => some (v, h74)) h74) fun v75 h75 =>
b2 (gOp v71 true ((ld Try.prog 9 h75 v75).bind fun v => some (v, h75)) h75) fun v76 h76 =>
b2 (gOp v71 true (some (s1, h76)) h76) fun v77 h77 =>
b2 (gOp v71 true ((bin Try.prog .neq 9 v76 v77).bind fun v => some (v, h77)) h77) fun v78 h78 =>
b2 (gOp v71 true (some (v78, h78)) h78) fun v79 h79 =>
b2 (gOp v79 false ((fldA Try.prog 25 s8 2).bind fun v => some (v, h79)) h79) fun v80 h80 =>
b2 (gOp v79 false ((ld Try.prog 23 h80 v80).bind fun v => some (v, h80)) h80) fun v81 h81 =>
b2 (gOp v79 false (some (v61, h81)) h81) fun v82 h82 =>
b2 (gOp v79 false ((ixA Try.prog 23 v81 v82).bind fun v => some (v, h82)) h82) fun v83 h83 =>
b2 (gOp v79 false ((ld Try.prog 3 h83 v83).bind fun v => some (v, h83)) h83) fun v84 h84 =>
b2 (gOp v79 false (some (s9, h84)) h84) fun v85 h85 =>
b2 (gOp v79 false ((bin Try.prog .neq 3 v84 v85).bind fun v => some (v, h85)) h85) fun v86 h86 =>
b2 (gOp v71 true ((pickV v79 (.bool true) v86).bind fun v => some (v, h86)) h86) fun v87 h87 =>
b2 (gOp v68 false ((pickV v71 v87 (.bool false)).bind fun v => some (v, h87)) h87) fun v88 h88 =>
(pickV v68 (.bool true) v88).bind fun v89 =>
b2 (gOp v89 false (some (v61, h88)) h88) fun v90 h90 =>
b2 (gOp v89 false ((bin Try.prog .lss 3 v90 (.int .i64 0)).bind fun v => some (v, h90)) h90) fun v91 h91 =>
b2 (gOp v89 false (some (v91, h91)) h91) fun v92 h92 =>
b2 (gOp v92 true (some (s9, h92)) h92) fun v93 h93 =>
b2 (gOp v92 true ((bin Try.prog .geq 3 v93 (.int .i64 0)).bind fun v => some (v, h93)) h93) fun v94 h94 =>
b2 (gOp v89 false ((pickV v92 v94 (.bool false)).bind fun v => some (v, h94)) h94) fun v95 h95 =>
(pickV v89 (.bool true) v95).bind fun v96 =>
aIf v96
 (some ((.bool false), h95))
 ((fldA Try.prog 25 s8 1).bind fun v97 =>
 (ld Try.prog 22 h95 v97).bind fun v98 =>
 (lenV Try.prog 22 v98).bind fun v99 =>
 (bin Try.prog .eql 3 v99 (.int .i64 0)).bind fun v100 =>
 aIf v100
  (some (s7, h95))
  ((bin Try.prog .lss 3 s2 (.int .i64 0)).bind fun v101 =>
  aIf v101
   ((bin Try.prog .add 3 s2 (.int .i64 1)).bind fun v102 =>
   (un Try.prog .neg v102).bind fun v103 =>
   f7_J0 k v103 s7 s8 h95)
   (f7_J0 k s2 s7 s8 h95))) := by kernel_rfl
theorem f7_J0_eq (k : Nat) (s2 s7 s8 : Value) (H : AH) : f7_J0 k s2 s7 s8 H =
(fldA Try.prog 25 s8 1).bind fun v104 =>
(ld Try.prog 22 H v104).bind fun v105 =>
(lenV Try.prog 22 v105).bind fun v106 =>
(bin Try.prog .rem 3 s2 v106).bind fun v107 =>
(ld Try.prog 25 H s8).bind fun v108 =>
b2 (rn k 25 [v108, v107] H) fun v109 h109 =>
b2 (newV Try.prog 25 h109) fun v110 h110 =>
(st Try.prog 25 h110 v110 v109).bind fun h111 =>
(ld Try.prog 25 h111 v110).bind fun v112 =>
(fldA Try.prog 25 s8 1).bind fun v113 =>
(ld Try.prog 22 h111 v113).bind fun v114 =>
(ixA Try.prog 22 v114 v107).bind fun v115 =>
(ld Try.prog 9 h111 v115).bind fun v116 =>
b2 (rn k 23 [v112, v116] h111) fun v117 h117 =>
(bin Try.prog .eql 3 v117 (.int .i64 (-1))).bind fun v118 =>
(ld Try.prog 25 h117 v110).bind fun v119 =>
(fldA Try.prog 25 s8 1).bind fun v120 =>
(ld Try.prog 22 h117 v120).bind fun v121 =>
(ixA Try.prog 22 v121 v107).bind fun v122 =>
(ld Try.prog 9 h117 v122).bind fun v123 =>
(fldA Try.prog 25 s8 2).bind fun v124 =>
(ld Try.prog 23 h117 v124).bind fun v125 =>
(ixA Try.prog 23 v125 v107).bind fun v126 =>
(ld Try.prog 3 h117 v126).bind fun v127 =>
b2 (rn k 24 [v119, v123, v127] h117) fun v128 h128 =>
(ld Try.prog 25 h128 s8).bind fun v129 =>
aChk (ld Try.prog 25 h117 s8 = some v129) <|
b2 (rn k 14 [v129] h128) fun v130 h130 =>
b2 (rn k 17 [v128, v130] h130) fun v131 h131 =>
b2 (gOp s7 true (some (v118, h131)) h131) fun v132 h132 =>
(pickV s7 v132 (.bool false)).bind fun v133 =>
b2 (gOp v133 true (some (v131, h132)) h132) fun v134 h134 =>
(pickV v133 v134 (.bool false)).bind fun v135 =>
b2 (gOp v135 true ((fldA Try.prog 25 v110 1).bind fun v => some (v, h134)) h134) fun v136 h136 =>
b2 (gOp v135 true ((ld Try.prog 22 h136 v136).bind fun v => some (v, h136)) h136) fun v137 h137 =>
b2 (gOp v135 true ((lenV Try.prog 22 v137).bind fun v => some (v, h137)) h137) fun v138 h138 =>
b2 (gOp v135 true ((fldA Try.prog 25 s8 1).bind fun v => some (v, h138)) h138) fun v139 h139 =>
b2 (gOp v135 true ((ld Try.prog 22 h139 v139).bind fun v => some (v, h139)) h139) fun v140 h140 =>
b2 (gOp v135 true ((lenV Try.prog 22 v140).bind fun v => some (v, h140)) h140) fun v141 h141 =>
b2 (gOp v135 true ((bin Try.prog .sub 3 v141 (.int .i64 1)).bind fun v => some (v, h141)) h141) fun v142 h142 =>
b2 (gOp v135 true ((bin Try.prog .eql 3 v138 v142).bind fun v => some (v, h142)) h142) fun v143 h143 =>
(pickV v135 v143 (.bool false)).bind fun v144 =>
some (v144, h143) := by kernel_rfl
theorem f7_eq (k : Nat) (a0 a1 a2 : Value) (H : AH) : rn (k + 1) 7 [a0, a1, a2] H =
b2 (rn k 10 [] H) fun v1 h1 =>
(un Try.prog .not v1).bind fun v2 =>
aIf v2
 (some ((.bool false), h1))
 (b2 (rn k 22 [a0] h1) fun v3 h3 =>
 b2 (newV Try.prog 25 h3) fun v4 h4 =>
 (st Try.prog 25 h4 v4 v3).bind fun h5 =>
 b2 (mkM 56 h5) fun v6 h6 =>
 (f7_L0 k a0 a1 a2 v1 v4 (.int .i64 (-1)) v6 (.int .i64 0) k h6).bind fun p => f7_A0 k p.1 p.2.1 p.2.2) := by kernel_rfl
theorem f10_eq (k : Nat) (H : AH) : rn (k + 1) 10 [] H =
b2 (buildS Try.prog 22 H 1 [(0, (.string ⟨#[97, 98, 99]⟩))]) fun v1 h1 =>
b2 (buildS Try.prog 23 h1 1 [(0, (.int .i64 5))]) fun v2 h2 =>
(build Try.prog 25 [(0, (.bool true)), (1, v1), (2, v2)]).bind fun v3 =>
b2 (newV Try.prog 25 h2) fun v4 h4 =>
(st Try.prog 25 h4 v4 v3).bind fun h5 =>
(ld Try.prog 25 h5 v4).bind fun v6 =>
b2 (rn k 12 [v6] h5) fun v7 h7 =>
(ext v7 0).bind fun v8 =>
(ext v7 1).bind fun v9 =>
b2 (rn k 15 [v8] h7) fun v10 h10 =>
(ext v10 0).bind fun v11 =>
(ext v10 1).bind fun v12 =>
b2 (newV Try.prog 25 h10) fun v13 h13 =>
(st Try.prog 25 h13 v13 v11).bind fun h14 =>
(ld Try.prog 25 h14 v13).bind fun v15 =>
(ld Try.prog 25 h14 v4).bind fun v16 =>
b2 (rn k 14 [v16] h14) fun v17 h17 =>
aChk (ld Try.prog 25 h17 v13 = some v15) <|
b2 (rn k 17 [v15, v17] h17) fun v18 h18 =>
(ld Try.prog 25 h18 v4).bind fun v19 =>
b2 (rn k 20 [v19] h18) fun v20 h20 =>
(bin Try.prog .eql 3 v20 (.int .i64 7)).bind fun v21 =>
b2 (gOp v21 true (some (v8, h20)) h20) fun v22 h22 =>
b2 (gOp v21 true ((bin Try.prog .eql 9 v22 (.string ⟨#[1, 3, 97, 98, 99, 0, 5]⟩)).bind fun v => some (v, h22)) h22) fun v23 h23 =>
(pickV v21 v23 (.bool false)).bind fun v24 =>
b2 (gOp v24 true (some (v9, h23)) h23) fun v25 h25 =>
b2 (gOp v24 true ((bin Try.prog .eql 28 v25 (.int .i64 0)).bind fun v => some (v, h25)) h25) fun v26 h26 =>
(pickV v24 v26 (.bool false)).bind fun v27 =>
b2 (gOp v27 true (some (v18, h26)) h26) fun v28 h28 =>
(pickV v27 v28 (.bool false)).bind fun v29 =>
b2 (gOp v29 true (some (v12, h28)) h28) fun v30 h30 =>
b2 (gOp v29 true ((bin Try.prog .eql 28 v30 (.int .i64 0)).bind fun v => some (v, h30)) h30) fun v31 h31 =>
(pickV v29 v31 (.bool false)).bind fun v32 =>
b2 (gOp v32 true ((ld Try.prog 25 h31 v4).bind fun v => some (v, h31)) h31) fun v33 h33 =>
b2 (gOp v32 true (b2 (rn k 23 [v33, (.string ⟨#[97, 98, 99]⟩)] h33) fun v h => some (v, h)) h33) fun v34 h34 =>
b2 (gOp v32 true ((bin Try.prog .eql 3 v34 (.int .i64 0)).bind fun v => some (v, h34)) h34) fun v35 h35 =>
(pickV v32 v35 (.bool false)).bind fun v36 =>
b2 (gOp v36 true ((ld Try.prog 25 h35 v4).bind fun v => some (v, h35)) h35) fun v37 h37 =>
b2 (gOp v36 true (b2 (rn k 23 [v37, (.string ⟨#[98]⟩)] h37) fun v h => some (v, h)) h37) fun v38 h38 =>
b2 (gOp v36 true ((bin Try.prog .eql 3 v38 (.int .i64 (-1))).bind fun v => some (v, h38)) h38) fun v39 h39 =>
(pickV v36 v39 (.bool false)).bind fun v40 =>
some (v40, h39) := by kernel_rfl
abbrev f12_T_J0 (s1 s4 s5 s6 : Value) : List Value := [unk, s1, unk, unk, s4, s5, s6, unk, unk, unk, unk, unk, unk, unk, unk, unk, unk, unk, unk, unk, unk, unk, unk, unk, unk, unk, unk, unk, unk, unk, unk, unk, unk, unk, unk, unk, unk, unk, unk, unk, unk, unk, unk, unk, unk, unk, unk, unk]
abbrev f12_T_L0 (s4 s5 s6 s27 s28 s29 : Value) : List Value := [unk, unk, unk, unk, s4, s5, s6, unk, unk, unk, unk, unk, unk, unk, unk, unk, unk, unk, unk, unk, unk, unk, unk, unk, unk, unk, unk, s27, s28, s29, unk, unk, unk, unk, unk, unk, unk, unk, unk, unk, unk, unk, unk, unk, unk, unk, unk, unk]
abbrev f12_X_L0 (s4 : Value) : List Value := [unk, unk, unk, unk, s4, unk, unk, unk, unk, unk, unk, unk, unk, unk, unk, unk, unk, unk, unk, unk, unk, unk, unk, unk, unk, unk, unk, unk, unk, unk, unk, unk, unk, unk, unk, unk, unk, unk, unk, unk, unk, unk, unk, unk, unk, unk, unk, unk]
@[irreducible] def f12_J0 (k : Nat) (s1 s4 s5 s6 : Value) (H : AH) : Option (Value × AH) := resume Try.prog (rn k) k (tbs 12) (bodyOf Try.f12) [1, 1, 1, 1, 1, 0] .normal (f12_T_J0 s1 s4 s5 s6) H (resK Try.prog Try.f12.results.toList)
@[irreducible] def f12_L0 (k : Nat) (s4 s5 s6 s27 s28 s29 : Value) (n : Nat) (H : AH) : Option Out := iterD (fun T H K => evalK Try.prog (rn k) k (tbs 12) (codeAt (bodyOf Try.f12) [1, 1, 1, 1, 1, 1, 0, 1, 0, 0]) T H K) (cutT (tbs 12) 37) (cutT (tbs 12) 38) n (f12_T_L0 s4 s5 s6 s27 s28 s29) H
@[irreducible] def f12_A0 (k : Nat) (e : EX) (T : List Value) (H : AH) : Option (Value × AH) := resume Try.prog (rn k) k (tbs 12) (bodyOf Try.f12) [1, 1, 1, 1, 1, 1, 0, 1, 0] e T H (resK Try.prog Try.f12.results.toList)
theorem f12_J0_eq (k : Nat) (s1 s4 s5 s6 : Value) (H : AH) : f12_J0 k s1 s4 s5 s6 H =
(fldA Try.prog 25 s1 1).bind fun v16 =>
(ld Try.prog 22 H v16).bind fun v17 =>
(lenV Try.prog 22 v17).bind fun v18 =>
(f12_L0 k s4 s5 s6 v17 v18 (.int .i64 0) k H).bind fun p => f12_A0 k p.1 p.2.1 p.2.2 := by kernel_rfl
theorem f12_L0_succ (k : Nat) (s4 s5 s6 s27 s28 s29 : Value) (n : Nat) (H : AH) : f12_L0 k s4 s5 s6 s27 s28 s29 (n + 1) H =
(bin Try.prog .lss 3 s29 s28).bind fun v19 =>
aIf v19
 ((ixA Try.prog 22 s27 s29).bind fun v20 =>
 (ld Try.prog 9 H v20).bind fun v21 =>
 (lenV Try.prog 9 v21).bind fun v22 =>
 (cv Try.prog 3 5 v22).bind fun v23 =>
 b2 (rn k 35 [s4, v23] H) fun v24 h24 =>
 b2 (rn k 36 [s4, v21] h24) fun v25 h25 =>
 (ixA Try.prog 23 s6 s29).bind fun v26 =>
 (ld Try.prog 3 h25 v26).bind fun v27 =>
 b2 (callY (rn k) s5 [v27] h25) fun v28 h28 =>
 (bin Try.prog .add 3 s29 (.int .i64 1)).bind fun v29 =>
 f12_L0 k s4 s5 s6 s27 s28 v29 n h28)
 (some ((.exit 0), (f12_X_L0 s4), H)) := by kernel_rfl
theorem f12_A0_x0 (k : Nat) (s4 : Value) (H : AH) : f12_A0 k (.exit 0) (f12_X_L0 s4) H =
b2 (rn k 37 [s4] H) fun v30 h30 =>
some ((.tuple #[v30, (.int .i64 0)]), h30) := by kernel_rfl
theorem f12_eq (k : Nat) (a0 : Value) (H : AH) : rn (k + 1) 12 [a0] H =
b2 (box 25 H a0) fun v1 h1 =>
(ld Try.prog 25 h1 v1).bind fun v2 =>
b2 (rn k 18 [v2] h1) fun v3 h3 =>
(un Try.prog .not v3).bind fun v4 =>
aIf v4
 (some ((.tuple #[(.string ⟨#[]⟩), (.int .i64 1)]), h3))
 (b2 (newV Try.prog 70 h3) fun v5 h5 =>
 (fldA Try.prog 25 v1 2).bind fun v6 =>
 (ld Try.prog 23 h5 v6).bind fun v7 =>
 (fldA Try.prog 25 v1 0).bind fun v8 =>
 (ld Try.prog 4 h5 v8).bind fun v9 =>
 aIf v9
  (b2 (rn k 35 [v5, (.int .u8 1)] h5) fun v10 h10 =>
  f12_J0 k v1 v5 (.func (.func 34) #[] #[v5]) v7 h10)
  (b2 (rn k 35 [v5, (.int .u8 0)] h5) fun v11 h11 =>
  (ixA Try.prog 23 v7 (.int .i64 0)).bind fun v12 =>
  (ld Try.prog 3 h11 v12).bind fun v13 =>
  b2 (rn k 34 [v13, v5] h11) fun v14 h14 =>
  (slc Try.prog 23 v7 (some (.int .i64 1)) none).bind fun v15 =>
  f12_J0 k v1 v5 (.func (.func 34) #[] #[v5]) v15 h14)) := by kernel_rfl
theorem f14_eq (k : Nat) (a0 : Value) (H : AH) : rn (k + 1) 14 [a0] H =
b2 (box 25 H a0) fun v1 h1 =>
b2 (newV Try.prog 33 h1) fun v2 h2 =>
(fldA Try.prog 25 v1 0).bind fun v3 =>
(ld Try.prog 4 h2 v3).bind fun v4 =>
(fldA Try.prog 25 v1 1).bind fun v5 =>
(ld Try.prog 22 h2 v5).bind fun v6 =>
(fldA Try.prog 25 v1 2).bind fun v7 =>
(ld Try.prog 23 h2 v7).bind fun v8 =>
(build Try.prog 33 [(0, v4), (1, v6), (2, v8)]).bind fun v9 =>
(st Try.prog 33 h2 v2 v9).bind fun h10 =>
((ld Try.prog 33 h10 v2).bind fun v11 => some (v11 :: [])).bind fun vs => some (oneOf vs, h10) := by kernel_rfl
abbrev f15_T_J0 (s0 s2 s4 s5 s6 s7 : Value) : List Value := [s0, unk, s2, unk, s4, s5, s6, s7, unk, unk, unk, unk, unk, unk, unk, unk, unk, unk, unk, unk, unk, unk, unk, unk, unk, unk, unk, unk, unk, unk, unk, unk, unk, unk, unk, unk, unk, unk, unk, unk, unk, unk, unk, unk, unk, unk, unk, unk, unk, unk, unk, unk, unk]
abbrev f15_T_L0 (s0 s2 s4 s5 s6 s7 : Value) : List Value := [s0, unk, s2, unk, s4, s5, s6, s7, unk, unk, unk, unk, unk, unk, unk, unk, unk, unk, unk, unk, unk, unk, unk, unk, unk, unk, unk, unk, unk, unk, unk, unk, unk, unk, unk, unk, unk, unk, unk, unk, unk, unk, unk, unk, unk, unk, unk, unk, unk, unk, unk, unk, unk]
abbrev f15_X_L0 (s0 s2 s4 : Value) : List Value := [s0, unk, s2, unk, s4, unk, unk, unk, unk, unk, unk, unk, unk, unk, unk, unk, unk, unk, unk, unk, unk, unk, unk, unk, unk, unk, unk, unk, unk, unk, unk, unk, unk, unk, unk, unk, unk, unk, unk, unk, unk, unk, unk, unk, unk, unk, unk, unk, unk, unk, unk, unk, unk]
@[irreducible] def f15_J0 (k : Nat) (s0 s2 s4 s5 s6 s7 : Value) (H : AH) : Option (Value × AH) := resume Try.prog (rn k) k (tbs 15) (bodyOf Try.f15) [1, 1, 1, 1, 1, 0] .normal (f15_T_J0 s0 s2 s4 s5 s6 s7) H (resK Try.prog Try.f15.results.toList)
@[irreducible] def f15_L0 (k : Nat) (s0 s2 s4 s5 s6 s7 : Value) (n : Nat) (H : AH) : Option Out := iterD (fun T H K => evalK Try.prog (rn k) k (tbs 15) (codeAt (bodyOf Try.f15) [1, 1, 1, 1, 1, 1, 0, 0, 0]) T H K) (cutT (tbs 15) 25) (cutT (tbs 15) 26) n (f15_T_L0 s0 s2 s4 s5 s6 s7) H
@[irreducible] def f15_A0 (k : Nat) (e : EX) (T : List Value) (H : AH) : Option (Value × AH) := resume Try.prog (rn k) k (tbs 15) (bodyOf Try.f15) [1, 1, 1, 1, 1, 1, 0, 0] e T H (resK Try.prog Try.f15.results.toList)
theorem f15_J0_eq (k : Nat) (s0 s2 s4 s5 s6 s7 : Value) (H : AH) : f15_J0 k s0 s2 s4 s5 s6 s7 H =
(f15_L0 k s0 s2 s4 s5 s6 s7 k H).bind fun p => f15_A0 k p.1 p.2.1 p.2.2 := by kernel_rfl
theorem f15_L0_succ (k : Nat) (s0 s2 s4 s5 s6 s7 : Value) (n : Nat) (H : AH) : f15_L0 k s0 s2 s4 s5 s6 s7 (n + 1) H =
(ld Try.prog 9 H s5).bind fun v16 =>
(bin Try.prog .neq 9 v16 (.string ⟨#[]⟩)).bind fun v17 =>
aIf v17
 ((ld Try.prog 80 H s6).bind fun v18 =>
 b2 (callY (rn k) v18 [(.int .i64 1)] H) fun v19 h19 =>
 (fldA Try.prog 25 s4 1).bind fun v20 =>
 (ld Try.prog 22 h19 v20).bind fun v21 =>
 (ld Try.prog 80 h19 s6).bind fun v22 =>
 (ix Try.prog 9 v19 (.int .i64 0)).bind fun v23 =>
 (cv Try.prog 5 3 v23).bind fun v24 =>
 b2 (callV (rn k) v22 [v24] h19) fun v25 h25 =>
 aChk (ld Try.prog 22 h25 v20 = some v21) <|
 b2 (buildS Try.prog 22 h25 1 [(0, v25)]) fun v26 h26 =>
 b2 (ap Try.prog 22 22 h26 v21 v26) fun v27 h27 =>
 (fldA Try.prog 25 s4 1).bind fun v28 =>
 (st Try.prog 22 h27 v28 v27).bind fun h29 =>
 b2 (callY (rn k) s7 [] h29) fun v30 h30 =>
 f15_L0 k s0 s2 s4 s5 s6 s7 n h30)
 (some ((.exit 0), (f15_X_L0 s0 s2 s4), H)) := by kernel_rfl
theorem f15_A0_x0 (k : Nat) (s0 s2 s4 : Value) (H : AH) : f15_A0 k (.exit 0) (f15_X_L0 s0 s2 s4) H =
(ld Try.prog 25 H s4).bind fun v31 =>
b2 (rn k 12 [v31] H) fun v32 h32 =>
(ext v32 0).bind fun v33 =>
(ext v32 1).bind fun v34 =>
(bin Try.prog .neq 28 v34 (.int .i64 0)).bind fun v35 =>
b2 (gOp v35 false (some (v33, h32)) h32) fun v36 h36 =>
b2 (gOp v35 false (some (s0, h36)) h36) fun v37 h37 =>
b2 (gOp v35 false ((bin Try.prog .neq 9 v36 v37).bind fun v => some (v, h37)) h37) fun v38 h38 =>
(pickV v35 (.bool true) v38).bind fun v39 =>
aIf v39
 ((build Try.prog 25 []).bind fun v40 =>
 (st Try.prog 25 h38 s2 v40).bind fun h41 =>
 ((ld Try.prog 25 h41 s2).bind fun v42 => some (v42 :: ((.int .i64 2) :: []))).bind fun vs => some (oneOf vs, h41))
 ((ld Try.prog 25 h38 s4).bind fun v43 =>
 (st Try.prog 25 h38 s2 v43).bind fun h44 =>
 ((ld Try.prog 25 h44 s2).bind fun v45 => some (v45 :: ((.int .i64 0) :: []))).bind fun vs => some (oneOf vs, h44)) := by kernel_rfl
theorem f15_eq (k : Nat) (a0 : Value) (H : AH) : rn (k + 1) 15 [a0] H =
b2 (newV Try.prog 25 H) fun v1 h1 =>
b2 (newV Try.prog 25 h1) fun v2 h2 =>
b2 (newV Try.prog 9 h2) fun v3 h3 =>
(st Try.prog 9 h3 v3 a0).bind fun h4 =>
b2 (newV Try.prog 80 h4) fun v5 h5 =>
(st Try.prog 80 h5 v5 (.func (.func 40) #[] #[v3])).bind fun h6 =>
(ld Try.prog 80 h6 v5).bind fun v7 =>
b2 (callY (rn k) v7 [(.int .i64 1)] h6) fun v8 h8 =>
(bin Try.prog .eql 9 v8 (.string ⟨#[1]⟩)).bind fun v9 =>
(fldA Try.prog 25 v2 0).bind fun v10 =>
(st Try.prog 4 h8 v10 v9).bind fun h11 =>
(fldA Try.prog 25 v2 0).bind fun v12 =>
(ld Try.prog 4 h11 v12).bind fun v13 =>
(un Try.prog .not v13).bind fun v14 =>
aIf v14
 (b2 (rn k 41 [v5, v2] h11) fun v15 h15 =>
 f15_J0 k a0 v1 v2 v3 v5 (.func (.func 41) #[] #[v5, v2]) h15)
 (f15_J0 k a0 v1 v2 v3 v5 (.func (.func 41) #[] #[v5, v2]) h11) := by kernel_rfl
theorem f17_eq (k : Nat) (a0 a1 : Value) (H : AH) : rn (k + 1) 17 [a0, a1] H =
b2 (box 25 H a0) fun v1 h1 =>
b2 (box 33 h1 a1) fun v2 h2 =>
(fldA Try.prog 25 v1 0).bind fun v3 =>
(ld Try.prog 4 h2 v3).bind fun v4 =>
(fldA Try.prog 25 v1 1).bind fun v5 =>
(ld Try.prog 22 h2 v5).bind fun v6 =>
(fldA Try.prog 25 v1 2).bind fun v7 =>
(ld Try.prog 23 h2 v7).bind fun v8 =>
(build Try.prog 33 [(0, v4), (1, v6), (2, v8)]).bind fun v9 =>
(ld Try.prog 33 h2 v2).bind fun v10 =>
b2 (rn k 42 [v9, v10] h2) fun v11 h11 =>
some (v11, h11) := by kernel_rfl
abbrev f18_T_J0 (s1 s3 : Value) : List Value := [unk, s1, unk, s3, unk, unk, unk, unk, unk, unk, unk, unk, unk, unk, unk, unk, unk, unk, unk, unk, unk, unk, unk, unk, unk, unk, unk, unk, unk, unk, unk, unk, unk, unk, unk, unk, unk, unk, unk, unk, unk, unk, unk, unk, unk, unk, unk, unk, unk, unk, unk, unk, unk, unk]
abbrev f18_T_L0 (s1 s4 s34 s35 s36 : Value) : List Value := [unk, s1, unk, unk, s4, unk, unk, unk, unk, unk, unk, unk, unk, unk, unk, unk, unk, unk, unk, unk, unk, unk, unk, unk, unk, unk, unk, unk, unk, unk, unk, unk, unk, unk, s34, s35, s36, unk, unk, unk, unk, unk, unk, unk, unk, unk, unk, unk, unk, unk, unk, unk, unk, unk]
abbrev f18_X_L0 (s1 s2 : Value) : List Value := [unk, s1, s2, unk, unk, unk, unk, unk, unk, unk, unk, unk, unk, unk, unk, unk, unk, unk, unk, unk, unk, unk, unk, unk, unk, unk, unk, unk, unk, unk, unk, unk, unk, unk, unk, unk, unk, unk, unk, unk, unk, unk, unk, unk, unk, unk, unk, unk, unk, unk, unk, unk, unk, unk]
@[irreducible] def f18_J0 (k : Nat) (s1 s3 : Value) (H : AH) : Option (Value × AH) := resume Try.prog (rn k) k (tbs 18) (bodyOf Try.f18) [1, 1, 0] .normal (f18_T_J0 s1 s3) H (resK Try.prog Try.f18.results.toList)
@[irreducible] def f18_L0 (k : Nat) (s1 s4 s34 s35 s36 : Value) (n : Nat) (H : AH) : Option Out := iterD (fun T H K => evalK Try.prog (rn k) k (tbs 18) (codeAt (bodyOf Try.f18) [1, 1, 1, 1, 1, 0, 1, 0, 0]) T H K) (cutT (tbs 18) 25) (cutT (tbs 18) 26) n (f18_T_L0 s1 s4 s34 s35 s36) H
@[irreducible] def f18_A0 (k : Nat) (e : EX) (T : List Value) (H : AH) : Option (Value × AH) := resume Try.prog (rn k) k (tbs 18) (bodyOf Try.f18) [1, 1, 1, 1, 1, 0, 1, 0] e T H (resK Try.prog Try.f18.results.toList)
theorem f18_J0_eq (k : Nat) (s1 s3 : Value) (H : AH) : f18_J0 k s1 s3 H =
(fldA Try.prog 25 s1 2).bind fun v9 =>
(ld Try.prog 23 H v9).bind fun v10 =>
(lenV Try.prog 23 v10).bind fun v11 =>
(bin Try.prog .neq 3 v11 s3).bind fun v12 =>
b2 (gOp v12 false ((fldA Try.prog 25 s1 0).bind fun v => some (v, H)) H) fun v13 h13 =>
b2 (gOp v12 false ((ld Try.prog 4 h13 v13).bind fun v => some (v, h13)) h13) fun v14 h14 =>
b2 (gOp v12 false (some (v14, h14)) h14) fun v15 h15 =>
b2 (gOp v15 true (some (s3, h15)) h15) fun v16 h16 =>
b2 (gOp v15 true ((bin Try.prog .eql 3 v16 (.int .i64 0)).bind fun v => some (v, h16)) h16) fun v17 h17 =>
b2 (gOp v12 false ((pickV v15 v17 (.bool false)).bind fun v => some (v, h17)) h17) fun v18 h18 =>
(pickV v12 (.bool true) v18).bind fun v19 =>
b2 (gOp v19 false ((ld Try.prog 25 h18 s1).bind fun v => some (v, h18)) h18) fun v20 h20 =>
b2 (gOp v19 false (b2 (rn k 20 [v20] h20) fun v h => some (v, h)) h20) fun v21 h21 =>
b2 (gOp v19 false ((bin Try.prog .gtr 3 v21 (.int .i64 120)).bind fun v => some (v, h21)) h21) fun v22 h22 =>
(pickV v19 (.bool true) v22).bind fun v23 =>
aIf v23
 (some ((.bool false), h22))
 ((fldA Try.prog 25 s1 1).bind fun v24 =>
 (ld Try.prog 22 h22 v24).bind fun v25 =>
 (lenV Try.prog 22 v25).bind fun v26 =>
 (f18_L0 k s1 (.string ⟨#[]⟩) v25 v26 (.int .i64 0) k h22).bind fun p => f18_A0 k p.1 p.2.1 p.2.2) := by kernel_rfl
theorem f18_L0_succ (k : Nat) (s1 s4 s34 s35 s36 : Value) (n : Nat) (H : AH) : f18_L0 k s1 s4 s34 s35 s36 (n + 1) H =
(bin Try.prog .lss 3 s36 s35).bind fun v27 =>
aIf v27
 ((ixA Try.prog 22 s34 s36).bind fun v28 =>
 (ld Try.prog 9 H v28).bind fun v29 =>
 (bin Try.prog .leq 9 v29 s4).bind fun v30 =>
 b2 (gOp v30 false (some (v29, H)) H) fun v31 h31 =>
 b2 (gOp v30 false ((lenV Try.prog 9 v31).bind fun v => some (v, h31)) h31) fun v32 h32 =>
 b2 (gOp v30 false ((bin Try.prog .gtr 3 v32 (.int .i64 16)).bind fun v => some (v, h32)) h32) fun v33 h33 =>
 (pickV v30 (.bool true) v33).bind fun v34 =>
 aIf v34
  (some (.ret, (f18_X_L0 s1 (.bool false)), h33))
  ((bin Try.prog .add 3 s36 (.int .i64 1)).bind fun v35 =>
  f18_L0 k s1 v29 s34 s35 v35 n h33))
 (some ((.exit 0), (f18_X_L0 s1 unk), H)) := by kernel_rfl
theorem f18_A0_x0 (k : Nat) (s1 s2 : Value) (H : AH) : f18_A0 k (.exit 0) (f18_X_L0 s1 s2) H =
(fldA Try.prog 25 s1 2).bind fun v36 =>
(ld Try.prog 23 H v36).bind fun v37 =>
b2 (rn k 43 [v37, (.func (.func 44) #[] #[])] H) fun v38 h38 =>
(un Try.prog .not v38).bind fun v39 =>
some (v39, h38) := by kernel_rfl
theorem f18_A0_ret (k : Nat) (s1 s2 : Value) (H : AH) : f18_A0 k .ret (f18_X_L0 s1 s2) H =
some (s2, H) := by kernel_rfl
theorem f18_eq (k : Nat) (a0 : Value) (H : AH) : rn (k + 1) 18 [a0] H =
b2 (box 25 H a0) fun v1 h1 =>
(fldA Try.prog 25 v1 1).bind fun v2 =>
(ld Try.prog 22 h1 v2).bind fun v3 =>
(lenV Try.prog 22 v3).bind fun v4 =>
(fldA Try.prog 25 v1 0).bind fun v5 =>
(ld Try.prog 4 h1 v5).bind fun v6 =>
(un Try.prog .not v6).bind fun v7 =>
aIf v7
 ((bin Try.prog .add 3 v4 (.int .i64 1)).bind fun v8 =>
 f18_J0 k v1 v8 h1)
 (f18_J0 k v1 v4 h1) := by kernel_rfl
abbrev f20_T_L0 (s3 s12 s13 s14 : Value) : List Value := [unk, unk, unk, s3, unk, unk, unk, unk, unk, unk, unk, unk, s12, s13, s14, unk, unk, unk, unk, unk, unk, unk, unk, unk, unk]
abbrev f20_X_L0 (s3 : Value) : List Value := [unk, unk, unk, s3, unk, unk, unk, unk, unk, unk, unk, unk, unk, unk, unk, unk, unk, unk, unk, unk, unk, unk, unk, unk, unk]
@[irreducible] def f20_L0 (k : Nat) (s3 s12 s13 s14 : Value) (n : Nat) (H : AH) : Option Out := iterD (fun T H K => evalK Try.prog (rn k) k (tbs 20) (codeAt (bodyOf Try.f20) [1, 1, 0, 1, 0, 0]) T H K) (cutT (tbs 20) 10) (cutT (tbs 20) 11) n (f20_T_L0 s3 s12 s13 s14) H
@[irreducible] def f20_A0 (k : Nat) (e : EX) (T : List Value) (H : AH) : Option (Value × AH) := resume Try.prog (rn k) k (tbs 20) (bodyOf Try.f20) [1, 1, 0, 1, 0] e T H (resK Try.prog Try.f20.results.toList)
theorem f20_L0_succ (k : Nat) (s3 s12 s13 s14 : Value) (n : Nat) (H : AH) : f20_L0 k s3 s12 s13 s14 (n + 1) H =
(bin Try.prog .lss 3 s14 s13).bind fun v10 =>
aIf v10
 ((ixA Try.prog 22 s12 s14).bind fun v11 =>
 (ld Try.prog 9 H v11).bind fun v12 =>
 (lenV Try.prog 9 v12).bind fun v13 =>
 (bin Try.prog .add 3 (.int .i64 1) v13).bind fun v14 =>
 (bin Try.prog .add 3 s3 v14).bind fun v15 =>
 (bin Try.prog .add 3 s14 (.int .i64 1)).bind fun v16 =>
 f20_L0 k v15 s12 s13 v16 n H)
 (some ((.exit 0), (f20_X_L0 s3), H)) := by kernel_rfl
theorem f20_A0_x0 (k : Nat) (s3 : Value) (H : AH) : f20_A0 k (.exit 0) (f20_X_L0 s3) H =
some (s3, H) := by kernel_rfl
theorem f20_eq (k : Nat) (a0 : Value) (H : AH) : rn (k + 1) 20 [a0] H =
b2 (box 25 H a0) fun v1 h1 =>
(fldA Try.prog 25 v1 2).bind fun v2 =>
(ld Try.prog 23 h1 v2).bind fun v3 =>
(lenV Try.prog 23 v3).bind fun v4 =>
(bin Try.prog .mul 3 (.int .i64 2) v4).bind fun v5 =>
(bin Try.prog .add 3 (.int .i64 1) v5).bind fun v6 =>
(fldA Try.prog 25 v1 1).bind fun v7 =>
(ld Try.prog 22 h1 v7).bind fun v8 =>
(lenV Try.prog 22 v8).bind fun v9 =>
(f20_L0 k v6 v8 v9 (.int .i64 0) k h1).bind fun p => f20_A0 k p.1 p.2.1 p.2.2 := by kernel_rfl
abbrev f22_T_L0 (s0 s2 s3 s4 : Value) : List Value := [s0, unk, s2, s3, s4, unk, unk, unk, unk, unk, unk, unk, unk, unk, unk, unk, unk, unk, unk, unk, unk, unk, unk, unk, unk, unk, unk, unk, unk, unk, unk, unk, unk, unk, unk, unk, unk, unk, unk]
abbrev f22_X_L0 (s2 s3 : Value) : List Value := [unk, unk, s2, s3, unk, unk, unk, unk, unk, unk, unk, unk, unk, unk, unk, unk, unk, unk, unk, unk, unk, unk, unk, unk, unk, unk, unk, unk, unk, unk, unk, unk, unk, unk, unk, unk, unk, unk, unk]
@[irreducible] def f22_L0 (k : Nat) (s0 s2 s3 s4 : Value) (n : Nat) (H : AH) : Option Out := iterD (fun T H K => evalK Try.prog (rn k) k (tbs 22) (codeAt (bodyOf Try.f22) [1, 1, 0, 1, 0, 0]) T H K) (cutT (tbs 22) 10) (cutT (tbs 22) 11) n (f22_T_L0 s0 s2 s3 s4) H
@[irreducible] def f22_A0 (k : Nat) (e : EX) (T : List Value) (H : AH) : Option (Value × AH) := resume Try.prog (rn k) k (tbs 22) (bodyOf Try.f22) [1, 1, 0, 1, 0] e T H (resK Try.prog Try.f22.results.toList)
theorem f22_L0_succ (k : Nat) (s0 s2 s3 s4 : Value) (n : Nat) (H : AH) : f22_L0 k s0 s2 s3 s4 (n + 1) H =
(lenV Try.prog 22 s0).bind fun v5 =>
(bin Try.prog .lss 3 s4 v5).bind fun v6 =>
b2 (gOp v6 true (some (s4, H)) H) fun v7 h7 =>
b2 (gOp v6 true ((bin Try.prog .lss 3 v7 (.int .i64 12)).bind fun v => some (v, h7)) h7) fun v8 h8 =>
(pickV v6 v8 (.bool false)).bind fun v9 =>
aIf v9
 ((ixA Try.prog 22 s0 s4).bind fun v10 =>
 (ld Try.prog 9 h8 v10).bind fun v11 =>
 (lenV Try.prog 9 v11).bind fun v12 =>
 (bin Try.prog .geq 3 v12 (.int .i64 1)).bind fun v13 =>
 b2 (gOp v13 true (some (s0, h8)) h8) fun v14 h14 =>
 b2 (gOp v13 true (some (s4, h14)) h14) fun v15 h15 =>
 b2 (gOp v13 true ((ixA Try.prog 22 v14 v15).bind fun v => some (v, h15)) h15) fun v16 h16 =>
 b2 (gOp v13 true ((ld Try.prog 9 h16 v16).bind fun v => some (v, h16)) h16) fun v17 h17 =>
 b2 (gOp v13 true ((lenV Try.prog 9 v17).bind fun v => some (v, h17)) h17) fun v18 h18 =>
 b2 (gOp v13 true ((bin Try.prog .leq 3 v18 (.int .i64 16)).bind fun v => some (v, h18)) h18) fun v19 h19 =>
 (pickV v13 v19 (.bool false)).bind fun v20 =>
 aIf v20
  ((ld Try.prog 25 h19 s3).bind fun v21 =>
  (ixA Try.prog 22 s0 s4).bind fun v22 =>
  (ld Try.prog 9 h19 v22).bind fun v23 =>
  (bin Try.prog .add 3 s4 (.int .i64 2)).bind fun v24 =>
  b2 (rn k 24 [v21, v23, v24] h19) fun v25 h25 =>
  (st Try.prog 25 h25 s3 v25).bind fun h26 =>
  (bin Try.prog .add 3 s4 (.int .i64 1)).bind fun v27 =>
  f22_L0 k s0 s2 s3 v27 n h26)
  ((bin Try.prog .add 3 s4 (.int .i64 1)).bind fun v28 =>
  f22_L0 k s0 s2 s3 v28 n h19))
 (some ((.exit 0), (f22_X_L0 s2 s3), h8)) := by kernel_rfl
theorem f22_A0_x0 (k : Nat) (s2 s3 : Value) (H : AH) : f22_A0 k (.exit 0) (f22_X_L0 s2 s3) H =
(ld Try.prog 25 H s3).bind fun v29 =>
(st Try.prog 25 H s2 v29).bind fun h30 =>
((ld Try.prog 25 h30 s2).bind fun v31 => some (v31 :: [])).bind fun vs => some (oneOf vs, h30) := by kernel_rfl
theorem f22_eq (k : Nat) (a0 : Value) (H : AH) : rn (k + 1) 22 [a0] H =
b2 (newV Try.prog 25 H) fun v1 h1 =>
(build Try.prog 25 [(0, (.bool true))]).bind fun v2 =>
b2 (newV Try.prog 25 h1) fun v3 h3 =>
(st Try.prog 25 h3 v3 v2).bind fun h4 =>
(f22_L0 k a0 v1 v3 (.int .i64 0) k h4).bind fun p => f22_A0 k p.1 p.2.1 p.2.2 := by kernel_rfl
theorem f23_eq (k : Nat) (a0 a1 : Value) (H : AH) : rn (k + 1) 23 [a0, a1] H =
b2 (box 25 H a0) fun v1 h1 =>
(ld Try.prog 25 h1 v1).bind fun v2 =>
b2 (rn k 45 [v2, a1] h1) fun v3 h3 =>
(ext v3 0).bind fun v4 =>
(ext v3 1).bind fun v5 =>
(fldA Try.prog 25 v1 0).bind fun v6 =>
(ld Try.prog 4 h3 v6).bind fun v7 =>
b2 (gOp v7 true (some (v5, h3)) h3) fun v8 h8 =>
b2 (gOp v7 true ((un Try.prog .not v8).bind fun v => some (v, h8)) h8) fun v9 h9 =>
(pickV v7 v9 (.bool false)).bind fun v10 =>
aIf v10
 (some ((.int .i64 (-1)), h9))
 ((fldA Try.prog 25 v1 0).bind fun v11 =>
 (ld Try.prog 4 h9 v11).bind fun v12 =>
 (un Try.prog .not v12).bind fun v13 =>
 b2 (gOp v13 true (some (v5, h9)) h9) fun v14 h14 =>
 (pickV v13 v14 (.bool false)).bind fun v15 =>
 aIf v15
  ((bin Try.prog .add 3 v4 (.int .i64 1)).bind fun v16 =>
  some (v16, h14))
  (some (v4, h14))) := by kernel_rfl
abbrev f24_T_J0 (s1 s2 s3 s6 s7 s9 : Value) : List Value := [unk, s1, s2, s3, unk, unk, s6, s7, unk, s9, unk, unk, unk, unk, unk, unk, unk, unk, unk, unk, unk, unk, unk, unk, unk, unk, unk, unk, unk, unk, unk, unk, unk, unk, unk, unk, unk, unk, unk, unk, unk, unk, unk, unk, unk]
abbrev f24_T_J1 (s1 s2 s3 s6 s7 s9 s10 : Value) : List Value := [unk, s1, s2, s3, unk, unk, s6, s7, unk, s9, s10, unk, unk, unk, unk, unk, unk, unk, unk, unk, unk, unk, unk, unk, unk, unk, unk, unk, unk, unk, unk, unk, unk, unk, unk, unk, unk, unk, unk, unk, unk, unk, unk, unk, unk]
@[irreducible] def f24_J0 (k : Nat) (s1 s2 s3 s6 s7 s9 : Value) (H : AH) : Option (Value × AH) := resume Try.prog (rn k) k (tbs 24) (bodyOf Try.f24) [1, 1, 1, 0] .normal (f24_T_J0 s1 s2 s3 s6 s7 s9) H (resK Try.prog Try.f24.results.toList)
@[irreducible] def f24_J1 (k : Nat) (s1 s2 s3 s6 s7 s9 s10 : Value) (H : AH) : Option (Value × AH) := resume Try.prog (rn k) k (tbs 24) (bodyOf Try.f24) [1, 1, 1, 1, 1, 0] .normal (f24_T_J1 s1 s2 s3 s6 s7 s9 s10) H (resK Try.prog Try.f24.results.toList)
theorem f24_J0_eq (k : Nat) (s1 s2 s3 s6 s7 s9 : Value) (H : AH) : f24_J0 k s1 s2 s3 s6 s7 s9 H =
(fldA Try.prog 25 s3 0).bind fun v7 =>
(ld Try.prog 4 H v7).bind fun v8 =>
(un Try.prog .not v8).bind fun v9 =>
aIf v9
 ((bin Try.prog .add 3 s7 (.int .i64 1)).bind fun v10 =>
 f24_J1 k s1 s2 s3 s6 s7 s9 v10 H)
 (f24_J1 k s1 s2 s3 s6 s7 s9 s7 H) := by kernel_rfl
theorem f24_J1_eq (k : Nat) (s1 s2 s3 s6 s7 s9 s10 : Value) (H : AH) : f24_J1 k s1 s2 s3 s6 s7 s9 s10 H =
(fldA Try.prog 25 s3 0).bind fun v11 =>
(ld Try.prog 4 H v11).bind fun v12 =>
(fldA Try.prog 25 s3 1).bind fun v13 =>
(ld Try.prog 22 H v13).bind fun v14 =>
(bin Try.prog .add 3 s7 s9).bind fun v15 =>
b2 (buildS Try.prog 22 H 1 [(0, s1)]) fun v16 h16 =>
b2 (rn k 46 [v14, s7, v15, v16] h16) fun v17 h17 =>
aChk (ld Try.prog 4 h17 v11 = some v12) <|
(fldA Try.prog 25 s3 2).bind fun v18 =>
(ld Try.prog 23 h17 v18).bind fun v19 =>
aChk (ld Try.prog 23 h16 v18 = some v19) <|
(bin Try.prog .add 3 s10 s9).bind fun v20 =>
b2 (buildS Try.prog 23 h17 1 [(0, s2)]) fun v21 h21 =>
b2 (rn k 47 [v19, s10, v20, v21] h21) fun v22 h22 =>
aChk (ld Try.prog 4 h22 v11 = some v12) <|
(build Try.prog 25 [(0, v12), (1, v17), (2, v22)]).bind fun v23 =>
(st Try.prog 25 h22 s6 v23).bind fun h24 =>
((ld Try.prog 25 h24 s6).bind fun v25 => some (v25 :: [])).bind fun vs => some (oneOf vs, h24) := by kernel_rfl
theorem f24_eq (k : Nat) (a0 a1 a2 : Value) (H : AH) : rn (k + 1) 24 [a0, a1, a2] H =
b2 (box 25 H a0) fun v1 h1 =>
b2 (newV Try.prog 25 h1) fun v2 h2 =>
(ld Try.prog 25 h2 v1).bind fun v3 =>
b2 (rn k 45 [v3, a1] h2) fun v4 h4 =>
(ext v4 0).bind fun v5 =>
(ext v4 1).bind fun v6 =>
aIf v6
 (f24_J0 k a1 a2 v1 v2 v5 (.int .i64 1) h4)
 (f24_J0 k a1 a2 v1 v2 v5 (.int .i64 0) h4) := by kernel_rfl
abbrev f25_T_J0 (s1 s2 s4 s5 : Value) : List Value := [unk, s1, s2, unk, s4, s5, unk, unk, unk, unk, unk, unk, unk, unk, unk, unk, unk, unk, unk, unk, unk, unk, unk, unk, unk, unk, unk, unk, unk, unk, unk, unk, unk, unk, unk, unk, unk, unk, unk, unk, unk, unk, unk, unk]
@[irreducible] def f25_J0 (k : Nat) (s1 s2 s4 s5 : Value) (H : AH) : Option (Value × AH) := resume Try.prog (rn k) k (tbs 25) (bodyOf Try.f25) [1, 1, 1, 0] .normal (f25_T_J0 s1 s2 s4 s5) H (resK Try.prog Try.f25.results.toList)
theorem f25_J0_eq (k : Nat) (s1 s2 s4 s5 : Value) (H : AH) : f25_J0 k s1 s2 s4 s5 H =
(fldA Try.prog 25 s2 0).bind fun v23 =>
(ld Try.prog 4 H v23).bind fun v24 =>
(fldA Try.prog 25 s2 1).bind fun v25 =>
(ld Try.prog 22 H v25).bind fun v26 =>
(bin Try.prog .add 3 s5 (.int .i64 1)).bind fun v27 =>
b2 (rn k 46 [v26, s5, v27, (.slice none 0 0)] H) fun v28 h28 =>
aChk (ld Try.prog 4 h28 v23 = some v24) <|
(fldA Try.prog 25 s2 2).bind fun v29 =>
(ld Try.prog 23 h28 v29).bind fun v30 =>
aChk (ld Try.prog 23 H v29 = some v30) <|
(bin Try.prog .add 3 s1 (.int .i64 1)).bind fun v31 =>
b2 (rn k 47 [v30, s1, v31, (.slice none 0 0)] h28) fun v32 h32 =>
aChk (ld Try.prog 4 h32 v23 = some v24) <|
(build Try.prog 25 [(0, v24), (1, v28), (2, v32)]).bind fun v33 =>
(st Try.prog 25 h32 s4 v33).bind fun h34 =>
((ld Try.prog 25 h34 s4).bind fun v35 => some (v35 :: [])).bind fun vs => some (oneOf vs, h34) := by kernel_rfl
theorem f25_eq (k : Nat) (a0 a1 : Value) (H : AH) : rn (k + 1) 25 [a0, a1] H =
b2 (box 25 H a0) fun v1 h1 =>
b2 (newV Try.prog 25 h1) fun v2 h2 =>
(bin Try.prog .lss 3 a1 (.int .i64 0)).bind fun v3 =>
b2 (gOp v3 false (some (a1, h2)) h2) fun v4 h4 =>
b2 (gOp v3 false ((fldA Try.prog 25 v1 2).bind fun v => some (v, h4)) h4) fun v5 h5 =>
b2 (gOp v3 false ((ld Try.prog 23 h5 v5).bind fun v => some (v, h5)) h5) fun v6 h6 =>
b2 (gOp v3 false ((lenV Try.prog 23 v6).bind fun v => some (v, h6)) h6) fun v7 h7 =>
b2 (gOp v3 false ((bin Try.prog .geq 3 v4 v7).bind fun v => some (v, h7)) h7) fun v8 h8 =>
(pickV v3 (.bool true) v8).bind fun v9 =>
b2 (gOp v9 false ((fldA Try.prog 25 v1 1).bind fun v => some (v, h8)) h8) fun v10 h10 =>
b2 (gOp v9 false ((ld Try.prog 22 h10 v10).bind fun v => some (v, h10)) h10) fun v11 h11 =>
b2 (gOp v9 false ((lenV Try.prog 22 v11).bind fun v => some (v, h11)) h11) fun v12 h12 =>
b2 (gOp v9 false ((bin Try.prog .eql 3 v12 (.int .i64 0)).bind fun v => some (v, h12)) h12) fun v13 h13 =>
(pickV v9 (.bool true) v13).bind fun v14 =>
aIf v14
 ((ld Try.prog 25 h13 v1).bind fun v15 =>
 (st Try.prog 25 h13 v2 v15).bind fun h16 =>
 ((ld Try.prog 25 h16 v2).bind fun v17 => some (v17 :: [])).bind fun vs => some (oneOf vs, h16))
 ((fldA Try.prog 25 v1 0).bind fun v18 =>
 (ld Try.prog 4 h13 v18).bind fun v19 =>
 (un Try.prog .not v19).bind fun v20 =>
 aIf v20
  ((bin Try.prog .sub 3 a1 (.int .i64 1)).bind fun v21 =>
  (fold1 maxV [v21, (.int .i64 0)]).bind fun v22 =>
  f25_J0 k a1 v1 v2 v22 h13)
  (f25_J0 k a1 v1 v2 a1 h13)) := by kernel_rfl
end
end Go.AM.N
set_option linter.unusedVariables false
set_option maxRecDepth 100000
namespace Go.AM.N
open Go Go.AM Go.Proofs
noncomputable section
theorem f34_eq (k : Nat) (a0 a1 : Value) (H : AH) : rn (k + 1) 34 [a0, a1] H =
(bin Try.prog .shr 3 a0 (.int .u64 8)).bind fun v1 =>
(cv Try.prog 3 5 v1).bind fun v2 =>
b2 (rn k 35 [a1, v2] H) fun v3 h3 =>
(cv Try.prog 3 5 a0).bind fun v4 =>
b2 (rn k 35 [a1, v4] h3) fun v5 h5 =>
some ((.tuple #[]), h5) := by kernel_rfl
theorem f35_eq (k : Nat) (a0 a1 : Value) (H : AH) : rn (k + 1) 35 [a0, a1] H =
b2 (rn k 50 [a0] H) fun v1 h1 =>
(nilChk a0).bind fun v2 =>
(fldA Try.prog 70 v2 1).bind fun v3 =>
(ld Try.prog 68 h1 v3).bind fun v4 =>
b2 (buildS Try.prog 68 h1 1 [(0, a1)]) fun v5 h5 =>
b2 (ap Try.prog 68 68 h5 v4 v5) fun v6 h6 =>
(nilChk a0).bind fun v7 =>
(fldA Try.prog 70 v7 1).bind fun v8 =>
(st Try.prog 68 h6 v8 v6).bind fun h9 =>
some (.nilIface, h9) := by kernel_rfl
theorem f36_eq (k : Nat) (a0 a1 : Value) (H : AH) : rn (k + 1) 36 [a0, a1] H =
b2 (rn k 50 [a0] H) fun v1 h1 =>
(nilChk a0).bind fun v2 =>
(fldA Try.prog 70 v2 1).bind fun v3 =>
(ld Try.prog 68 h1 v3).bind fun v4 =>
b2 (ap Try.prog 68 9 h1 v4 a1) fun v5 h5 =>
(nilChk a0).bind fun v6 =>
(fldA Try.prog 70 v6 1).bind fun v7 =>
(st Try.prog 68 h5 v7 v5).bind fun h8 =>
(lenV Try.prog 9 a1).bind fun v9 =>
some ((.tuple #[v9, .nilIface]), h8) := by kernel_rfl
theorem f37_eq (k : Nat) (a0 : Value) (H : AH) : rn (k + 1) 37 [a0] H =
(nilChk a0).bind fun v1 =>
(fldA Try.prog 70 v1 1).bind fun v2 =>
(ld Try.prog 68 H v2).bind fun v3 =>
(sdV v3).bind fun v4 =>
(nilChk a0).bind fun v5 =>
(fldA Try.prog 70 v5 1).bind fun v6 =>
(ld Try.prog 68 H v6).bind fun v7 =>
(lenV Try.prog 68 v7).bind fun v8 =>
b2 (usV Try.prog 90 H v4 v8) fun v9 h9 =>
some (v9, h9) := by kernel_rfl
theorem f40_eq (k : Nat) (a0 a1 : Value) (H : AH) : rn (k + 1) 40 [a0, a1] H =
(ld Try.prog 9 H a1).bind fun v1 =>
(lenV Try.prog 9 v1).bind fun v2 =>
(fold1 minV [a0, v2]).bind fun v3 =>
(ld Try.prog 9 H a1).bind fun v4 =>
(slc Try.prog 9 v4 none (some v3)).bind fun v5 =>
(ld Try.prog 9 H a1).bind fun v6 =>
(slc Try.prog 9 v6 (some v3) none).bind fun v7 =>
(st Try.prog 9 H a1 v7).bind fun h8 =>
some (v5, h8) := by kernel_rfl
theorem f41_eq (k : Nat) (a0 a1 : Value) (H : AH) : rn (k + 1) 41 [a0, a1] H =
(ld Try.prog 80 H a0).bind fun v1 =>
b2 (callY (rn k) v1 [(.int .i64 2)] H) fun v2 h2 =>
(lenV Try.prog 9 v2).bind fun v3 =>
(bin Try.prog .eql 3 v3 (.int .i64 2)).bind fun v4 =>
aIf v4
 ((fldA Try.prog 25 a1 2).bind fun v5 =>
 (ld Try.prog 23 h2 v5).bind fun v6 =>
 (ix Try.prog 9 v2 (.int .i64 0)).bind fun v7 =>
 (cv Try.prog 5 3 v7).bind fun v8 =>
 (bin Try.prog .shl 3 v8 (.int .u64 8)).bind fun v9 =>
 (ix Try.prog 9 v2 (.int .i64 1)).bind fun v10 =>
 (cv Try.prog 5 3 v10).bind fun v11 =>
 (bin Try.prog .or 3 v9 v11).bind fun v12 =>
 b2 (buildS Try.prog 23 h2 1 [(0, v12)]) fun v13 h13 =>
 b2 (ap Try.prog 23 23 h13 v6 v13) fun v14 h14 =>
 (fldA Try.prog 25 a1 2).bind fun v15 =>
 (st Try.prog 23 h14 v15 v14).bind fun h16 =>
 some ((.tuple #[]), h16))
 (some ((.tuple #[]), h2)) := by kernel_rfl
abbrev f42_T_L0 (s2 s3 s5 : Value) : List Value := [unk, unk, s2, s3, unk, s5, unk, unk, unk, unk, unk, unk, unk, unk, unk, unk, unk, unk, unk, unk, unk, unk, unk, unk, unk, unk, unk, unk, unk, unk, unk, unk, unk, unk, unk, unk, unk, unk, unk, unk, unk, unk, unk, unk, unk, unk, unk, unk, unk, unk, unk, unk, unk, unk, unk, unk, unk, unk, unk, unk, unk, unk, unk, unk, unk, unk]
abbrev f42_X_L0 (s2 s3 s4 : Value) : List Value := [unk, unk, s2, s3, s4, unk, unk, unk, unk, unk, unk, unk, unk, unk, unk, unk, unk, unk, unk, unk, unk, unk, unk, unk, unk, unk, unk, unk, unk, unk, unk, unk, unk, unk, unk, unk, unk, unk, unk, unk, unk, unk, unk, unk, unk, unk, unk, unk, unk, unk, unk, unk, unk, unk, unk, unk, unk, unk, unk, unk, unk, unk, unk, unk, unk, unk]
abbrev f42_T_L1 (s2 s3 s6 : Value) : List Value := [unk, unk, s2, s3, unk, unk, s6, unk, unk, unk, unk, unk, unk, unk, unk, unk, unk, unk, unk, unk, unk, unk, unk, unk, unk, unk, unk, unk, unk, unk, unk, unk, unk, unk, unk, unk, unk, unk, unk, unk, unk, unk, unk, unk, unk, unk, unk, unk, unk, unk, unk, unk, unk, unk, unk, unk, unk, unk, unk, unk, unk, unk, unk, unk, unk, unk]
abbrev f42_X_L1 (s4 : Value) : List Value := [unk, unk, unk, unk, s4, unk, unk, unk, unk, unk, unk, unk, unk, unk, unk, unk, unk, unk, unk, unk, unk, unk, unk, unk, unk, unk, unk, unk, unk, unk, unk, unk, unk, unk, unk, unk, unk, unk, unk, unk, unk, unk, unk, unk, unk, unk, unk, unk, unk, unk, unk, unk, unk, unk, unk, unk, unk, unk, unk, unk, unk, unk, unk, unk, unk, unk]
@[irreducible] def f42_L0 (k : Nat) (s2 s3 s5 : Value) (n : Nat) (H : AH) : Option Out := iterD (fun T H K => evalK Try.prog (rn k) k (tbs 42) (codeAt (bodyOf Try.f42) [1, 1, 0, 1, 0, 0]) T H K) (cutT (tbs 42) 13) (cutT (tbs 42) 14) n (f42_T_L0 s2 s3 s5) H
@[irreducible] def f42_A0 (k : Nat) (e : EX) (T : List Value) (H : AH) : Option (Value × AH) := resume Try.prog (rn k) k (tbs 42) (bodyOf Try.f42) [1, 1, 0, 1, 0] e T H (resK Try.prog Try.f42.results.toList)
@[irreducible] def f42_L1 (k : Nat) (s2 s3 s6 : Value) (n : Nat) (H : AH) : Option Out := iterD (fun T H K => evalK Try.prog (rn k) k (tbs 42) (codeAt (bodyOf Try.f42) [1, 1, 1, 0, 1, 0, 0]) T H K) (cutT (tbs 42) 28) (cutT (tbs 42) 29) n (f42_T_L1 s2 s3 s6) H
@[irreducible] def f42_A1 (k : Nat) (e : EX) (T : List Value) (H : AH) : Option (Value × AH) := resume Try.prog (rn k) k (tbs 42) (bodyOf Try.f42) [1, 1, 1, 0, 1, 0] e T H (resK Try.prog Try.f42.results.toList)
theorem f42_L0_succ (k : Nat) (s2 s3 s5 : Value) (n : Nat) (H : AH) : f42_L0 k s2 s3 s5 (n + 1) H =
(fldA Try.prog 33 s2 1).bind fun v24 =>
(ld Try.prog 22 H v24).bind fun v25 =>
(lenV Try.prog 22 v25).bind fun v26 =>
(bin Try.prog .lss 3 s5 v26).bind fun v27 =>
aIf v27
 ((fldA Try.prog 33 s2 1).bind fun v28 =>
 (ld Try.prog 22 H v28).bind fun v29 =>
 (ixA Try.prog 22 v29 s5).bind fun v30 =>
 (ld Try.prog 9 H v30).bind fun v31 =>
 (fldA Try.prog 33 s3 1).bind fun v32 =>
 (ld Try.prog 22 H v32).bind fun v33 =>
 (ixA Try.prog 22 v33 s5).bind fun v34 =>
 (ld Try.prog 9 H v34).bind fun v35 =>
 (bin Try.prog .neq 9 v31 v35).bind fun v36 =>
 aIf v36
  (some (.ret, (f42_X_L0 s2 s3 (.bool false)), H))
  ((bin Try.prog .add 3 s5 (.int .i64 1)).bind fun v37 =>
  f42_L0 k s2 s3 v37 n H))
 (some ((.exit 0), (f42_X_L0 s2 s3 unk), H)) := by kernel_rfl
theorem f42_A0_x0 (k : Nat) (s2 s3 s4 : Value) (H : AH) : f42_A0 k (.exit 0) (f42_X_L0 s2 s3 s4) H =
(f42_L1 k s2 s3 (.int .i64 0) k H).bind fun p => f42_A1 k p.1 p.2.1 p.2.2 := by kernel_rfl
theorem f42_A0_ret (k : Nat) (s2 s3 s4 : Value) (H : AH) : f42_A0 k .ret (f42_X_L0 s2 s3 s4) H =
some (s4, H) := by kernel_rfl
theorem f42_L1_succ (k : Nat) (s2 s3 s6 : Value) (n : Nat) (H : AH) : f42_L1 k s2 s3 s6 (n + 1) H =
(fldA Try.prog 33 s2 2).bind fun v38 =>
(ld Try.prog 23 H v38).bind fun v39 =>
(lenV Try.prog 23 v39).bind fun v40 =>
(bin Try.prog .lss 3 s6 v40).bind fun v41 =>
aIf v41
 ((fldA Try.prog 33 s2 2).bind fun v42 =>
 (ld Try.prog 23 H v42).bind fun v43 =>
 (ixA Try.prog 23 v43 s6).bind fun v44 =>
 (ld Try.prog 3 H v44).bind fun v45 =>
 (fldA Try.prog 33 s3 2).bind fun v46 =>
 (ld Try.prog 23 H v46).bind fun v47 =>
 (ixA Try.prog 23 v47 s6).bind fun v48 =>
 (ld Try.prog 3 H v48).bind fun v49 =>
 (bin Try.prog .neq 3 v45 v49).bind fun v50 =>
 aIf v50
  (some (.ret, (f42_X_L1 (.bool false)), H))
  ((bin Try.prog .add 3 s6 (.int .i64 1)).bind fun v51 =>
  f42_L1 k s2 s3 v51 n H))
 (some ((.exit 2), (f42_X_L1 unk), H)) := by kernel_rfl
theorem f42_A1_x2 (k : Nat) (s4 : Value) (H : AH) : f42_A1 k (.exit 2) (f42_X_L1 s4) H =
some ((.bool true), H) := by kernel_rfl
theorem f42_A1_ret (k : Nat) (s4 : Value) (H : AH) : f42_A1 k .ret (f42_X_L1 s4) H =
some (s4, H) := by kernel_rfl
theorem f42_eq (k : Nat) (a0 a1 : Value) (H : AH) : rn (k + 1) 42 [a0, a1] H =
b2 (box 33 H a0) fun v1 h1 =>
b2 (box 33 h1 a1) fun v2 h2 =>
(fldA Try.prog 33 v1 0).bind fun v3 =>
(ld Try.prog 4 h2 v3).bind fun v4 =>
(fldA Try.prog 33 v2 0).bind fun v5 =>
(ld Try.prog 4 h2 v5).bind fun v6 =>
(bin Try.prog .neq 4 v4 v6).bind fun v7 =>
b2 (gOp v7 false ((fldA Try.prog 33 v1 1).bind fun v => some (v, h2)) h2) fun v8 h8 =>
b2 (gOp v7 false ((ld Try.prog 22 h8 v8).bind fun v => some (v, h8)) h8) fun v9 h9 =>
b2 (gOp v7 false ((lenV Try.prog 22 v9).bind fun v => some (v, h9)) h9) fun v10 h10 =>
b2 (gOp v7 false ((fldA Try.prog 33 v2 1).bind fun v => some (v, h10)) h10) fun v11 h11 =>
b2 (gOp v7 false ((ld Try.prog 22 h11 v11).bind fun v => some (v, h11)) h11) fun v12 h12 =>
b2 (gOp v7 false ((lenV Try.prog 22 v12).bind fun v => some (v, h12)) h12) fun v13 h13 =>
b2 (gOp v7 false ((bin Try.prog .neq 3 v10 v13).bind fun v => some (v, h13)) h13) fun v14 h14 =>
(pickV v7 (.bool true) v14).bind fun v15 =>
b2 (gOp v15 false ((fldA Try.prog 33 v1 2).bind fun v => some (v, h14)) h14) fun v16 h16 =>
b2 (gOp v15 false ((ld Try.prog 23 h16 v16).bind fun v => some (v, h16)) h16) fun v17 h17 =>
b2 (gOp v15 false ((lenV Try.prog 23 v17).bind fun v => some (v, h17)) h17) fun v18 h18 =>
b2 (gOp v15 false ((fldA Try.prog 33 v2 2).bind fun v => some (v, h18)) h18) fun v19 h19 =>
b2 (gOp v15 false ((ld Try.prog 23 h19 v19).bind fun v => some (v, h19)) h19) fun v20 h20 =>
b2 (gOp v15 false ((lenV Try.prog 23 v20).bind fun v => some (v, h20)) h20) fun v21 h21 =>
b2 (gOp v15 false ((bin Try.prog .neq 3 v18 v21).bind fun v => some (v, h21)) h21) fun v22 h22 =>
(pickV v15 (.bool true) v22).bind fun v23 =>
aIf v23
 (some ((.bool false), h22))
 ((f42_L0 k v1 v2 (.int .i64 0) k h22).bind fun p => f42_A0 k p.1 p.2.1 p.2.2) := by kernel_rfl
theorem f43_eq (k : Nat) (a0 a1 : Value) (H : AH) : rn (k + 1) 43 [a0, a1] H =
b2 (rn k 51 [a0, a1] H) fun v1 h1 =>
(bin Try.prog .geq 3 v1 (.int .i64 0)).bind fun v2 =>
some (v2, h1) := by kernel_rfl
theorem f44_eq (k : Nat) (a0 : Value) (H : AH) : rn (k + 1) 44 [a0] H =
(bin Try.prog .lss 3 a0 (.int .i64 2)).bind fun v1 =>
b2 (gOp v1 false (some (a0, H)) H) fun v2 h2 =>
b2 (gOp v1 false ((bin Try.prog .gtr 3 v2 (.int .i64 511)).bind fun v => some (v, h2)) h2) fun v3 h3 =>
(pickV v1 (.bool true) v3).bind fun v4 =>
some (v4, h3) := by kernel_rfl
abbrev f45_T_L0 (s1 s2 s6 : Value) : List Value := [unk, s1, s2, unk, unk, unk, s6, unk, unk, unk, unk, unk, unk, unk, unk, unk, unk, unk, unk, unk, unk, unk, unk, unk, unk, unk, unk, unk, unk, unk, unk, unk]
abbrev f45_X_L0 (s4 s5 s6 : Value) : List Value := [unk, unk, unk, unk, s4, s5, s6, unk, unk, unk, unk, unk, unk, unk, unk, unk, unk, unk, unk, unk, unk, unk, unk, unk, unk, unk, unk, unk, unk, unk, unk, unk]
@[irreducible] def f45_L0 (k : Nat) (s1 s2 s6 : Value) (n : Nat) (H : AH) : Option Out := iterD (fun T H K => evalK Try.prog (rn k) k (tbs 45) (codeAt (bodyOf Try.f45) [1, 1, 0, 0, 0]) T H K) (cutT (tbs 45) 7) (cutT (tbs 45) 8) n (f45_T_L0 s1 s2 s6) H
@[irreducible] def f45_A0 (k : Nat) (e : EX) (T : List Value) (H : AH) : Option (Value × AH) := resume Try.prog (rn k) k (tbs 45) (bodyOf Try.f45) [1, 1, 0, 0] e T H (resK Try.prog Try.f45.results.toList)
theorem f45_L0_succ (k : Nat) (s1 s2 s6 : Value) (n : Nat) (H : AH) : f45_L0 k s1 s2 s6 (n + 1) H =
(fldA Try.prog 25 s2 1).bind fun v2 =>
(ld Try.prog 22 H v2).bind fun v3 =>
(lenV Try.prog 22 v3).bind fun v4 =>
(bin Try.prog .lss 3 s6 v4).bind fun v5 =>
b2 (gOp v5 true ((fldA Try.prog 25 s2 1).bind fun v => some (v, H)) H) fun v6 h6 =>
b2 (gOp v5 true ((ld Try.prog 22 h6 v6).bind fun v => some (v, h6)) h6) fun v7 h7 =>
b2 (gOp v5 true (some (s6, h7)) h7) fun v8 h8 =>
b2 (gOp v5 true ((ixA Try.prog 22 v7 v8).bind fun v => some (v, h8)) h8) fun v9 h9 =>
b2 (gOp v5 true ((ld Try.prog 9 h9 v9).bind fun v => some (v, h9)) h9) fun v10 h10 =>
b2 (gOp v5 true (some (s1, h10)) h10) fun v11 h11 =>
b2 (gOp v5 true ((bin Try.prog .leq 9 v10 v11).bind fun v => some (v, h11)) h11) fun v12 h12 =>
(pickV v5 v12 (.bool false)).bind fun v13 =>
aIf v13
 ((fldA Try.prog 25 s2 1).bind fun v14 =>
 (ld Try.prog 22 h12 v14).bind fun v15 =>
 (ixA Try.prog 22 v15 s6).bind fun v16 =>
 (ld Try.prog 9 h12 v16).bind fun v17 =>
 (bin Try.prog .eql 9 v17 s1).bind fun v18 =>
 aIf v18
  (some (.ret, (f45_X_L0 s6 (.bool true) s6), h12))
  ((bin Try.prog .add 3 s6 (.int .i64 1)).bind fun v19 =>
  f45_L0 k s1 s2 v19 n h12))
 (some ((.exit 0), (f45_X_L0 unk unk s6), h12)) := by kernel_rfl
theorem f45_A0_x0 (k : Nat) (s4 s5 s6 : Value) (H : AH) : f45_A0 k (.exit 0) (f45_X_L0 s4 s5 s6) H =
some ((.tuple #[s6, (.bool false)]), H) := by kernel_rfl
theorem f45_A0_ret (k : Nat) (s4 s5 s6 : Value) (H : AH) : f45_A0 k .ret (f45_X_L0 s4 s5 s6) H =
some ((.tuple #[s4, s5]), H) := by kernel_rfl
theorem f45_eq (k : Nat) (a0 a1 : Value) (H : AH) : rn (k + 1) 45 [a0, a1] H =
b2 (box 25 H a0) fun v1 h1 =>
(f45_L0 k a1 v1 (.int .i64 0) k h1).bind fun p => f45_A0 k p.1 p.2.1 p.2.2 := by kernel_rfl
theorem f46_eq (k : Nat) (a0 a1 a2 a3 : Value) (H : AH) : rn (k + 1) 46 [a0, a1, a2, a3] H =
(lenV Try.prog 22 a0).bind fun v1 =>
(fold1 minV [a1, v1]).bind fun v2 =>
(lenV Try.prog 22 a0).bind fun v3 =>
(fold1 minV [a2, v3]).bind fun v4 =>
(lenV Try.prog 22 a3).bind fun v5 =>
(bin Try.prog .add 3 v2 v5).bind fun v6 =>
(lenV Try.prog 22 a0).bind fun v7 =>
(bin Try.prog .add 3 v6 v7).bind fun v8 =>
(bin Try.prog .sub 3 v8 v4).bind fun v9 =>
b2 (mkS Try.prog 22 H v9 v9) fun v10 h10 =>
(slc Try.prog 22 a0 none (some v2)).bind fun v11 =>
b2 (cpy Try.prog 22 h10 v10 v11) fun v12 h12 =>
(slc Try.prog 22 v10 (some v2) none).bind fun v13 =>
b2 (cpy Try.prog 22 h12 v13 a3) fun v14 h14 =>
(lenV Try.prog 22 a3).bind fun v15 =>
(bin Try.prog .add 3 v2 v15).bind fun v16 =>
(slc Try.prog 22 v10 (some v16) none).bind fun v17 =>
(slc Try.prog 22 a0 (some v4) none).bind fun v18 =>
b2 (cpy Try.prog 22 h14 v17 v18) fun v19 h19 =>
some (v10, h19) := by kernel_rfl
theorem f47_eq (k : Nat) (a0 a1 a2 a3 : Value) (H : AH) : rn (k + 1) 47 [a0, a1, a2, a3] H =
(lenV Try.prog 23 a0).bind fun v1 =>
(fold1 minV [a1, v1]).bind fun v2 =>
(lenV Try.prog 23 a0).bind fun v3 =>
(fold1 minV [a2, v3]).bind fun v4 =>
(lenV Try.prog 23 a3).bind fun v5 =>
(bin Try.prog .add 3 v2 v5).bind fun v6 =>
(lenV Try.prog 23 a0).bind fun v7 =>
(bin Try.prog .add 3 v6 v7).bind fun v8 =>
(bin Try.prog .sub 3 v8 v4).bind fun v9 =>
b2 (mkS Try.prog 23 H v9 v9) fun v10 h10 =>
(slc Try.prog 23 a0 none (some v2)).bind fun v11 =>
b2 (cpy Try.prog 23 h10 v10 v11) fun v12 h12 =>
(slc Try.prog 23 v10 (some v2) none).bind fun v13 =>
b2 (cpy Try.prog 23 h12 v13 a3) fun v14 h14 =>
(lenV Try.prog 23 a3).bind fun v15 =>
(bin Try.prog .add 3 v2 v15).bind fun v16 =>
(slc Try.prog 23 v10 (some v16) none).bind fun v17 =>
(slc Try.prog 23 a0 (some v4) none).bind fun v18 =>
b2 (cpy Try.prog 23 h14 v17 v18) fun v19 h19 =>
some (v10, h19) := by kernel_rfl
abbrev f51_T_L0 (s0 s1 s7 s8 : Value) : List Value := [s0, s1, unk, unk, unk, unk, unk, s7, s8, unk, unk, unk, unk, unk, unk, unk, unk, unk, unk]
abbrev f51_X_L0 (s4 : Value) : List Value := [unk, unk, unk, unk, s4, unk, unk, unk, unk, unk, unk, unk, unk, unk, unk, unk, unk, unk, unk]
@[irreducible] def f51_L0 (k : Nat) (s0 s1 s7 s8 : Value) (n : Nat) (H : AH) : Option Out := iterD (fun T H K => evalK Try.prog (rn k) k (tbs 51) (codeAt (bodyOf Try.f51) [1, 0, 1, 0, 0]) T H K) (cutT (tbs 51) 7) (cutT (tbs 51) 8) n (f51_T_L0 s0 s1 s7 s8) H
@[irreducible] def f51_A0 (k : Nat) (e : EX) (T : List Value) (H : AH) : Option (Value × AH) := resume Try.prog (rn k) k (tbs 51) (bodyOf Try.f51) [1, 0, 1, 0] e T H (resK Try.prog Try.f51.results.toList)
theorem f51_L0_succ (k : Nat) (s0 s1 s7 s8 : Value) (n : Nat) (H : AH) : f51_L0 k s0 s1 s7 s8 (n + 1) H =
(bin Try.prog .lss 3 s8 s7).bind fun v2 =>
aIf v2
 ((ixA Try.prog 23 s0 s8).bind fun v3 =>
 (ld Try.prog 3 H v3).bind fun v4 =>
 b2 (callY (rn k) s1 [v4] H) fun v5 h5 =>
 aIf v5
  (some (.ret, (f51_X_L0 s8), h5))
  ((bin Try.prog .add 3 s8 (.int .i64 1)).bind fun v6 =>
  f51_L0 k s0 s1 s7 v6 n h5))
 (some ((.exit 0), (f51_X_L0 unk), H)) := by kernel_rfl
theorem f51_A0_x0 (k : Nat) (s4 : Value) (H : AH) : f51_A0 k (.exit 0) (f51_X_L0 s4) H =
some ((.int .i64 (-1)), H) := by kernel_rfl
theorem f51_A0_ret (k : Nat) (s4 : Value) (H : AH) : f51_A0 k .ret (f51_X_L0 s4) H =
some (s4, H) := by kernel_rfl
theorem f51_eq (k : Nat) (a0 a1 : Value) (H : AH) : rn (k + 1) 51 [a0, a1] H =
(lenV Try.prog 23 a0).bind fun v1 =>
(f51_L0 k a0 a1 v1 (.int .i64 0) k H).bind fun p => f51_A0 k p.1 p.2.1 p.2.2 := by kernel_rfl
end
end Go.AM.N

set_option linter.unusedVariables false
set_option linter.unusedSimpArgs false
namespace Go.AM
variable {α β R : Type} {P : Program}


def Ev (g : Nat → Nat → Option α) (Q : α → Prop) : Prop := ∃ r, Q r ∧ ∃ N, ∀ k n, N ≤ k → N ≤ n → g k n = some r

theorem Ev.ret {Q : α → Prop} {r : α} (h : Q r) : Ev (fun _ _ => some r) Q := ⟨r, h, 0, fun _ _ _ _ => rfl⟩
theorem Ev.mono {g : Nat → Nat → Option α} {Q Q' : α → Prop} (h : Ev g Q) (hq : ∀ r, Q r → Q' r) : Ev g Q' :=
  h.elim fun r hr => ⟨r, hq r hr.1, hr.2⟩
theorem Ev.eq {g h : Nat → Nat → Option α} {Q : α → Prop} (e : ∀ k n, g k n = h k n) (hh : Ev h Q) : Ev g Q := by
  obtain ⟨r, hr, N, hN⟩ := hh
  exact ⟨r, hr, N, fun k n a b => (e k n).trans (hN k n a b)⟩
theorem Ev.bind {g : Nat → Nat → Option α} {f : Nat → Nat → α → Option β} {Q1 : α → Prop} {Q : β → Prop} (h1 : Ev g Q1) (h2 : ∀ r, Q1 r → Ev (fun k n => f k n r) Q) :
    Ev (fun k n => (g k n).bind (f k n)) Q := by
  obtain ⟨r, hr, N, hN⟩ := h1
  obtain ⟨s, hs, M, hM⟩ := h2 r hr
  refine ⟨s, hs, max N M, fun k n a b => ?_⟩
  show (g k n).bind (f k n) = some s
  rw [hN k n (by omega) (by omega)]
  exact hM k n (by omega) (by omega)
theorem Ev.prim {E : Option α} {a : α} {f : Nat → Nat → α → Option β} {Q : β → Prop} (h : E = some a) (h2 : Ev (fun k n => f k n a) Q) : Ev (fun k n => E.bind (f k n)) Q :=
  Ev.eq (fun _ _ => by rw [h]; rfl) h2
theorem Ev.assoc {g : Nat → Nat → Option α} {f : Nat → Nat → α → Option β} {f2 : Nat → Nat → β → Option R} {Q : R → Prop} (h : Ev (fun k n => (g k n).bind fun x => (f k n x).bind (f2 k n)) Q) :
    Ev (fun k n => ((g k n).bind (f k n)).bind (f2 k n)) Q := Ev.eq (fun _ _ => Option.bind_assoc ..) h
theorem Ev.b2 {g : Nat → Nat → Option (Value × AH)} {f : Nat → Nat → Value → AH → Option R} {Q1 : Value × AH → Prop} {Q : R → Prop} (h1 : Ev g Q1) (h2 : ∀ v H, Q1 (v, H) → Ev (fun k n => f k n v H) Q) :
    Ev (fun k n => Go.AM.b2 (g k n) (f k n)) Q := Ev.bind h1 fun r hr => h2 r.1 r.2 hr
theorem Ev.prim2 {E : Option (Value × AH)} {v : Value} {H : AH} {f : Nat → Nat → Value → AH → Option R} {Q : R → Prop} (h : E = some (v, H)) (h2 : Ev (fun k n => f k n v H) Q) :
    Ev (fun k n => Go.AM.b2 E (f k n)) Q := Ev.eq (fun _ _ => by rw [h]; rfl) h2
theorem Ev.tt {x y : Nat → Nat → Option α} {Q : α → Prop} (h : Ev x Q) : Ev (fun k n => aIf (.bool true) (x k n) (y k n)) Q := h
theorem Ev.chk {x : Nat → Nat → Option α} {Q : α → Prop} {p : Prop} (hp : p) (h : Ev x Q) : Ev (fun k n => aChk p (x k n)) Q :=
  Ev.eq (fun _ _ => by unfold aChk; exact if_pos hp) h
/-- A guarded operation that is done. -/
theorem Ev.gDo {w : Bool} {E : Nat → Nat → Option (Value × AH)} {H : AH} {f : Nat → Nat → Value → AH → Option R} {Q : R → Prop} (h : Ev (fun k n => Go.AM.b2 (E k n) (f k n)) Q) :
    Ev (fun k n => Go.AM.b2 (gOp (.bool w) w (E k n) H) (f k n)) Q := Ev.eq (fun _ _ => by unfold gOp; simp) h
theorem Ev.gSkip {w : Bool} {E : Nat → Nat → Option (Value × AH)} {H : AH} {f : Nat → Nat → Value → AH → Option R} {Q : R → Prop} (h : Ev (fun k n => f k n undef H) Q) :
    Ev (fun k n => Go.AM.b2 (gOp (.bool w) (!w) (E k n) H) (f k n)) Q := Ev.eq (fun _ _ => by unfold gOp; cases w <;> simp [Go.AM.b2]) h
theorem Ev.gSkipT {E : Nat → Nat → Option (Value × AH)} {H : AH} {f : Nat → Nat → Value → AH → Option R} {Q : R → Prop} (h : Ev (fun k n => f k n undef H) Q) :
    Ev (fun k n => Go.AM.b2 (gOp (.bool false) true (E k n) H) (f k n)) Q := Ev.gSkip (w := false) h
theorem Ev.gSkipF {E : Nat → Nat → Option (Value × AH)} {H : AH} {f : Nat → Nat → Value → AH → Option R} {Q : R → Prop} (h : Ev (fun k n => f k n undef H) Q) :
    Ev (fun k n => Go.AM.b2 (gOp (.bool true) false (E k n) H) (f k n)) Q := Ev.gSkip (w := true) h
theorem Ev.gUndef {w : Bool} {E : Nat → Nat → Option (Value × AH)} {H : AH} {f : Nat → Nat → Value → AH → Option R} {Q : R → Prop} (h : Ev (fun k n => f k n undef H) Q) :
    Ev (fun k n => Go.AM.b2 (gOp undef w (E k n) H) (f k n)) Q := Ev.eq (fun _ _ => by unfold gOp undef; simp [Go.AM.b2]) h
/-- What lies under a guard: 'E.bind fun v => some (v, H)'. -/
theorem Ev.gPrim {E : Option α} {a : α} {g : α → Option (Value × AH)} {v : Value} {H : AH} {f : Nat → Nat → Value → AH → Option R} {Q : R → Prop} (h : E = some a) (hg : g a = some (v, H)) (h2 : Ev (fun k n => f k n v H) Q) :
    Ev (fun k n => Go.AM.b2 (E.bind g) (f k n)) Q := Ev.prim2 (by rw [h]; exact hg) h2
theorem Ev.gCall {g : Nat → Nat → Option (Value × AH)} {f : Nat → Nat → Value → AH → Option R} {Q : R → Prop} (h : Ev (fun k n => Go.AM.b2 (g k n) (f k n)) Q) :
    Ev (fun k n => Go.AM.b2 (Go.AM.b2 (g k n) fun v H => some (v, H)) (f k n)) Q := Ev.eq (fun k n => by
      show Option.bind (Option.bind (g k n) _) _ = Option.bind (g k n) _
      rw [Option.bind_assoc]; rfl) h
/-- A loop has as much fuel as its function. -/
theorem Ev.loop {L : Nat → Nat → Option α} {Q : α → Prop} (h : Ev L Q) : Ev (fun k _ => L k k) Q := by
  obtain ⟨r, hr, N, hN⟩ := h
  exact ⟨r, hr, N, fun k n a _ => hN k k a a⟩
theorem Ev.succ {L T : Nat → Nat → Option α} {Q : α → Prop} (e : ∀ k n, L k (n + 1) = T k n) (h : Ev T Q) : Ev L Q := by
  obtain ⟨r, hr, N, hN⟩ := h
  refine ⟨r, hr, N + 1, fun k n a b => ?_⟩
  obtain ⟨m, rfl⟩ : ∃ m, n = m + 1 := ⟨n - 1, by omega⟩
  exact (e k m).trans (hN k m (by omega) (by omega))
theorem Ev.fn {F T : Nat → Option α} {Q : α → Prop} (e : ∀ k, F (k + 1) = T k) (h : Ev (fun k _ => T k) Q) : Ev (fun k _ => F k) Q := by
  obtain ⟨r, hr, N, hN⟩ := h
  refine ⟨r, hr, N + 1, fun k n a b => ?_⟩
  obtain ⟨m, rfl⟩ : ∃ m, k = m + 1 := ⟨k - 1, by omega⟩
  exact (e m).trans (hN m n (by omega) (by omega))

theorem blk_lt {H : AH} {b : Nat} {K : Blk} (h : blk H b = some K) : b < H.length := by
  unfold blk at h
  cases hh : H[b]? with
  | none => rw [hh] at h; exact absurd h (by simp)
  | some x => exact (List.getElem?_eq_some_iff.mp hh).1
theorem blk_mkB_old {H : AH} {cs e kd} {b : Nat} (h : b < H.length) : blk (mkB H cs e kd) b = blk H b := by
  unfold blk mkB; rw [List.getElem?_append_left h]
theorem blk_mkB_new {H : AH} {cs e kd} : blk (mkB H cs e kd) H.length = some ⟨cs, e, kd⟩ := by
  unfold blk mkB; simp
theorem blk_put {H : AH} {b c : Nat} {k : Blk} {cs} (hb : b < H.length) : blk (put H b k cs) c = if c = b then some ⟨cs, k.elem, k.kind⟩ else blk H c := by
  unfold blk put
  by_cases h : c = b
  · subst h; rw [List.getElem?_set_self hb, if_pos rfl]; rfl
  · rw [List.getElem?_set_ne (fun e => h e.symm), if_neg h]
theorem blk_kill {H : AH} {b c : Nat} (hb : b < H.length) : blk (kill H b) c = if c = b then none else blk H c := by
  unfold blk kill
  by_cases h : c = b
  · subst h; rw [List.getElem?_set_self hb, if_pos rfl]; rfl
  · rw [List.getElem?_set_ne (fun e => h e.symm), if_neg h]
theorem length_put {H : AH} {b k cs} : (put H b k cs).length = H.length := by unfold put; simp
theorem length_kill {H : AH} {b} : (kill H b).length = H.length := by unfold kill; simp
theorem length_mkB {H : AH} {cs e kd} : (mkB H cs e kd).length = H.length + 1 := by unfold mkB; simp

/-- More is there; what was there, or was not, is as it was. -/
structure Fr (H H' : AH) : Prop where
  len : H.length ≤ H'.length
  same : ∀ b, b < H.length → blk H' b = blk H b
/-- What was there is as it was. -/
def Mo (B B' : AH) : Prop := ∀ b K, blk B b = some K → blk B' b = some K
structure Le (B H : AH) : Prop where
  le : Mo B H
theorem Fr.refl (H : AH) : Fr H H := ⟨Nat.le_refl _, fun _ _ => rfl⟩
theorem Fr.trans {A B C : AH} (h1 : Fr A B) (h2 : Fr B C) : Fr A C := ⟨Nat.le_trans h1.len h2.len, fun b hb => (h2.same b (Nat.lt_of_lt_of_le hb h1.len)).trans (h1.same b hb)⟩
theorem Fr.mo {A B : AH} (h : Fr A B) : Mo A B := fun b K hb => (h.same b (blk_lt hb)).trans hb
theorem Mo.refl (B : AH) : Mo B B := fun _ _ h => h
theorem Mo.trans {A B C : AH} (h1 : Mo A B) (h2 : Mo B C) : Mo A C := fun b K h => h2 b K (h1 b K h)

/-- H0, B0: what it was at first. B: what nobody changes any more. L: ours. -/
class St (H0 B0 B : outParam AH) (L : outParam (List (Nat × Blk))) (H : AH) : Prop where
  le : Mo B H
  own : ∀ p, p ∈ L → blk H p.1 = some p.2 ∧ blk B p.1 = none ∧ H0.length ≤ p.1
  nd : (L.map Prod.fst).Nodup
  frH : Fr H0 H
  frB : ∀ b, b < H0.length → blk B b = blk B0 b

/-- How a function's answer stands to what it was at first. -/
def An (B H : AH) (Post : AH → Value → Prop) (r : Value × AH) : Prop := ∃ B', (∀ b, b < H.length → blk B' b = blk B b) ∧ Le B' r.2 ∧ Fr H r.2 ∧ Post B' r.1

theorem St.start {B H : AH} (h : Le B H) : St H B B [] H :=
  ⟨h.le, fun _ h => absurd h (List.not_mem_nil), List.nodup_nil, Fr.refl _, fun _ _ => rfl⟩
theorem St.lel {H0 B0 B L H} (h : St H0 B0 B L H) : Le B H := ⟨h.le⟩
theorem St.get {H0 B0 B L H} {b : Nat} {K : Blk} (h : St H0 B0 B L H) (hm : (b, K) ∈ L) : blk H b = some K := (h.own _ hm).1
theorem St.drop {H0 B0 B L L' H} (h : St H0 B0 B L H) (hs : L'.Sublist L) : St H0 B0 B L' H :=
  ⟨h.le, fun p hp => h.own p (hs.subset hp), (hs.map _).nodup h.nd, h.frH, h.frB⟩
theorem St.perm {H0 B0 B L L' H} (h : St H0 B0 B L H) (hs : L'.Perm L) : St H0 B0 B L' H :=
  ⟨h.le, fun p hp => h.own p (hs.subset hp), (hs.map _).nodup_iff.mpr h.nd, h.frH, h.frB⟩
theorem St.fresh {H0 B0 B L H} (h : St H0 B0 B L H) : blk B H.length = none := by
  cases hb : blk B H.length with
  | none => rfl
  | some K => exact absurd (blk_lt (h.le _ _ hb)) (Nat.lt_irrefl _)
theorem St.mkB' {H0 B0 B L H} (h : St H0 B0 B L H) (cs : List Value) (e : TypeId) (kd : BK) : St H0 B0 B ((H.length, ⟨cs, e, kd⟩) :: L) (mkB H cs e kd) := by
  refine ⟨fun b K hb => ?_, fun p hp => ?_, ?_, ⟨?_, fun b hb => ?_⟩, h.frB⟩
  · have := h.le b K hb
    rw [blk_mkB_old (blk_lt this)]; exact this
  · cases hp with
    | head => exact ⟨blk_mkB_new, h.fresh, h.frH.len⟩
    | tail _ hp =>
      have hh := h.own p hp
      exact ⟨by rw [blk_mkB_old (blk_lt hh.1)]; exact hh.1, hh.2.1, hh.2.2⟩
  · refine List.nodup_cons.mpr ⟨fun hm => ?_, h.nd⟩
    obtain ⟨p, hp, he⟩ := List.mem_map.mp hm
    have := blk_lt (h.own p hp).1
    have he : p.1 = H.length := he
    omega
  · rw [length_mkB]; have := h.frH.len; omega
  · rw [blk_mkB_old (by have := h.frH.len; omega)]; exact h.frH.same b hb
theorem St.mkB {H0 B0 B L H} (h : St H0 B0 B L H) (cs : List Value) (e : TypeId) (kd : BK) :
    ∃ B', Mo B B' ∧ St H0 B0 B' ((H.length, ⟨cs, e, kd⟩) :: L) (mkB H cs e kd) := ⟨B, Mo.refl B, h.mkB' cs e kd⟩

theorem mem_fst {p : Nat × Blk} {b : Nat} {L : List (Nat × Blk)} (h : p ∈ L) (e : p.1 = b) : b ∈ L.map Prod.fst := List.mem_map.mpr ⟨p, h, e⟩
/-- One of ours is another. -/
inductive Upd (b : Nat) (K K' : Blk) : List (Nat × Blk) → List (Nat × Blk) → Prop where
  | head (L) : Upd b K K' ((b, K) :: L) ((b, K') :: L)
  | tail (x) {L L'} (h : Upd b K K' L L') : Upd b K K' (x :: L) (x :: L')
theorem Upd.mem {b K K' L L'} (h : Upd b K K' L L') : (b, K) ∈ L := by
  induction h with
  | head => exact .head _
  | tail _ _ ih => exact .tail _ ih
theorem Upd.map {b K K' L L'} (h : Upd b K K' L L') : L'.map Prod.fst = L.map Prod.fst := by
  induction h with
  | head => rfl
  | tail x _ ih => simp [ih]
theorem Upd.inv {b K K' L L'} (h : Upd b K K' L L') (hn : (L.map Prod.fst).Nodup) : ∀ p, p ∈ L' → p = (b, K') ∨ (p ∈ L ∧ p.1 ≠ b) := by
  induction h with
  | head L =>
    intro p hp
    cases hp with
    | head => exact .inl rfl
    | tail _ hp => exact .inr ⟨.tail _ hp, fun e => (List.nodup_cons.mp hn).1 (mem_fst hp e)⟩
  | tail x hU ih =>
    intro p hp
    cases hp with
    | head => exact .inr ⟨.head _, fun e => (List.nodup_cons.mp hn).1 (mem_fst hU.mem e.symm)⟩
    | tail _ hp => exact (ih (List.nodup_cons.mp hn).2 p hp).imp id fun h => ⟨.tail _ h.1, h.2⟩
theorem St.put {H0 B0 B L L' H} {b : Nat} {K : Blk} {cs : List Value} (h : St H0 B0 B L H) (hu : Upd b K ⟨cs, K.elem, K.kind⟩ L L') : St H0 B0 B L' (put H b K cs) := by
  have hb := h.own _ hu.mem
  have hlt := blk_lt hb.1
  refine ⟨fun c K' hc => ?_, fun p hp => ?_, by rw [hu.map]; exact h.nd, ⟨by rw [length_put]; exact h.frH.len, fun c hc => ?_⟩, h.frB⟩
  · rw [blk_put hlt, if_neg]
    · exact h.le c K' hc
    · intro e; subst e; rw [hb.2.1] at hc; exact absurd hc (by simp)
  · rcases hu.inv h.nd p hp with rfl | ⟨hp', hne⟩
    · exact ⟨by rw [blk_put hlt, if_pos rfl], hb.2⟩
    · have := h.own p hp'
      exact ⟨by rw [blk_put hlt, if_neg hne]; exact this.1, this.2⟩
  · rw [blk_put hlt, if_neg (by have : H0.length ≤ b := hb.2.2; omega)]; exact h.frH.same c hc
theorem St.kill {H0 B0 B L H} {b : Nat} {K : Blk} (h : St H0 B0 B ((b, K) :: L) H) : St H0 B0 B L (kill H b) := by
  have hb := h.own _ (.head _)
  have hlt := blk_lt hb.1
  have hn := List.nodup_cons.mp h.nd
  refine ⟨fun c K' hc => ?_, fun p hp => ?_, hn.2, ⟨by rw [length_kill]; exact h.frH.len, fun c hc => ?_⟩, h.frB⟩
  · rw [blk_kill hlt, if_neg]
    · exact h.le c K' hc
    · intro e; subst e; rw [hb.2.1] at hc; exact absurd hc (by simp)
  · have := h.own p (.tail _ hp)
    exact ⟨by rw [blk_kill hlt, if_neg fun e => hn.1 (mem_fst hp e)]; exact this.1, this.2⟩
  · rw [blk_kill hlt, if_neg (by have : H0.length ≤ b := hb.2.2; omega)]; exact h.frH.same c hc
theorem setB (B : AH) (b : Nat) (K : Blk) : ∃ B', ∀ c, blk B' c = if c = b then some K else blk B c := by
  refine ⟨(B ++ List.replicate (b + 1) none).set b (some K), fun c => ?_⟩
  have hp : ∀ d, blk (B ++ List.replicate (b + 1) none) d = blk B d := fun d => by
    unfold blk
    by_cases h : d < B.length
    · rw [List.getElem?_append_left h]
    · rw [List.getElem?_append_right (by omega), List.getElem?_eq_none (l := B) (by omega), List.getElem?_replicate]
      split <;> rfl
  by_cases h : c = b
  · subst h; unfold blk; rw [List.getElem?_set_self (by simp; omega), if_pos rfl]; rfl
  · rw [if_neg h, ← hp c]; unfold blk; rw [List.getElem?_set_ne (fun e => h e.symm)]
/-- From now on nobody changes it. -/
theorem St.freeze {H0 B0 B L H} {b : Nat} {K : Blk} (h : St H0 B0 B ((b, K) :: L) H) : ∃ B', Mo B B' ∧ blk B' b = some K ∧ St H0 B0 B' L H := by
  have hb := h.own _ (.head _)
  have hn := List.nodup_cons.mp h.nd
  obtain ⟨B', hs⟩ := setB B b K
  refine ⟨B', fun c K' hc => ?_, by rw [hs, if_pos rfl], fun c K' hc => ?_, fun p hp => ?_, hn.2, h.frH, fun c hc => ?_⟩
  · rw [hs, if_neg]
    · exact hc
    · intro e; subst e; rw [hb.2.1] at hc; exact absurd hc (by simp)
  · rw [hs] at hc
    by_cases e : c = b
    · subst e; rw [if_pos rfl] at hc; rw [← hc]; exact hb.1
    · rw [if_neg e] at hc; exact h.le c K' hc
  · have := h.own p (.tail _ hp)
    exact ⟨this.1, by rw [hs, if_neg fun e => hn.1 (mem_fst hp e)]; exact this.2.1, this.2.2⟩
  · rw [hs, if_neg (by have : H0.length ≤ b := hb.2.2; omega)]; exact h.frB c hc
theorem St.call {H0 B0 B L H} {Post : AH → Value → Prop} {r : Value × AH} (h : St H0 B0 B L H) (ha : An B H Post r) : ∃ B', Mo B B' ∧ St H0 B0 B' L r.2 ∧ Post B' r.1 := by
  obtain ⟨B', f1, f2, f3, f4⟩ := ha
  refine ⟨B', fun b K hb => (f1 b (blk_lt (h.le b K hb))).trans hb, ⟨f2.le, fun p hp => ?_, h.nd, h.frH.trans f3, fun b hb => (f1 b (Nat.lt_of_lt_of_le hb h.frH.len)).trans (h.frB b hb)⟩, f4⟩
  have hh := h.own p hp
  have hlt := blk_lt hh.1
  exact ⟨(f3.same _ hlt).trans hh.1, (f1 _ hlt).trans hh.2.1, hh.2.2⟩
theorem St.an {H0 B0 B L H} {Post : AH → Value → Prop} {v : Value} (h : St H0 B0 B L H) (hp : Post B v) : An B0 H0 Post (v, H) := ⟨B, h.frB, h.lel, h.frH, hp⟩

def ldK (P : Program) (t : TypeId) (cells : List Value) (off : Nat) : Option Value :=
  match aggT P t with
  | some true => if off + szT P t ≤ cells.length then some (.agg ((cells.drop off).take (szT P t)).toArray) else none
  | some false => cells[off]?
  | none => none
def stK (P : Program) (t : TypeId) (cells : List Value) (off : Nat) (v : Value) : Option (List Value) :=
  match aggT P t with
  | some true =>
    match v with
    | .agg cs => if off + szT P t ≤ cells.length ∧ cs.size = szT P t ∧ cs.toList.all isCell = true then some (spl cells off cs.toList) else none
    | _ => none
  | some false => if szT P t = 1 ∧ off < cells.length ∧ isCell v = true then some (cells.set off v) else none
  | none => none
theorem ld_blk {t : TypeId} {H : AH} {b off : Nat} {K : Blk} (h : blk H b = some K) : ld P t H (ptr b off) = ldK P t K.cells off := by
  unfold ld ldK
  cases aggT P t with
  | none => rfl
  | some a =>
    cases a with
    | true => simp only [ldA, ptr, h, Option.bind_some, rdN]; split <;> rfl
    | false => simp only [ldC, ptr, h, Option.bind_some]
theorem st_blk {t : TypeId} {H : AH} {b off : Nat} {K : Blk} {v : Value} {cs : List Value} (h : blk H b = some K) (hk : K.kind.wr = true) (hs : stK P t K.cells off v = some cs) : st P t H (ptr b off) v = some (put H b K cs) := by
  unfold st
  unfold stK at hs
  cases ha : aggT P t with
  | none => rw [ha] at hs; exact absurd hs (by simp)
  | some a =>
    rw [ha] at hs
    cases a with
    | true =>
      cases v with
      | agg c =>
        simp only at hs
        split at hs
        · rename_i hc
          simp only [stA, ptr, h, Option.bind_some, if_pos (show K.kind.wr = true ∧ off + szT P t ≤ K.cells.length ∧ c.size = szT P t ∧ c.toList.all isCell = true from ⟨hk, hc⟩)]
          rw [Option.some.inj hs]
        · exact absurd hs (by simp)
      | _ => exact absurd hs (by simp)
    | false =>
      simp only at hs
      split at hs
      · rename_i hc
        simp only [stC, ptr, h, Option.bind_some, if_pos hc.1, if_pos (show K.kind.wr = true ∧ off < K.cells.length ∧ isCell v = true from ⟨hk, hc.2⟩)]
        rw [Option.some.inj hs]
      · exact absurd hs (by simp)

theorem Ev.box {H0 B0 B L H} {v : Value} {t : TypeId} {f : Nat → Nat → Value → AH → Option R} {Q : R → Prop} (hS : St H0 B0 B L H) (hv : okCells v = true)
    (h : ∀ b B' H', Mo B B' → St H0 B0 B' ((b, ⟨v.cells.toList, t, .fix⟩) :: L) H' → Ev (fun k n => f k n (ptr b 0) H') Q) : Ev (fun k n => Go.AM.b2 (Go.AM.box t H v) (f k n)) Q := by
  obtain ⟨B', hm, hS'⟩ := hS.mkB v.cells.toList t .fix
  exact Ev.prim2 (by unfold Go.AM.box; rw [if_pos hv]) (h H.length B' _ hm hS')
theorem Ev.newV {H0 B0 B L H} {z : Value} {t : TypeId} {f : Nat → Nat → Value → AH → Option R} {Q : R → Prop} (hz : zeroT P t = some z) (hS : St H0 B0 B L H) (hv : okCells z = true)
    (h : ∀ b B' H', Mo B B' → St H0 B0 B' ((b, ⟨z.cells.toList, t, .fix⟩) :: L) H' → Ev (fun k n => f k n (ptr b 0) H') Q) : Ev (fun k n => Go.AM.b2 (Go.AM.newV P t H) (f k n)) Q := by
  have e : Go.AM.newV P t H = Go.AM.box t H z := by unfold Go.AM.newV; rw [hz]; rfl
  rw [e]; exact Ev.box hS hv h
theorem Ev.ld {H0 B0 B L H} {b off : Nat} {K : Blk} {v : Value} {t : TypeId} {f : Nat → Nat → Value → Option R} {Q : R → Prop} (hS : St H0 B0 B L H) (hm : (b, K) ∈ L) (hv : ldK P t K.cells off = some v)
    (h : Ev (fun k n => f k n v) Q) : Ev (fun k n => (Go.AM.ld P t H (ptr b off)).bind (f k n)) Q :=
  Ev.prim ((ld_blk (hS.get hm)).trans hv) h
theorem Ev.st {H0 B0 B L L' H} {b off : Nat} {K : Blk} {v : Value} {cs : List Value} {t : TypeId} {f : Nat → Nat → AH → Option R} {Q : R → Prop} (hS : St H0 B0 B L H) (hm : (b, K) ∈ L) (hs : stK P t K.cells off v = some cs)
    (hk : K.kind.wr = true) (hu : Upd b K ⟨cs, K.elem, K.kind⟩ L L') (h : ∀ H', St H0 B0 B L' H' → Ev (fun k n => f k n H') Q) : Ev (fun k n => (Go.AM.st P t H (ptr b off) v).bind (f k n)) Q :=
  Ev.prim (st_blk (hS.get hm) hk hs) (h _ (hS.put hu))
theorem Ev.call {H0 B0 B L H} {g : Nat → Nat → Option (Value × AH)} {Post : AH → Value → Prop} {f : Nat → Nat → Value → AH → Option R} {Q : R → Prop} (hS : St H0 B0 B L H)
    (hc : Le B H → Ev g (An B H Post)) (h : ∀ v B' H', Mo B B' → St H0 B0 B' L H' → Post B' v → Ev (fun k n => f k n v H') Q) : Ev (fun k n => Go.AM.b2 (g k n) (f k n)) Q :=
  Ev.b2 (hc hS.lel) fun v H' ha => by
    obtain ⟨B', hm, hS', hp⟩ := hS.call ha
    exact h v B' H' hm hS' hp
theorem Ev.done {H0 B0 B L H} {Post : AH → Value → Prop} {v : Value} (hS : St H0 B0 B L H) (hp : Post B v) : Ev (fun _ _ => some (v, H)) (An B0 H0 Post) := Ev.ret (hS.an hp)

section
variable {t : TypeId} {k : IntKind} {x y : Int}
theorem bin_int {op : BinOp} {v : Value} (h : still P (binOp op t (.int k x) (.int k y)) = some v) (hv : flat1 v = true) : bin P op t (.int k x) (.int k y) = some v := by
  unfold bin; rw [if_pos ⟨rfl, rfl, rfl⟩, h, Option.bind_some, if_pos hv]
theorem bin_add : bin P .add t (.int k x) (.int k y) = some (.int k (k.wrap (x + y))) := bin_int (by simp [binOp, Op.intArith, still]; rfl) rfl
theorem bin_sub : bin P .sub t (.int k x) (.int k y) = some (.int k (k.wrap (x - y))) := bin_int (by simp [binOp, Op.intArith, still]; rfl) rfl
theorem bin_mul : bin P .mul t (.int k x) (.int k y) = some (.int k (k.wrap (x * y))) := bin_int (by simp [binOp, Op.intArith, still]; rfl) rfl
theorem bin_lss : bin P .lss t (.int k x) (.int k y) = some (.bool (decide (x < y))) := bin_int (by simp [binOp, Op.intCmp, still]; rfl) rfl
theorem bin_leq : bin P .leq t (.int k x) (.int k y) = some (.bool (decide (x ≤ y))) := bin_int (by simp [binOp, Op.intCmp, still]; rfl) rfl
theorem bin_gtr : bin P .gtr t (.int k x) (.int k y) = some (.bool (decide (y < x))) := bin_int (by simp [binOp, Op.intCmp, still]; rfl) rfl
theorem bin_geq : bin P .geq t (.int k x) (.int k y) = some (.bool (decide (y ≤ x))) := bin_int (by simp [binOp, Op.intCmp, still]; rfl) rfl
theorem bin_eql : bin P .eql t (.int k x) (.int k y) = some (.bool (decide (x = y))) := bin_int (by simp [binOp, Op.intCmp, still]; rfl) rfl
theorem bin_neq : bin P .neq t (.int k x) (.int k y) = some (.bool (decide (x ≠ y))) := bin_int (by simp [binOp, Op.intCmp, still]; rfl) rfl
theorem bin_quo (h : y ≠ 0) : bin P .quo t (.int k x) (.int k y) = some (.int k (k.wrap (x.tdiv y))) := bin_int (by simp [binOp, Op.intDiv, still, h]; rfl) rfl
theorem bin_rem (h : y ≠ 0) : bin P .rem t (.int k x) (.int k y) = some (.int k (x.tmod y)) := bin_int (by simp [binOp, Op.intDiv, still, h]; rfl) rfl
theorem bin_shl {k' : IntKind} (h : 0 ≤ y) : bin P .shl t (.int k x) (.int k' y) = some (.int k (k.wrap (x * 2 ^ (min y.toNat k.bits)))) := by
  unfold bin; rw [if_pos ⟨rfl, rfl, rfl⟩]
  simp only [binOp, Op.shift, if_neg (show ¬ y < 0 by omega)]; rfl
theorem bin_shr {k' : IntKind} (h : 0 ≤ y) : bin P .shr t (.int k x) (.int k' y) = some (.int k (x.fdiv (2 ^ (min y.toNat k.bits)))) := by
  unfold bin; rw [if_pos ⟨rfl, rfl, rfl⟩]
  simp only [binOp, Op.shift, if_neg (show ¬ y < 0 by omega)]; rfl
theorem bin_or : bin P .or t (.int k x) (.int k y) = some (.int k (k.wrap (BitVec.ofInt k.bits x ||| BitVec.ofInt k.bits y).toNat)) := bin_int (by simp [binOp, Op.intBits, still]; rfl) rfl
theorem un_not {b : Bool} : un P .not (.bool b) = some (.bool !b) := rfl
theorem un_neg : un P .neg (.int k x) = some (.int k (k.wrap (0 - x))) := by simp [un, flat1, Op.unary, Op.intArith, still]; rfl
end
end Go.AM
set_option linter.unusedVariables false
namespace Go.AM
def val : List Nat → Nat
  | [] => 0
  | x :: xs => x + 4294967296 * val xs
def small (xs : List Nat) : Prop := ∀ x, x ∈ xs → x < 4294967296
theorem small.tail {x : Nat} {xs : List Nat} (h : small (x :: xs)) : small xs := fun y hy => h y (.tail _ hy)
theorem small.head {x : Nat} {xs : List Nat} (h : small (x :: xs)) : x < 4294967296 := h x (.head _)
theorem small.append {xs ys : List Nat} (h : small xs) (h' : small ys) : small (xs ++ ys) := fun x hx => (List.mem_append.mp hx).elim (h x) (h' x)
theorem small.take {xs : List Nat} (h : small xs) (n : Nat) : small (xs.take n) := fun x hx => h x (List.mem_of_mem_take hx)
theorem small.drop {xs : List Nat} (h : small xs) (n : Nat) : small (xs.drop n) := fun x hx => h x (List.mem_of_mem_drop hx)
theorem small.set {xs : List Nat} (h : small xs) (n : Nat) {y : Nat} (hy : y < 4294967296) : small (xs.set n y) := fun x hx => (List.mem_or_eq_of_mem_set hx).elim (h x) fun e => e ▸ hy
theorem small.getD {xs : List Nat} (h : small xs) (i : Nat) : xs.getD i 0 < 4294967296 := by
  by_cases hi : i < xs.length
  · rw [List.getD_eq_getElem?_getD, List.getElem?_eq_getElem hi]; exact h _ (List.getElem_mem hi)
  · rw [List.getD_eq_getElem?_getD, List.getElem?_eq_none (by omega)]; decide
end Go.AM
set_option linter.unusedVariables false
set_option linter.unusedSimpArgs false
namespace Go.AM
variable {α β R : Type} {P : Program} {t : TypeId} {x y : Int}
theorem wrap64 {n : Int} (h : -9223372036854775808 ≤ n ∧ n < 9223372036854775808) : IntKind.i64.wrap n = n := by
  simp only [IntKind.wrap, IntKind.bits, IntKind.signed]; simp; omega
theorem wrapu64 {n : Int} : IntKind.u64.wrap n = n % 18446744073709551616 := by
  simp only [IntKind.wrap, IntKind.bits, IntKind.signed]; simp
theorem wrapu32 {n : Int} : IntKind.u32.wrap n = n % 4294967296 := by
  simp only [IntKind.wrap, IntKind.bits, IntKind.signed]; simp
theorem wrapu8 {n : Int} : IntKind.u8.wrap n = n % 256 := by
  simp only [IntKind.wrap, IntKind.bits, IntKind.signed]; simp
theorem bin_add64 (h : -9223372036854775808 ≤ x + y ∧ x + y < 9223372036854775808) : bin P .add t (.int .i64 x) (.int .i64 y) = some (.int .i64 (x + y)) := by rw [bin_add, wrap64 h]
theorem bin_sub64 (h : -9223372036854775808 ≤ x - y ∧ x - y < 9223372036854775808) : bin P .sub t (.int .i64 x) (.int .i64 y) = some (.int .i64 (x - y)) := by rw [bin_sub, wrap64 h]
theorem bin_mul64 (h : -9223372036854775808 ≤ x * y ∧ x * y < 9223372036854775808) : bin P .mul t (.int .i64 x) (.int .i64 y) = some (.int .i64 (x * y)) := by rw [bin_mul, wrap64 h]
theorem lenV_sl {e : TypeId} {p : Option Addr} {n c : Nat} (h : P.underlying t = some (.slice e)) : lenV P t (.slice p n c) = some (.int .i64 (n : Nat)) := by unfold lenV; rw [h]
theorem cv_int {s d : TypeId} {D : TypeDesc} {k k' : IntKind} (hs : P.underlying s = some D) (h : P.underlying d = some (.int k)) : cv P s d (.int k' x) = some (.int k (k.wrap x)) := by unfold cv; rw [hs, h]

def Sc (B : AH) (v : Value) (cs : List Value) : Prop :=
  (v = .slice none 0 0 ∧ cs = []) ∨ ∃ b off cap, v = sl b off cs.length cap ∧ cs.length ≤ cap ∧ (cs = [] ∨ ∃ K, blk B b = some K ∧ rdN K off cs.length = some cs)
theorem Sc.mono {B B' : AH} {v : Value} {cs : List Value} (hm : Mo B B') (h : Sc B v cs) : Sc B' v cs := by
  rcases h with h | ⟨b, off, cap, h1, hc, h2⟩
  · exact .inl h
  · exact .inr ⟨b, off, cap, h1, hc, h2.imp id fun ⟨K, h3, h4⟩ => ⟨K, hm _ _ h3, h4⟩⟩
theorem Sc.nil {B : AH} : Sc B (.slice none 0 0) [] := .inl ⟨rfl, rfl⟩
theorem rdN_some {K : Blk} {off n : Nat} {cs : List Value} (h : rdN K off n = some cs) : off + n ≤ K.cells.length ∧ cs = (K.cells.drop off).take n := by
  unfold rdN at h; split at h
  · exact ⟨by assumption, (Option.some.inj h).symm⟩
  · cases h
theorem rdN_get {K : Blk} {off n i : Nat} {cs : List Value} (h : rdN K off n = some cs) (hi : i < n) : K.cells[off + i]? = cs[i]? := by
  obtain ⟨h1, rfl⟩ := rdN_some h
  rw [List.getElem?_take_of_lt hi, List.getElem?_drop]
theorem Sc.len {B : AH} {v : Value} {cs : List Value} {e : TypeId} (hU : P.underlying t = some (.slice e)) (h : Sc B v cs) : lenV P t v = some (.int .i64 (cs.length : Nat)) := by
  rcases h with ⟨rfl, rfl⟩ | ⟨b, off, cap, rfl, _, _⟩
  · exact lenV_sl hU
  · exact lenV_sl hU
theorem ixA_sl {e : TypeId} {b off len cap : Nat} {k : IntKind} (hU : P.underlying t = some (.slice e)) (hI : (P.info? e).isSome = true) (hz : szT P e = 1) (h : 0 ≤ x ∧ x < len) :
    ixA P t (sl b off len cap) (.int k x) = some (ptr b (off + x.toNat)) := by
  unfold ixA sl; rw [hU]; simp only; rw [if_pos ⟨hI, h.1, by omega⟩, hz, Nat.mul_one]
theorem Sc.ix {B : AH} {v : Value} {cs : List Value} {e : TypeId} {k : IntKind} (hU : P.underlying t = some (.slice e)) (hI : (P.info? e).isSome = true) (hz : szT P e = 1) (ha : aggT P e = some false) (h : Sc B v cs)
    (h0 : 0 ≤ x ∧ x < cs.length) : ∃ p, ixA P t v (.int k x) = some p ∧ ∀ H', (∀ b K, blk B b = some K → blk H' b = some K) → ld P e H' p = cs[x.toNat]? := by
  rcases h with ⟨rfl, rfl⟩ | ⟨b, off, cap, rfl, hc, h⟩
  · exact absurd h0.2 (by simp; omega)
  · refine ⟨_, ixA_sl hU hI hz h0, fun H' hH => ?_⟩
    rcases h with rfl | ⟨K, h1, h2⟩
    · exact absurd h0.2 (by simp; omega)
    · rw [ld_blk (hH _ _ h1), ldK, ha]
      exact rdN_get h2 (by omega)
/-- To its end. -/
theorem Sc.from {B : AH} {v : Value} {cs : List Value} {e : TypeId} {k : IntKind} (hU : P.underlying t = some (.slice e)) (hI : (P.info? e).isSome = true) (hz : szT P e = 1) (h : Sc B v cs) (h0 : 0 ≤ x ∧ x ≤ cs.length) :
    ∃ v', slc P t v (some (.int k x)) none = some v' ∧ Sc B v' (cs.drop x.toNat) := by
  rcases h with ⟨rfl, rfl⟩ | ⟨b, off, cap, rfl, hc, h⟩
  · have : x = 0 := by simp at h0; omega
    subst this
    exact ⟨.slice none 0 0, by unfold slc; rw [hU]; simp [intOr, hI], .inl ⟨rfl, rfl⟩⟩
  · refine ⟨sl b (if cap = x.toNat then off else off + x.toNat) (cs.drop x.toNat).length (cap - x.toNat), ?_, .inr ⟨b, _, _, rfl, by rw [List.length_drop]; omega, ?_⟩⟩
    · unfold slc sl; rw [hU]; simp only [intOr, Option.bind_some]
      rw [if_pos ⟨hI, by omega, by omega, by omega⟩, hz, Nat.mul_one]
      simp
    · by_cases hd : cs.drop x.toNat = []
      · exact .inl hd
      rcases h with rfl | ⟨K, h1, h2⟩
      · exact .inl (by simp)
      · refine .inr ⟨K, h1, ?_⟩
        obtain ⟨h3, h4⟩ := rdN_some h2
        have hl : x.toNat < cs.length := Nat.lt_of_not_le fun hh => hd (List.drop_eq_nil_of_le hh)
        rw [if_neg (by omega), rdN, List.length_drop, if_pos (by omega)]
        conv => rhs; rw [h4]
        rw [List.drop_take, List.drop_drop]

/-- Digits. -/
abbrev u32 (n : Nat) : Value := .int .u32 (n : Int)
class RdN (B : outParam AH) (v : Value) (xs : outParam (List Nat)) : Prop where
  sc : Sc B v (xs.map u32)
  sm : small xs
theorem RdN.mono {B B' : AH} {v : Value} {xs : List Nat} (hm : Mo B B') (h : RdN B v xs) : RdN B' v xs := ⟨h.1.mono hm, h.2⟩
theorem RdN.nil {B : AH} : RdN B (.slice none 0 0) [] := ⟨Sc.nil, fun _ h => absurd h List.not_mem_nil⟩
theorem RdN.len {B : AH} {v : Value} {xs : List Nat} {e : TypeId} (hU : P.underlying t = some (.slice e)) (h : RdN B v xs) : lenV P t v = some (.int .i64 (xs.length : Nat)) := by
  have := h.1.len hU; rwa [List.length_map] at this
theorem RdN.ix {B : AH} {v : Value} {xs : List Nat} {e : TypeId} {k : IntKind} (hU : P.underlying t = some (.slice e)) (hI : (P.info? e).isSome = true) (hz : szT P e = 1) (ha : aggT P e = some false) (h : RdN B v xs)
    (h0 : 0 ≤ x ∧ x < xs.length) : ∃ p, ixA P t v (.int k x) = some p ∧ ∀ H', Mo B H' → ld P e H' p = some (u32 (xs.getD x.toNat 0)) := by
  obtain ⟨p, h1, h2⟩ := h.1.ix (k := k) hU hI hz ha (by rw [List.length_map]; exact h0)
  refine ⟨p, h1, fun H' hH => ?_⟩
  rw [h2 H' hH, List.getElem?_map, List.getElem?_eq_getElem (by omega), List.getD_eq_getElem?_getD, List.getElem?_eq_getElem (by omega)]; rfl
end Go.AM
set_option linter.unusedVariables false
set_option linter.unusedSimpArgs false
namespace Go.AM
variable {α β R : Type} {P : Program} {t u e : TypeId} {z : Value} {sz : Nat} {x y : Int}
/-- What append makes of such elements. -/
def gkz : Value → BK
  | .int .u8 _ => .buf
  | _ => .grow
theorem gkz_gr (z : Value) : gkz z = .grow ∨ gkz z = .buf := by
  unfold gkz
  split
  · exact .inr rfl
  · exact .inl rfl
/-- A type of slices of single cells. -/
class Elt (P : Program) (t : TypeId) (e : outParam TypeId) (z : outParam Value) (sz : outParam Nat) : Prop where
  U : P.underlying t = some (.slice e)
  I : (P.info? e).isSome = true
  S : szT P e = 1
  A : aggT P e = some false
  Z : zeroT P e = some z
  Y : byT P e = sz
  zc : isCell z = true
  zn : z.cells.toList = [z]
  K : gk P e = gkz z
theorem rep_one (z : Value) (n : Nat) : rep [z] n = List.replicate n z := by
  induction n with
  | zero => rfl
  | succ n ih => rw [rep, ih]; rfl
theorem size_cells {z : Value} (h : z.cells.toList = [z]) : z.cells.size = 1 := by rw [← Array.length_toList, h]; rfl
theorem okCells_of {z : Value} (h : isCell z = true) : okCells z = true := by
  cases z with
  | agg cs => exact absurd h (by simp [isCell])
  | _ => exact h

theorem Ev.mkS {H0 B0 B L H} {m : Nat} {f : Nat → Nat → Value → AH → Option R} {Q : R → Prop} (hE : Elt P t e z sz) (hS : St H0 B0 B L H) (hm : m * sz ≤ 281474976710656) (hm' : m ≤ 9223372036854775807)
    (h : ∀ b B' H', Mo B B' → St H0 B0 B' ((b, ⟨List.replicate m z, e, .fix⟩) :: L) H' → Ev (fun k n => f k n (sl b 0 m m) H') Q) :
    Ev (fun k n => Go.AM.b2 (Go.AM.mkS P t H (.int .i64 (m : Int)) (.int .i64 (m : Int))) (f k n)) Q := by
  obtain ⟨B', hm1, hS'⟩ := hS.mkB (List.replicate m z) e .fix
  refine Ev.prim2 ?_ (h H.length B' _ hm1 hS')
  unfold Go.AM.mkS
  rw [hE.U]; simp only [hE.Z, hE.Y, hE.S, hE.zn, Option.bind_some, rep_one]
  rw [if_pos ⟨by omega, by omega, by omega, by omega, size_cells hE.zn, okCells_of hE.zc⟩]
  simp
theorem Ev.buildS {H0 B0 B L H} {m : Nat} {parts : List (Nat × Value)} {cs : List Value} {f : Nat → Nat → Value → AH → Option R} {Q : R → Prop} (hE : Elt P t e z sz) (hS : St H0 B0 B L H) (hm : m ≤ 16777216)
    (hf : fillB (fun i => some (i * 1, 1)) (List.replicate m z) parts = some cs)
    (h : ∀ b B' H', Mo B B' → St H0 B0 B' ((b, ⟨cs, e, .fix⟩) :: L) H' → Ev (fun k n => f k n (sl b 0 m m) H') Q) :
    Ev (fun k n => Go.AM.b2 (Go.AM.buildS P t H m parts) (f k n)) Q := by
  obtain ⟨B', hm1, hS'⟩ := hS.mkB cs e .fix
  refine Ev.prim2 ?_ (h H.length B' _ hm1 hS')
  unfold Go.AM.buildS
  rw [hE.U]; simp only [hE.Z, hE.S, hE.zn, Option.bind_some, rep_one]
  rw [if_pos ⟨by omega, size_cells hE.zn⟩, hf]; rfl

theorem sliceCells_of {H : AH} {v : Value} {cs : List Value} (h : Sc H v cs) : sliceCells 1 H v cs.length = some cs := by
  rcases h with ⟨rfl, rfl⟩ | ⟨b, off, cap, rfl, hc, h⟩
  · rfl
  · show (if cs.length = 0 then some [] else if cs.length ≤ cs.length then (blk H b).bind fun k => rdN k off (cs.length * 1) else none) = some cs
    by_cases hn : cs.length = 0
    · rw [if_pos hn, List.length_eq_zero_iff.mp hn]
    · rw [if_neg hn, if_pos (Nat.le_refl _)]
      rcases h with rfl | ⟨K, h1, h2⟩
      · exact absurd rfl hn
      · rw [h1, Option.bind_some, Nat.mul_one, h2]
theorem lenOf_of {H : AH} {v : Value} {cs : List Value} (h : Sc H v cs) : lenOf v = some cs.length := by
  rcases h with ⟨rfl, rfl⟩ | ⟨b, off, cap, rfl, hc, h⟩ <;> rfl
theorem isNotStr_of {H : AH} {v : Value} {cs : List Value} (h : Sc H v cs) : isNotStr v = true := by
  rcases h with ⟨rfl, rfl⟩ | ⟨b, off, cap, rfl, hc, h⟩ <;> rfl
theorem ap_eq {u' : TypeId} {H : AH} {s v : Value} {ds : List Value} (hE : Elt P t e z sz) (hu : P.underlying u = some (.slice u')) (hx : Sc H v ds) (hd : ds.all isCell = true) :
    ap P t u H s v = apS (gkz z) 1 sz e H s ds.length ds := by
  unfold ap
  rw [hE.U, hu]
  simp only [hE.Z, hE.S, hE.Y, hE.K, Option.bind_some]
  rw [if_pos ⟨by omega, size_cells hE.zn, isNotStr_of hx⟩, lenOf_of hx, Option.bind_some, sliceCells_of hx, Option.bind_some, if_pos hd]
/-- Onto what has no room. -/
theorem Ev.apNew {H0 B0 B L H} {u' : TypeId} {s v : Value} {ds : List Value} {f : Nat → Nat → Value → AH → Option R} {Q : R → Prop} (hE : Elt P t e z sz) (hu : P.underlying u = some (.slice u')) (hS : St H0 B0 B L H)
    (hs : s = .slice none 0 0 ∨ ∃ b off n, s = sl b off n 0) (hx : Sc H v ds) (hd : ds.all isCell = true) (hn : ds ≠ []) (hl : ds.length * sz ≤ 140737488355328 ∧ ds.length ≤ 9223372036854775807)
    (h : ∀ b B' H', Mo B B' → St H0 B0 B' ((b, ⟨ds, e, gkz z⟩) :: L) H' → Ev (fun k n => f k n (sl b 0 ds.length (ds.length + 1)) H') Q) :
    Ev (fun k n => Go.AM.b2 (Go.AM.ap P t u H s v) (f k n)) Q := by
  obtain ⟨B', hm1, hS'⟩ := hS.mkB ds e (gkz z)
  refine Ev.prim2 ?_ (h H.length B' _ hm1 hS')
  rw [ap_eq hE hu hx hd]
  have hn' : ds.length ≠ 0 := fun e => hn (List.length_eq_zero_iff.mp e)
  rcases hs with rfl | ⟨b, off, n, rfl⟩
  · simp only [apS, if_neg hn', if_pos hl]
  · simp only [apS, sl, if_neg hn', if_pos hl, if_true]
/-- Onto what is full. -/
theorem Ev.apFull {H0 B0 B L H} {u' : TypeId} {b : Nat} {cs : List Value} {v : Value} {ds : List Value} {f : Nat → Nat → Value → AH → Option R} {Q : R → Prop} (hE : Elt P t e z sz) (hu : P.underlying u = some (.slice u')) (hS : St H0 B0 B L H)
    (hb : blk H b = some ⟨cs, e, .fix⟩) (hc : cs ≠ []) (hx : Sc H v ds) (hd : ds.all isCell = true) (hn : ds ≠ []) (hl : (cs.length + ds.length) * sz ≤ 140737488355328 ∧ cs.length + ds.length ≤ 9223372036854775807)
    (h : ∀ b B' H', Mo B B' → St H0 B0 B' ((b, ⟨cs ++ ds, e, gkz z⟩) :: L) H' → Ev (fun k n => f k n (sl b 0 (cs ++ ds).length ((cs ++ ds).length + 1)) H') Q) :
    Ev (fun k n => Go.AM.b2 (Go.AM.ap P t u H (sl b 0 cs.length cs.length) v) (f k n)) Q := by
  obtain ⟨B', hm1, hS'⟩ := hS.mkB (cs ++ ds) e (gkz z)
  refine Ev.prim2 ?_ (h H.length B' _ hm1 hS')
  rw [ap_eq hE hu hx hd]
  have hn' : ds.length ≠ 0 := fun e => hn (List.length_eq_zero_iff.mp e)
  have hc' : cs.length ≠ 0 := fun e => hc (List.length_eq_zero_iff.mp e)
  simp only [apS, sl, if_neg hn', if_neg hc', hb, Option.bind_some, rdN, Nat.mul_one, Nat.zero_add, Nat.le_refl, if_true, List.drop_zero, List.take_length, hl, and_self, List.length_append]
  rw [if_neg (by omega)]
/-- Onto what was grown. -/
theorem Ev.apGrow {H0 B0 B L H} {u' : TypeId} {b cap : Nat} {cs : List Value} {v : Value} {ds : List Value} {f : Nat → Nat → Value → AH → Option R} {Q : R → Prop} (hE : Elt P t e z sz) (hu : P.underlying u = some (.slice u'))
    (hS : St H0 B0 B ((b, ⟨cs, e, gkz z⟩) :: L) H) (hc : cap ≠ 0) (hx : Sc H v ds) (hd : ds.all isCell = true) (hn : ds ≠ []) (hl : (cs.length + ds.length) * sz ≤ 140737488355328 ∧ cs.length + ds.length ≤ 9223372036854775807)
    (h : ∀ b B' H', Mo B B' → St H0 B0 B' ((b, ⟨cs ++ ds, e, gkz z⟩) :: L) H' → Ev (fun k n => f k n (sl b 0 (cs ++ ds).length ((cs ++ ds).length + 1)) H') Q) :
    Ev (fun k n => Go.AM.b2 (Go.AM.ap P t u H (sl b 0 cs.length cap) v) (f k n)) Q := by
  have hb := hS.get (.head _)
  obtain ⟨B', hm1, hS'⟩ := hS.kill.mkB (cs ++ ds) e (gkz z)
  rw [length_kill] at hS'
  refine Ev.prim2 ?_ (h H.length B' _ hm1 hS')
  rw [ap_eq hE hu hx hd]
  have hn' : ds.length ≠ 0 := fun e => hn (List.length_eq_zero_iff.mp e)
  rcases gkz_gr z with hg | hg <;>
    simp only [apS, sl, if_neg hn', if_neg hc, hb, hg, Option.bind_some, rdN, Nat.mul_one, Nat.zero_add, Nat.le_refl, if_true, List.drop_zero, List.take_length, hl, and_self, List.length_append]

theorem St.sc {H0 B0 B L H} {b cap : Nat} {cs : List Value} {kd : BK} (hS : St H0 B0 B L H) (hm : (b, ⟨cs, e, kd⟩) ∈ L) (hc : cs.length ≤ cap) : Sc H (sl b 0 cs.length cap) cs :=
  .inr ⟨b, 0, cap, rfl, hc, .inr ⟨_, hS.get hm, by simp [rdN]⟩⟩
theorem Sc.up {B H : AH} {v : Value} {cs : List Value} (h : Sc B v cs) (hL : Mo B H) : Sc H v cs := h.mono hL
/-- Nobody changes it any more. -/
theorem St.freezeSc {H0 B0 B L H} {b cap : Nat} {cs : List Value} {kd : BK} (hS : St H0 B0 B ((b, ⟨cs, e, kd⟩) :: L) H) (hc : cs.length ≤ cap) : ∃ B', Mo B B' ∧ Sc B' (sl b 0 cs.length cap) cs ∧ St H0 B0 B' L H := by
  obtain ⟨B', h1, h2, h3⟩ := hS.freeze
  exact ⟨B', h1, .inr ⟨b, 0, cap, rfl, hc, .inr ⟨_, h2, by simp [rdN]⟩⟩, h3⟩

theorem St.freezeN {H0 B0 B L H} {b cap n : Nat} {xs : List Nat} {kd : BK} (hS : St H0 B0 B ((b, ⟨xs.map u32, e, kd⟩) :: L) H) (hs : small xs) (hn : n = xs.length) (hc : xs.length ≤ cap) : ∃ B', Mo B B' ∧ RdN B' (sl b 0 n cap) xs ∧ St H0 B0 B' L H := by
  obtain ⟨B', h1, h2, h3⟩ := hS.freezeSc (cap := cap) (by rw [List.length_map]; exact hc)
  rw [List.length_map, ← hn] at h2
  exact ⟨B', h1, ⟨h2, hs⟩, h3⟩
theorem all_u32 (xs : List Nat) : (xs.map u32).all isCell = true := by simp [isCell]
end Go.AM
set_option linter.unusedVariables false
set_option linter.unusedSimpArgs false
namespace Go.AM
variable {α β R : Type} {P : Program} {t s d : TypeId} {a b : Nat}
abbrev i64 (n : Nat) : Value := .int .i64 (n : Int)
abbrev u64 (n : Nat) : Value := .int .u64 (n : Int)
abbrev u8 (n : Nat) : Value := .int .u8 (n : Int)
theorem addN (h : a + b < 9223372036854775808) : bin P .add t (i64 a) (i64 b) = some (i64 (a + b)) := by rw [bin_add64 (by omega)]; rfl
theorem subN (h : b ≤ a ∧ a < 9223372036854775808) : bin P .sub t (i64 a) (i64 b) = some (i64 (a - b)) := by rw [bin_sub64 (by omega), show ((a : Int) - (b : Int)) = ((a - b : Nat) : Int) by omega]
theorem mulN (h : a * b < 9223372036854775808) : bin P .mul t (i64 a) (i64 b) = some (i64 (a * b)) := by
  rw [bin_mul64 (by rw [← Int.natCast_mul]; omega), ← Int.natCast_mul]
theorem lssN {k : IntKind} : bin P .lss t (.int k (a : Int)) (.int k (b : Int)) = some (.bool (decide (a < b))) := by rw [bin_lss]; simp
theorem leqN {k : IntKind} : bin P .leq t (.int k (a : Int)) (.int k (b : Int)) = some (.bool (decide (a ≤ b))) := by rw [bin_leq]; simp
theorem gtrN {k : IntKind} : bin P .gtr t (.int k (a : Int)) (.int k (b : Int)) = some (.bool (decide (b < a))) := by rw [bin_gtr]; simp
theorem geqN {k : IntKind} : bin P .geq t (.int k (a : Int)) (.int k (b : Int)) = some (.bool (decide (b ≤ a))) := by rw [bin_geq]; simp
theorem eqlN {k : IntKind} : bin P .eql t (.int k (a : Int)) (.int k (b : Int)) = some (.bool (decide (a = b))) := by
  rw [bin_eql]; congr 2; exact decide_eq_decide.mpr (by omega)
theorem neqN {k : IntKind} : bin P .neq t (.int k (a : Int)) (.int k (b : Int)) = some (.bool (decide (a ≠ b))) := by
  rw [bin_neq]; congr 2; exact decide_eq_decide.mpr (by omega)
theorem quoN (h : b ≠ 0 ∧ a < 9223372036854775808) : bin P .quo t (i64 a) (i64 b) = some (i64 (a / b)) := by
  rw [bin_quo (by omega)]
  have e : (a : Int).tdiv (b : Int) = ((a / b : Nat) : Int) := by rw [Int.tdiv_eq_ediv_of_nonneg (by omega)]; omega
  have : a / b ≤ a := Nat.div_le_self ..
  rw [e]; generalize a / b = q at this ⊢; rw [wrap64 (by omega)]
theorem remN {k : IntKind} (h : b ≠ 0) : bin P .rem t (.int k (a : Int)) (.int k (b : Int)) = some (.int k ((a % b : Nat) : Int)) := by
  rw [bin_rem (by omega)]
  have e : (a : Int).tmod (b : Int) = ((a % b : Nat) : Int) := by rw [Int.tmod_eq_emod_of_nonneg (by omega)]; omega
  rw [e]
theorem quoQ (h : b ≠ 0 ∧ a < 18446744073709551616) : bin P .quo t (u64 a) (u64 b) = some (u64 (a / b)) := by
  rw [bin_quo (by omega)]
  have e : (a : Int).tdiv (b : Int) = ((a / b : Nat) : Int) := by rw [Int.tdiv_eq_ediv_of_nonneg (by omega)]; omega
  have : a / b ≤ a := Nat.div_le_self ..
  rw [e]; generalize a / b = q at this ⊢; rw [wrapu64, show (q : Int) % 18446744073709551616 = (q : Int) by omega]
theorem addQ (h : a + b < 18446744073709551616) : bin P .add t (u64 a) (u64 b) = some (u64 (a + b)) := by
  rw [bin_add, wrapu64, show ((a : Int) + (b : Int)) % 18446744073709551616 = ((a + b : Nat) : Int) by omega]
theorem subQ (h : b ≤ a ∧ a < 18446744073709551616) : bin P .sub t (u64 a) (u64 b) = some (u64 (a - b)) := by
  rw [bin_sub, wrapu64, show ((a : Int) - (b : Int)) % 18446744073709551616 = ((a - b : Nat) : Int) by omega]
theorem mulQ (h : a * b < 18446744073709551616) : bin P .mul t (u64 a) (u64 b) = some (u64 (a * b)) := by
  rw [bin_mul, wrapu64, ← Int.natCast_mul, show ((a * b : Nat) : Int) % 18446744073709551616 = ((a * b : Nat) : Int) by omega]
theorem toU64 {D : TypeDesc} {k : IntKind} (h : a < 18446744073709551616) (hs : P.underlying s = some D) (hd : P.underlying d = some (.int .u64)) : cv P s d (.int k (a : Int)) = some (u64 a) := by
  rw [cv_int hs hd, wrapu64, show (a : Int) % 18446744073709551616 = (a : Int) by omega]
theorem toU32 {D : TypeDesc} {k : IntKind} (hs : P.underlying s = some D) (hd : P.underlying d = some (.int .u32)) : cv P s d (.int k (a : Int)) = some (u32 (a % 4294967296)) := by
  rw [cv_int hs hd, wrapu32]; rfl
theorem toU8 {D : TypeDesc} {k : IntKind} (hs : P.underlying s = some D) (hd : P.underlying d = some (.int .u8)) : cv P s d (.int k (a : Int)) = some (u8 (a % 256)) := by
  rw [cv_int hs hd, wrapu8]; rfl
theorem toI64 {D : TypeDesc} {k : IntKind} (h : a < 9223372036854775808) (hs : P.underlying s = some D) (hd : P.underlying d = some (.int .i64)) : cv P s d (.int k (a : Int)) = some (i64 a) := by
  rw [cv_int hs hd, wrap64 (by omega)]
theorem shrN {k k' : IntKind} (h : b < k.bits) : bin P .shr t (.int k (a : Int)) (.int k' (b : Int)) = some (.int k ((a / 2 ^ b : Nat) : Int)) := by
  rw [bin_shr (by omega), show min (b : Int).toNat k.bits = b by rw [Int.toNat_natCast]; omega, Int.fdiv_eq_ediv_of_nonneg _ (by exact Int.le_of_lt (Int.pow_pos (by decide)))]
  rw [Int.natCast_ediv, Int.natCast_pow]; rfl
def Pu (H : AH) (Post : Value → Prop) (r : Value × AH) : Prop := ∃ v, r = (v, H) ∧ Post v
theorem Pu.an {B H : AH} {Post : Value → Prop} {g : Nat → Nat → Option (Value × AH)} (hL : Le B H) (h : Ev g (Pu H Post)) : Ev g (An B H fun _ => Post) :=
  h.mono fun r ⟨v, e, hv⟩ => by subst e; exact (St.start hL).an hv
end Go.AM
set_option linter.unusedVariables false
namespace Go.AM
variable {α β R : Type} {P : Program} {t s d : TypeId} {a n : Nat}
section
variable {k : IntKind}
theorem lssL : bin P .lss t (.int k (a : Int)) (.int k (@OfNat.ofNat Int n instOfNat)) = some (.bool (decide (a < @OfNat.ofNat Nat n (instOfNatNat n)))) := lssN
theorem leqL : bin P .leq t (.int k (a : Int)) (.int k (@OfNat.ofNat Int n instOfNat)) = some (.bool (decide (a ≤ @OfNat.ofNat Nat n (instOfNatNat n)))) := leqN
theorem gtrL : bin P .gtr t (.int k (a : Int)) (.int k (@OfNat.ofNat Int n instOfNat)) = some (.bool (decide (@OfNat.ofNat Nat n (instOfNatNat n) < a))) := gtrN
theorem geqL : bin P .geq t (.int k (a : Int)) (.int k (@OfNat.ofNat Int n instOfNat)) = some (.bool (decide (@OfNat.ofNat Nat n (instOfNatNat n) ≤ a))) := geqN
theorem eqlL : bin P .eql t (.int k (a : Int)) (.int k (@OfNat.ofNat Int n instOfNat)) = some (.bool (decide (a = @OfNat.ofNat Nat n (instOfNatNat n)))) := eqlN
theorem neqL : bin P .neq t (.int k (a : Int)) (.int k (@OfNat.ofNat Int n instOfNat)) = some (.bool (decide (a ≠ @OfNat.ofNat Nat n (instOfNatNat n)))) := neqN
theorem remL (h : @OfNat.ofNat Nat n (instOfNatNat n) ≠ 0) : bin P .rem t (.int k (a : Int)) (.int k (@OfNat.ofNat Int n instOfNat)) = some (.int k ((a % @OfNat.ofNat Nat n (instOfNatNat n) : Nat) : Int)) := remN h
theorem shrL {k' : IntKind} (h : @OfNat.ofNat Nat n (instOfNatNat n) < k.bits) : bin P .shr t (.int k (a : Int)) (.int k' (@OfNat.ofNat Int n instOfNat)) = some (.int k ((a / 2 ^ @OfNat.ofNat Nat n (instOfNatNat n) : Nat) : Int)) := shrN h
end
theorem addL (h : a + @OfNat.ofNat Nat n (instOfNatNat n) < 9223372036854775808) : bin P .add t (i64 a) (.int .i64 (@OfNat.ofNat Int n instOfNat)) = some (i64 (a + @OfNat.ofNat Nat n (instOfNatNat n))) := addN h
theorem subL (h : @OfNat.ofNat Nat n (instOfNatNat n) ≤ a ∧ a < 9223372036854775808) : bin P .sub t (i64 a) (.int .i64 (@OfNat.ofNat Int n instOfNat)) = some (i64 (a - @OfNat.ofNat Nat n (instOfNatNat n))) := subN h
theorem lmul (h : @OfNat.ofNat Nat n (instOfNatNat n) * a < 9223372036854775808) : bin P .mul t (.int .i64 (@OfNat.ofNat Int n instOfNat)) (i64 a) = some (i64 (@OfNat.ofNat Nat n (instOfNatNat n) * a)) := mulN h
theorem mulL (h : a * @OfNat.ofNat Nat n (instOfNatNat n) < 9223372036854775808) : bin P .mul t (i64 a) (.int .i64 (@OfNat.ofNat Int n instOfNat)) = some (i64 (a * @OfNat.ofNat Nat n (instOfNatNat n))) := mulN h
theorem quoL (h : @OfNat.ofNat Nat n (instOfNatNat n) ≠ 0 ∧ a < 9223372036854775808) : bin P .quo t (i64 a) (.int .i64 (@OfNat.ofNat Int n instOfNat)) = some (i64 (a / @OfNat.ofNat Nat n (instOfNatNat n))) := quoN h
end Go.AM
namespace Go.AM
variable {P : Program} {t e : TypeId} {z : Value} {sz : Nat}
theorem RdN.ixN {B : AH} {v : Value} {xs : List Nat} {k : IntKind} {i : Nat} (h : RdN B v xs) (hE : Elt P t e z sz) (h0 : i < xs.length) : ∃ p, ixA P t v (.int k (i : Int)) = some p ∧ ∀ H', Mo B H' → ld P e H' p = some (u32 (xs.getD i 0)) := by
  obtain ⟨p, h1, h2⟩ := h.ix (x := (i : Int)) (k := k) hE.U hE.I hE.S hE.A (by omega)
  exact ⟨p, h1, fun H' hm => by have := h2 H' hm; rwa [Int.toNat_natCast] at this⟩
theorem RdN.lenN {B : AH} {v : Value} {xs : List Nat} (h : RdN B v xs) (hE : Elt P t e z sz) : lenV P t v = some (i64 xs.length) := h.len hE.U
end Go.AM
set_option linter.unusedVariables false
set_option linter.unusedVariables false
namespace Go.AM
variable {R : Type} {P : Program} {t : TypeId}
theorem cells_one {v : Value} (h : isCell v = true) : v.cells.toList = [v] := by
  cases v with
  | agg cs => exact absurd h (by simp [isCell])
  | tuple cs => exact absurd h (by simp [isCell])
  | _ => rfl
theorem RdN.cell {B : AH} {v : Value} {xs : List Nat} (h : RdN B v xs) : isCell v = true := by
  rcases h.1 with ⟨rfl, _⟩ | ⟨b, off, cap, rfl, _⟩ <;> rfl
end Go.AM
set_option linter.unusedVariables false
set_option linter.unusedSimpArgs false
namespace Go.AM
variable {α β R : Type} {P : Program}

class PrimEq (E : Option α) (a : outParam α) : Prop where
  eq : E = some a
class PrimC (E : Option α) (p : outParam Prop) (a : outParam α) : Prop where
  eq : p → E = some a
class IsCell (v : Value) : Prop where
  is : isCell v = true
class Nth (cs : List Value) (i : Nat) (v : outParam Value) : Prop where
  eq : cs[i]? = some v
class InL (b : Nat) (K : outParam Blk) (L : List (Nat × Blk)) : Prop where
  mem : (b, K) ∈ L
class UpL (b : Nat) (K : outParam Blk) (K' : Blk) (L : List (Nat × Blk)) (L' : outParam (List (Nat × Blk))) : Prop where
  upd : Upd b K K' L L'
class CellsOf (v : Value) (l : outParam (List Value)) : Prop where
  eq : v.cells.toList = l
  ok : okCells v = true
/-- A type's nought. -/
class ZeroOf (P : Program) (t : TypeId) (z : outParam Value) : Prop where
  eq : zeroT P t = some z
class AggOf (P : Program) (t : TypeId) (b : outParam Bool) : Prop where
  eq : aggT P t = some b
class SzOf (P : Program) (t : TypeId) (n : outParam Nat) : Prop where
  eq : szT P t = n
/-- Cells from one on. -/
class Cut (cs : List Value) (off n : Nat) (l : outParam (List Value)) : Prop where
  le : off + n ≤ cs.length
  eq : (cs.drop off).take n = l
class AllCell (l : List Value) : Prop where
  all : l.all isCell = true
class Und (P : Program) (t : TypeId) (D : outParam TypeDesc) : Prop where
  eq : P.underlying t = some D

instance {n : Int} {k : IntKind} : IsCell (.int k n) := ⟨rfl⟩
instance {b : Bool} : IsCell (.bool b) := ⟨rfl⟩
instance {s : ByteArray} : IsCell (.string s) := ⟨rfl⟩
instance {p : Option Addr} {n c : Nat} : IsCell (.slice p n c) := ⟨rfl⟩
instance {b o n c : Nat} : IsCell (sl b o n c) := ⟨rfl⟩
instance {b o : Nat} : IsCell (ptr b o) := ⟨rfl⟩
instance {p : Option Addr} : IsCell (.pointer p) := ⟨rfl⟩
instance {c : Fn} {x y : Array Value} : IsCell (.func c x y) := ⟨rfl⟩
instance : IsCell .nilFunc := ⟨rfl⟩
instance {B : AH} {v : Value} {xs : List Nat} [h : RdN B v xs] : IsCell v := ⟨h.cell⟩
instance : AllCell [] := ⟨rfl⟩
instance {v : Value} {l : List Value} [h : IsCell v] [k : AllCell l] : AllCell (v :: l) := ⟨by simp only [List.all_cons, h.is, k.all]; rfl⟩
instance {l : List Value} [h : AllCell l] : CellsOf (.agg (List.toArray l)) l := ⟨rfl, h.all⟩
instance (priority := low) {v : Value} [h : IsCell v] : CellsOf v [v] := ⟨cells_one h.is, okCells_of h.is⟩
instance {a : Value} {l : List Value} : Nth (a :: l) 0 a := ⟨rfl⟩
instance {a v : Value} {l : List Value} {n : Nat} [h : Nth l n v] : Nth (a :: l) (n + 1) v := ⟨h.eq⟩
instance {b : Nat} {K : Blk} {L : List (Nat × Blk)} : InL b K ((b, K) :: L) := ⟨.head _⟩
instance (priority := low) {b : Nat} {K : Blk} {x : Nat × Blk} {L : List (Nat × Blk)} [h : InL b K L] : InL b K (x :: L) := ⟨.tail _ h.mem⟩
instance {b : Nat} {K K' : Blk} {L : List (Nat × Blk)} : UpL b K K' ((b, K) :: L) ((b, K') :: L) := ⟨.head _⟩
instance (priority := low) {b : Nat} {K K' : Blk} {x : Nat × Blk} {L L' : List (Nat × Blk)} [h : UpL b K K' L L'] : UpL b K K' (x :: L) (x :: L') := ⟨.tail _ h.upd⟩
class CutN (cs : List Value) (n : Nat) (l : outParam (List Value)) : Prop where
  le : n ≤ cs.length
  eq : cs.take n = l
instance {cs : List Value} : CutN cs 0 [] := ⟨Nat.zero_le _, rfl⟩
instance {a : Value} {cs l : List Value} {n : Nat} [h : CutN cs n l] : CutN (a :: cs) (n + 1) (a :: l) := ⟨Nat.succ_le_succ h.le, by rw [List.take_succ_cons, h.eq]⟩
instance {cs l : List Value} {n : Nat} [h : CutN cs n l] : Cut cs 0 n l := ⟨by rw [Nat.zero_add]; exact h.le, h.eq⟩
instance {a : Value} {cs l : List Value} {off n : Nat} [h : Cut cs off n l] : Cut (a :: cs) (off + 1) n l := ⟨by have := h.le; simp only [List.length_cons]; omega, h.eq⟩
/-- Cells put over others. -/
class SplN (cs l : List Value) (r : outParam (List Value)) : Prop where
  le : l.length ≤ cs.length
  eq : l ++ cs.drop l.length = r
instance {cs : List Value} : SplN cs [] cs := ⟨Nat.zero_le _, rfl⟩
instance {a b : Value} {cs l r : List Value} [h : SplN cs l r] : SplN (a :: cs) (b :: l) (b :: r) := ⟨Nat.succ_le_succ h.le, by rw [List.length_cons, List.drop_succ_cons, List.cons_append, h.eq]⟩
class Spl (cs : List Value) (off : Nat) (l : List Value) (r : outParam (List Value)) : Prop where
  le : off + l.length ≤ cs.length
  eq : spl cs off l = r
instance {cs l r : List Value} [h : SplN cs l r] : Spl cs 0 l r := ⟨by rw [Nat.zero_add]; exact h.le, by unfold spl; rw [List.take_zero, List.nil_append, Nat.zero_add]; exact h.eq⟩
instance {a : Value} {cs l r : List Value} {off : Nat} [h : Spl cs off l r] : Spl (a :: cs) (off + 1) l (a :: r) :=
  ⟨by have := h.le; simp only [List.length_cons]; omega, by have := h.eq; unfold spl at this ⊢; rw [← this, Nat.add_right_comm, List.drop_succ_cons, List.take_succ_cons, List.cons_append]⟩

instance {t : TypeId} {cs : List Value} {off : Nat} {v : Value} [h : AggOf P t false] [k : Nth cs off v] : PrimEq (ldK P t cs off) v := ⟨by unfold ldK; rw [h.eq]; exact k.eq⟩
instance {t : TypeId} {cs l : List Value} {off n : Nat} [h : AggOf P t true] [s : SzOf P t n] [k : Cut cs off n l] : PrimEq (ldK P t cs off) (.agg (List.toArray l)) := ⟨by
  unfold ldK; rw [h.eq, s.eq]; simp only; rw [if_pos k.le, k.eq]⟩
instance {t : TypeId} {cs r : List Value} {off : Nat} {v : Value} [h : AggOf P t false] [s : SzOf P t 1] [c : IsCell v] [k : Spl cs off [v] r] : PrimEq (stK P t cs off v) r := ⟨by
  have hl : off < cs.length := by have := k.le; simp only [List.length_cons, List.length_nil] at this; omega
  unfold stK; rw [h.eq]; simp only; rw [if_pos ⟨s.eq, hl, c.is⟩, ← k.eq]
  unfold spl
  rw [List.set_eq_take_append_cons_drop, if_pos hl]; rfl⟩
instance {t : TypeId} {cs l r : List Value} {off n : Nat} [h : AggOf P t true] [s : SzOf P t n] [c : AllCell l] [k : Spl cs off l r] [hn : CutN l n l] : PrimEq (stK P t cs off (.agg (List.toArray l))) r := ⟨by
  have e : l.length = n := by have h1 := hn.le; have h2 := congrArg List.length hn.eq; rw [List.length_take] at h2; omega
  unfold stK; rw [h.eq]; simp only; rw [if_pos ⟨by rw [s.eq, ← e]; exact k.le, by rw [s.eq, ← e]; rfl, c.all⟩, ← k.eq]⟩
instance {H0 B0 B : AH} {L : List (Nat × Blk)} {H : AH} {b off : Nat} {K : Blk} {v : Value} {t : TypeId} [hS : St H0 B0 B L H] [hm : InL b K L] [hv : PrimEq (ldK P t K.cells off) v] : PrimEq (ld P t H (ptr b off)) v :=
  ⟨(ld_blk (hS.get hm.mem)).trans hv.eq⟩
theorem Ev.stC {H0 B0 B : AH} {L L' : List (Nat × Blk)} {H : AH} {b off : Nat} {cs0 : List Value} {e : TypeId} {v : Value} {cs : List Value} {t : TypeId} {f : Nat → Nat → AH → Option R} {Q : R → Prop} [hS : St H0 B0 B L H] [hm : InL b ⟨cs0, e, .fix⟩ L] [hs : PrimEq (stK P t cs0 off v) cs]
    [hu : UpL b ⟨cs0, e, .fix⟩ ⟨cs, e, .fix⟩ L L'] (h : ∀ H', St H0 B0 B L' H' → Ev (fun k n => f k n H') Q) : Ev (fun k n => (Go.AM.st P t H (ptr b off) v).bind (f k n)) Q :=
  Ev.st hS hm.mem hs.eq rfl hu.upd h
theorem Ev.newC {H0 B0 B : AH} {L : List (Nat × Blk)} {H : AH} {t : TypeId} {z : Value} {l : List Value} {f : Nat → Nat → Value → AH → Option R} {Q : R → Prop} [hz : ZeroOf P t z] [hl : CellsOf z l] [hS : St H0 B0 B L H]
    (h : ∀ b H', St H0 B0 B ((b, ⟨l, t, .fix⟩) :: L) H' → Ev (fun k n => f k n (ptr b 0) H') Q) : Ev (fun k n => Go.AM.b2 (Go.AM.newV P t H) (f k n)) Q := by
  have e : Go.AM.newV P t H = Go.AM.box t H z := by unfold Go.AM.newV; rw [hz.eq]; rfl
  rw [e]
  exact Ev.prim2 (by unfold Go.AM.box; rw [if_pos hl.ok, hl.eq]) (h H.length _ (hS.mkB' l t .fix))
theorem Ev.boxC {H0 B0 B : AH} {L : List (Nat × Blk)} {H : AH} {t : TypeId} {v : Value} {l : List Value} {f : Nat → Nat → Value → AH → Option R} {Q : R → Prop} [hl : CellsOf v l] [hS : St H0 B0 B L H]
    (h : ∀ b H', St H0 B0 B ((b, ⟨l, t, .fix⟩) :: L) H' → Ev (fun k n => f k n (ptr b 0) H') Q) : Ev (fun k n => Go.AM.b2 (Go.AM.box t H v) (f k n)) Q :=
  Ev.prim2 (by unfold Go.AM.box; rw [if_pos hl.ok, hl.eq]) (h H.length _ (hS.mkB' l t .fix))

section
variable {t s d : TypeId} {a b n : Nat} {x y : Int} {k k' : IntKind}
instance (priority := 900) : PrimEq (bin P .lss t (.int k (a : Int)) (.int k (no_index (@OfNat.ofNat Int n instOfNat)))) (.bool (decide (a < @OfNat.ofNat Nat n (instOfNatNat n)))) := ⟨lssL⟩
instance (priority := 900) : PrimEq (bin P .leq t (.int k (a : Int)) (.int k (no_index (@OfNat.ofNat Int n instOfNat)))) (.bool (decide (a ≤ @OfNat.ofNat Nat n (instOfNatNat n)))) := ⟨leqL⟩
instance (priority := 900) : PrimEq (bin P .gtr t (.int k (a : Int)) (.int k (no_index (@OfNat.ofNat Int n instOfNat)))) (.bool (decide (@OfNat.ofNat Nat n (instOfNatNat n) < a))) := ⟨gtrL⟩
instance (priority := 900) : PrimEq (bin P .geq t (.int k (a : Int)) (.int k (no_index (@OfNat.ofNat Int n instOfNat)))) (.bool (decide (@OfNat.ofNat Nat n (instOfNatNat n) ≤ a))) := ⟨geqL⟩
instance (priority := 900) : PrimEq (bin P .eql t (.int k (a : Int)) (.int k (no_index (@OfNat.ofNat Int n instOfNat)))) (.bool (decide (a = @OfNat.ofNat Nat n (instOfNatNat n)))) := ⟨eqlL⟩
instance (priority := 900) : PrimEq (bin P .neq t (.int k (a : Int)) (.int k (no_index (@OfNat.ofNat Int n instOfNat)))) (.bool (decide (a ≠ @OfNat.ofNat Nat n (instOfNatNat n)))) := ⟨neqL⟩
instance (priority := 2000) : PrimEq (bin P .eql t (.int k x) (.int k x)) (.bool true) := ⟨by rw [bin_eql, decide_eq_true rfl]⟩
instance (priority := 2000) : PrimEq (bin P .neq t (.int k x) (.int k x)) (.bool false) := ⟨by rw [bin_neq, decide_eq_false (fun h => h rfl)]⟩
instance : PrimEq (bin P .lss t (.int k (a : Int)) (.int k (b : Int))) (.bool (decide (a < b))) := ⟨lssN⟩
instance : PrimEq (bin P .leq t (.int k (a : Int)) (.int k (b : Int))) (.bool (decide (a ≤ b))) := ⟨leqN⟩
instance : PrimEq (bin P .gtr t (.int k (a : Int)) (.int k (b : Int))) (.bool (decide (b < a))) := ⟨gtrN⟩
instance : PrimEq (bin P .geq t (.int k (a : Int)) (.int k (b : Int))) (.bool (decide (b ≤ a))) := ⟨geqN⟩
instance : PrimEq (bin P .eql t (.int k (a : Int)) (.int k (b : Int))) (.bool (decide (a = b))) := ⟨eqlN⟩
instance : PrimEq (bin P .neq t (.int k (a : Int)) (.int k (b : Int))) (.bool (decide (a ≠ b))) := ⟨neqN⟩
instance (priority := 100) : PrimEq (bin P .lss t (.int k x) (.int k y)) (.bool (decide (x < y))) := ⟨bin_lss⟩
instance (priority := 100) : PrimEq (bin P .leq t (.int k x) (.int k y)) (.bool (decide (x ≤ y))) := ⟨bin_leq⟩
instance (priority := 100) : PrimEq (bin P .gtr t (.int k x) (.int k y)) (.bool (decide (y < x))) := ⟨bin_gtr⟩
instance (priority := 100) : PrimEq (bin P .geq t (.int k x) (.int k y)) (.bool (decide (y ≤ x))) := ⟨bin_geq⟩
instance (priority := 100) : PrimEq (bin P .eql t (.int k x) (.int k y)) (.bool (decide (x = y))) := ⟨bin_eql⟩
instance (priority := 100) : PrimEq (bin P .neq t (.int k x) (.int k y)) (.bool (decide (x ≠ y))) := ⟨bin_neq⟩
instance (priority := low) {b : Bool} : PrimEq (un P .not (.bool b)) (.bool (!b)) := ⟨un_not⟩
instance : PrimEq (un P .not (.bool true)) (.bool false) := ⟨un_not⟩
instance : PrimEq (un P .not (.bool false)) (.bool true) := ⟨un_not⟩
instance : PrimEq (un P .neg (.int k x)) (.int k (k.wrap (0 - x))) := ⟨un_neg⟩
end
instance {x y : Value} : PrimEq (pickV (.bool true) x y) x := ⟨rfl⟩
instance {x y : Value} : PrimEq (pickV (.bool false) x y) y := ⟨rfl⟩
instance {b o : Nat} : PrimEq (nilChk (ptr b o)) (ptr b o) := ⟨rfl⟩
instance {f : FuncId} {a b : Array Value} : PrimEq (nilChk (.func (.func f) a b)) (.func (.func f) a b) := ⟨rfl⟩
instance {a : Value} {l : List Value} : PrimEq (ext (.tuple (List.toArray (a :: l))) 0) a := ⟨rfl⟩
instance {a b : Value} {l : List Value} : PrimEq (ext (.tuple (List.toArray (a :: b :: l))) 1) b := ⟨rfl⟩
instance {a b c : Value} {l : List Value} : PrimEq (ext (.tuple (List.toArray (a :: b :: c :: l))) 2) c := ⟨rfl⟩
instance {t e : TypeId} {b o n c : Nat} [h : Und P t (.slice e)] : PrimEq (lenV P t (sl b o n c)) (i64 n) := ⟨lenV_sl h.eq⟩
instance {t e : TypeId} [h : Und P t (.slice e)] : PrimEq (lenV P t (.slice none 0 0)) (.int .i64 0) := ⟨by unfold lenV; rw [h.eq]; rfl⟩
instance (priority := low) {t e : TypeId} {z : Value} {sz : Nat} {B : AH} {v : Value} {xs : List Nat} [hE : Elt P t e z sz] [h : RdN B v xs] : PrimEq (lenV P t v) (i64 xs.length) := ⟨h.lenN hE⟩
instance {x y : Value} {v : Value} [h : PrimEq (maxV x y) v] : PrimEq (fold1 maxV [x, y]) v := ⟨by show Option.bind _ _ = _; rw [h.eq]; rfl⟩
instance {x y : Value} {v : Value} [h : PrimEq (minV x y) v] : PrimEq (fold1 minV [x, y]) v := ⟨by show Option.bind _ _ = _; rw [h.eq]; rfl⟩
instance {k k' : IntKind} {x y : Int} : PrimEq (maxV (.int k x) (.int k' y)) (.int k (if y > x then y else x)) := ⟨rfl⟩
instance {k k' : IntKind} {x y : Int} : PrimEq (minV (.int k x) (.int k' y)) (.int k (if y < x then y else x)) := ⟨rfl⟩

class Step (g : Nat → Nat → Option R) (g' : outParam (Nat → Nat → Option R)) : Prop where
  step : ∀ {Q : R → Prop}, Ev g' Q → Ev g Q
theorem Ev.s {g g' : Nat → Nat → Option R} {Q : R → Prop} [h : Step g g'] (k : Ev g' Q) : Ev g Q := h.step k
instance {v : Value} {H : AH} {f : Nat → Nat → Value → AH → Option R} : Step (fun k n => Go.AM.b2 (some (v, H)) (f k n)) (fun k n => f k n v H) := ⟨fun h => h⟩
instance {a : α} {f : Nat → Nat → α → Option R} : Step (fun k n => (some a).bind (f k n)) (fun k n => f k n a) := ⟨fun h => h⟩
instance {x y : Nat → Nat → Option R} : Step (fun k n => aIf (.bool true) (x k n) (y k n)) x := ⟨fun h => h⟩
instance {x y : Nat → Nat → Option R} : Step (fun k n => aIf (.bool false) (x k n) (y k n)) y := ⟨fun h => h⟩
instance {x y : Nat → Nat → Option R} : Step (fun k n => aIf (.bool (!true)) (x k n) (y k n)) y := ⟨fun h => h⟩
instance {x y : Nat → Nat → Option R} : Step (fun k n => aIf (.bool (!false)) (x k n) (y k n)) x := ⟨fun h => h⟩
instance (priority := low) {E : Option α} {a : α} {f : Nat → Nat → α → Option R} [h : PrimEq E a] : Step (fun k n => E.bind (f k n)) (fun k n => f k n a) := ⟨fun h2 => Ev.prim h.eq h2⟩
instance {E : Nat → Nat → Option (Value × AH)} {H : AH} {f : Nat → Nat → Value → AH → Option R} : Step (fun k n => Go.AM.b2 (gOp (.bool true) true (E k n) H) (f k n)) (fun k n => Go.AM.b2 (E k n) (f k n)) := ⟨fun h => Ev.gDo h⟩
instance {E : Nat → Nat → Option (Value × AH)} {H : AH} {f : Nat → Nat → Value → AH → Option R} : Step (fun k n => Go.AM.b2 (gOp (.bool false) false (E k n) H) (f k n)) (fun k n => Go.AM.b2 (E k n) (f k n)) := ⟨fun h => Ev.gDo h⟩
instance {E : Nat → Nat → Option (Value × AH)} {H : AH} {f : Nat → Nat → Value → AH → Option R} : Step (fun k n => Go.AM.b2 (gOp (.bool true) false (E k n) H) (f k n)) (fun k n => f k n undef H) := ⟨fun h => Ev.gSkipF h⟩
instance {E : Nat → Nat → Option (Value × AH)} {H : AH} {f : Nat → Nat → Value → AH → Option R} : Step (fun k n => Go.AM.b2 (gOp (.bool false) true (E k n) H) (f k n)) (fun k n => f k n undef H) := ⟨fun h => Ev.gSkipT h⟩
instance {w : Bool} {E : Nat → Nat → Option (Value × AH)} {H : AH} {f : Nat → Nat → Value → AH → Option R} : Step (fun k n => Go.AM.b2 (gOp undef w (E k n) H) (f k n)) (fun k n => f k n undef H) := ⟨fun h => Ev.gUndef h⟩
instance {E : Nat → Nat → Option (Value × AH)} {H : AH} {f : Nat → Nat → Value → AH → Option R} : Step (fun k n => Go.AM.b2 (gOp (.bool (!true)) true (E k n) H) (f k n)) (fun k n => f k n undef H) := ⟨fun h => Ev.gSkipT h⟩
instance {E : Nat → Nat → Option (Value × AH)} {H : AH} {f : Nat → Nat → Value → AH → Option R} : Step (fun k n => Go.AM.b2 (gOp (.bool (!false)) true (E k n) H) (f k n)) (fun k n => Go.AM.b2 (E k n) (f k n)) := ⟨fun h => Ev.gDo h⟩
instance {E : Nat → Nat → Option (Value × AH)} {H : AH} {f : Nat → Nat → Value → AH → Option R} : Step (fun k n => Go.AM.b2 (gOp (.bool (!true)) false (E k n) H) (f k n)) (fun k n => Go.AM.b2 (E k n) (f k n)) := ⟨fun h => Ev.gDo h⟩
instance {E : Nat → Nat → Option (Value × AH)} {H : AH} {f : Nat → Nat → Value → AH → Option R} : Step (fun k n => Go.AM.b2 (gOp (.bool (!false)) false (E k n) H) (f k n)) (fun k n => f k n undef H) := ⟨fun h => Ev.gSkipF h⟩
instance {E : Option Value} {a : Value} {H : AH} {f : Nat → Nat → Value → AH → Option R} [h : PrimEq E a] : Step (fun k n => Go.AM.b2 (E.bind fun v => some (v, H)) (f k n)) (fun k n => f k n a H) := ⟨fun h2 => Ev.gPrim h.eq rfl h2⟩
instance {g : Nat → Nat → Option (Value × AH)} {f : Nat → Nat → Value → AH → Option R} : Step (fun k n => Go.AM.b2 (Go.AM.b2 (g k n) fun v H => some (v, H)) (f k n)) (fun k n => Go.AM.b2 (g k n) (f k n)) := ⟨fun h => Ev.gCall h⟩
instance {g : Nat → Nat → Option α} {f : Nat → Nat → α → Option β} {f2 : Nat → Nat → β → Option R} : Step (fun k n => ((g k n).bind (f k n)).bind (f2 k n)) (fun k n => (g k n).bind fun x => (f k n x).bind (f2 k n)) := ⟨fun h => Ev.assoc h⟩
instance {x : Nat → Nat → Option R} {E : Option α} {a : α} [h : PrimEq E a] : Step (fun k n => aChk (E = some a) (x k n)) x := ⟨fun h2 => Ev.chk h.eq h2⟩
instance {x : Nat → Nat → Option R} {q : Prop} {E : Option α} {a : α} [h : PrimEq E a] : Step (fun k n => aChk (q → E = some a) (x k n)) x := ⟨fun h2 => Ev.chk (fun _ => h.eq) h2⟩
instance (priority := high) {x : Nat → Nat → Option R} {p : Prop} : Step (fun k n => aChk (Value.bool false = .bool true → p) (x k n)) x := ⟨fun h2 => Ev.chk (fun h => by cases h) h2⟩
/-- With a condition. -/
theorem Ev.sc {E : Option α} {p : Prop} {a : α} {f : Nat → Nat → α → Option R} {Q : R → Prop} [h : PrimC E p a] (hp : p) (k : Ev (fun k n => f k n a) Q) : Ev (fun k n => E.bind (f k n)) Q := Ev.prim (h.eq hp) k
theorem Ev.scg {E : Option Value} {p : Prop} {a : Value} {H : AH} {f : Nat → Nat → Value → AH → Option R} {Q : R → Prop} [h : PrimC E p a] (hp : p) (k : Ev (fun k n => f k n a H) Q) : Ev (fun k n => Go.AM.b2 (E.bind fun v => some (v, H)) (f k n)) Q := Ev.gPrim (h.eq hp) rfl k
section
variable {t s d : TypeId} {a b n : Nat} {x y : Int} {k k' : IntKind}
instance (priority := 900) : PrimC (bin P .add t (i64 a) (.int .i64 (no_index (@OfNat.ofNat Int n instOfNat)))) (a + @OfNat.ofNat Nat n (instOfNatNat n) < 9223372036854775808) (i64 (a + @OfNat.ofNat Nat n (instOfNatNat n))) := ⟨addL⟩
instance (priority := 900) : PrimC (bin P .sub t (i64 a) (.int .i64 (no_index (@OfNat.ofNat Int n instOfNat)))) (@OfNat.ofNat Nat n (instOfNatNat n) ≤ a ∧ a < 9223372036854775808) (i64 (a - @OfNat.ofNat Nat n (instOfNatNat n))) := ⟨subL⟩
instance (priority := 900) : PrimC (bin P .mul t (i64 a) (.int .i64 (no_index (@OfNat.ofNat Int n instOfNat)))) (a * @OfNat.ofNat Nat n (instOfNatNat n) < 9223372036854775808) (i64 (a * @OfNat.ofNat Nat n (instOfNatNat n))) := ⟨mulL⟩
instance (priority := 900) : PrimC (bin P .mul t (.int .i64 (no_index (@OfNat.ofNat Int n instOfNat))) (i64 a)) (@OfNat.ofNat Nat n (instOfNatNat n) * a < 9223372036854775808) (i64 (@OfNat.ofNat Nat n (instOfNatNat n) * a)) := ⟨lmul⟩
instance (priority := 900) : PrimC (bin P .quo t (i64 a) (.int .i64 (no_index (@OfNat.ofNat Int n instOfNat)))) (@OfNat.ofNat Nat n (instOfNatNat n) ≠ 0 ∧ a < 9223372036854775808) (i64 (a / @OfNat.ofNat Nat n (instOfNatNat n))) := ⟨quoL⟩
instance (priority := 900) : PrimC (bin P .rem t (.int k (a : Int)) (.int k (no_index (@OfNat.ofNat Int n instOfNat)))) (@OfNat.ofNat Nat n (instOfNatNat n) ≠ 0) (.int k ((a % @OfNat.ofNat Nat n (instOfNatNat n) : Nat) : Int)) := ⟨remL⟩
instance : PrimC (bin P .add t (i64 a) (i64 b)) (a + b < 9223372036854775808) (i64 (a + b)) := ⟨addN⟩
instance : PrimC (bin P .sub t (i64 a) (i64 b)) (b ≤ a ∧ a < 9223372036854775808) (i64 (a - b)) := ⟨subN⟩
instance : PrimC (bin P .mul t (i64 a) (i64 b)) (a * b < 9223372036854775808) (i64 (a * b)) := ⟨mulN⟩
instance : PrimC (bin P .quo t (i64 a) (i64 b)) (b ≠ 0 ∧ a < 9223372036854775808) (i64 (a / b)) := ⟨quoN⟩
instance : PrimC (bin P .rem t (.int k (a : Int)) (.int k (b : Int))) (b ≠ 0) (.int k ((a % b : Nat) : Int)) := ⟨remN⟩
instance : PrimC (bin P .add t (u64 a) (u64 b)) (a + b < 18446744073709551616) (u64 (a + b)) := ⟨addQ⟩
instance : PrimC (bin P .sub t (u64 a) (u64 b)) (b ≤ a ∧ a < 18446744073709551616) (u64 (a - b)) := ⟨subQ⟩
instance : PrimC (bin P .mul t (u64 a) (u64 b)) (a * b < 18446744073709551616) (u64 (a * b)) := ⟨mulQ⟩
instance (priority := 100) : PrimC (bin P .add t (.int .i64 x) (.int .i64 y)) (-9223372036854775808 ≤ x + y ∧ x + y < 9223372036854775808) (.int .i64 (x + y)) := ⟨bin_add64⟩
instance (priority := 100) : PrimC (bin P .sub t (.int .i64 x) (.int .i64 y)) (-9223372036854775808 ≤ x - y ∧ x - y < 9223372036854775808) (.int .i64 (x - y)) := ⟨bin_sub64⟩
instance (priority := 100) : PrimC (bin P .mul t (.int .i64 x) (.int .i64 y)) (-9223372036854775808 ≤ x * y ∧ x * y < 9223372036854775808) (.int .i64 (x * y)) := ⟨bin_mul64⟩
end
theorem Ev.doneC {H0 B0 B : AH} {L : List (Nat × Blk)} {H : AH} {Post : AH → Value → Prop} {v : Value} [hS : St H0 B0 B L H] (hp : Post B v) : Ev (fun _ _ => some (v, H)) (An B0 H0 Post) := Ev.done hS hp
end Go.AM
set_option linter.unusedVariables false
set_option linter.unusedSimpArgs false
namespace Go.AM
variable {α β R : Type} {P : Program}
class PlusL (a b : Nat) (r : outParam Nat) : Prop where
  eq : a + b = r
instance (priority := low) {a b : Nat} : PlusL a b (a + b) := ⟨rfl⟩
instance {b : Nat} : PlusL 0 b b := ⟨Nat.zero_add b⟩
instance {a : Nat} : PlusL a 0 a := ⟨rfl⟩
instance : PlusL 1 1 2 := ⟨rfl⟩
instance : PlusL 1 2 3 := ⟨rfl⟩
instance : PlusL 1 3 4 := ⟨rfl⟩
instance : PlusL 1 4 5 := ⟨rfl⟩
instance : PlusL 1 5 6 := ⟨rfl⟩
instance : PlusL 1 6 7 := ⟨rfl⟩
instance : PlusL 1 7 8 := ⟨rfl⟩
instance : PlusL 1 8 9 := ⟨rfl⟩
instance : PlusL 2 1 3 := ⟨rfl⟩
instance : PlusL 2 2 4 := ⟨rfl⟩
instance : PlusL 2 3 5 := ⟨rfl⟩
instance : PlusL 2 4 6 := ⟨rfl⟩
instance : PlusL 2 5 7 := ⟨rfl⟩
instance : PlusL 2 6 8 := ⟨rfl⟩
instance : PlusL 2 7 9 := ⟨rfl⟩
instance : PlusL 2 8 10 := ⟨rfl⟩
instance : PlusL 3 1 4 := ⟨rfl⟩
instance : PlusL 3 2 5 := ⟨rfl⟩
instance : PlusL 3 3 6 := ⟨rfl⟩
instance : PlusL 3 4 7 := ⟨rfl⟩
instance : PlusL 3 5 8 := ⟨rfl⟩
instance : PlusL 3 6 9 := ⟨rfl⟩
instance : PlusL 3 7 10 := ⟨rfl⟩
instance : PlusL 3 8 11 := ⟨rfl⟩
instance : PlusL 4 1 5 := ⟨rfl⟩
instance : PlusL 4 2 6 := ⟨rfl⟩
instance : PlusL 4 3 7 := ⟨rfl⟩
instance : PlusL 4 4 8 := ⟨rfl⟩
instance : PlusL 4 5 9 := ⟨rfl⟩
instance : PlusL 4 6 10 := ⟨rfl⟩
instance : PlusL 4 7 11 := ⟨rfl⟩
instance : PlusL 4 8 12 := ⟨rfl⟩
instance : PlusL 5 1 6 := ⟨rfl⟩
instance : PlusL 5 2 7 := ⟨rfl⟩
instance : PlusL 5 3 8 := ⟨rfl⟩
instance : PlusL 5 4 9 := ⟨rfl⟩
instance : PlusL 5 5 10 := ⟨rfl⟩
instance : PlusL 5 6 11 := ⟨rfl⟩
instance : PlusL 5 7 12 := ⟨rfl⟩
instance : PlusL 5 8 13 := ⟨rfl⟩
instance : PlusL 6 1 7 := ⟨rfl⟩
instance : PlusL 6 2 8 := ⟨rfl⟩
instance : PlusL 6 3 9 := ⟨rfl⟩
instance : PlusL 6 4 10 := ⟨rfl⟩
instance : PlusL 6 5 11 := ⟨rfl⟩
instance : PlusL 6 6 12 := ⟨rfl⟩
instance : PlusL 6 7 13 := ⟨rfl⟩
instance : PlusL 6 8 14 := ⟨rfl⟩
instance : PlusL 7 1 8 := ⟨rfl⟩
instance : PlusL 7 2 9 := ⟨rfl⟩
instance : PlusL 7 3 10 := ⟨rfl⟩
instance : PlusL 7 4 11 := ⟨rfl⟩
instance : PlusL 7 5 12 := ⟨rfl⟩
instance : PlusL 7 6 13 := ⟨rfl⟩
instance : PlusL 7 7 14 := ⟨rfl⟩
instance : PlusL 7 8 15 := ⟨rfl⟩
instance : PlusL 8 1 9 := ⟨rfl⟩
instance : PlusL 8 2 10 := ⟨rfl⟩
instance : PlusL 8 3 11 := ⟨rfl⟩
instance : PlusL 8 4 12 := ⟨rfl⟩
instance : PlusL 8 5 13 := ⟨rfl⟩
instance : PlusL 8 6 14 := ⟨rfl⟩
instance : PlusL 8 7 15 := ⟨rfl⟩
instance : PlusL 8 8 16 := ⟨rfl⟩
class FieldOf (P : Program) (s : TypeId) (i : Nat) (off : outParam Nat) (ft : outParam TypeId) : Prop where
  ex : ∃ fs f, P.underlying s = some (.struct fs) ∧ fs[i]? = some f ∧ f.offset = off ∧ f.type = ft
  nz : szT P ft ≠ 0
class StructOf (P : Program) (s : TypeId) (l : outParam (List Value)) : Prop where
  zero : zeroT P s = some (.agg (List.toArray l))
  ex : ∃ fs, P.underlying s = some (.struct fs) ∧ fs.toList.all (fun f => (P.info? f.type).isSome) = true
instance {s : TypeId} {l : List Value} [h : StructOf P s l] : ZeroOf P s (.agg (List.toArray l)) := ⟨h.zero⟩
instance {s ft : TypeId} {i off b o r : Nat} [h : FieldOf P s i off ft] [p : PlusL o off r] : PrimEq (fldA P s (ptr b o) i) (ptr b r) := ⟨by
  obtain ⟨fs, f, h1, h2, h3, h4⟩ := h.ex
  unfold fldA ptr; rw [h1]; simp only [h2, Option.bind_some]; rw [if_neg (by rw [h4]; exact h.nz), h3, p.eq]⟩
instance {s ft : TypeId} {i off : Nat} {l : List Value} {v : Value} [h : FieldOf P s i off ft] [a : AggOf P ft false] [n : Nth l off v] : PrimEq (fld P s (.agg (List.toArray l)) i) v := ⟨by
  obtain ⟨fs, f, h1, h2, h3, h4⟩ := h.ex
  unfold fld; rw [h1]; simp only [h2, Option.bind_some]; unfold prt; rw [h4, a.eq, h3]; exact n.eq⟩
instance {s ft : TypeId} {i off n : Nat} {l r : List Value} [h : FieldOf P s i off ft] [a : AggOf P ft true] [z : SzOf P ft n] [c : Cut l off n r] : PrimEq (fld P s (.agg (List.toArray l)) i) (.agg (List.toArray r)) := ⟨by
  obtain ⟨fs, f, h1, h2, h3, h4⟩ := h.ex
  unfold fld; rw [h1]; simp only [h2, Option.bind_some]; unfold prt; rw [h4, a.eq, h3, z.eq]; simp only; rw [c.eq]⟩
class FillP (P : Program) (s : TypeId) (cs : List Value) (parts : List (Nat × Value)) (r : outParam (List Value)) : Prop where
  eq : ∀ fs, P.underlying s = some (.struct fs) → fillB (fun i => (fs[i]?).map fun f => (f.offset, szT P f.type)) cs parts = some r
instance {s : TypeId} {cs : List Value} : FillP P s cs [] cs := ⟨fun _ _ => rfl⟩
instance {s ft : TypeId} {i off n : Nat} {v : Value} {l cs cs' r : List Value} {ps : List (Nat × Value)} [h : FieldOf P s i off ft] [z : SzOf P ft n] [c : CellsOf v l] [k : CutN l n l] [sp : Spl cs off l cs'] [f : FillP P s cs' ps r] :
    FillP P s cs ((i, v) :: ps) r := ⟨fun fs hf => by
  obtain ⟨fs', g, h1, h2, h3, h4⟩ := h.ex
  rw [hf] at h1; cases h1
  have e : l.length = n := by have h1 := k.le; have h2 := congrArg List.length k.eq; rw [List.length_take] at h2; omega
  have e2 : v.cells.size = n := by rw [← e, ← c.eq]; rfl
  unfold fillB
  simp only [h2, Option.map_some, h3, h4, z.eq]
  rw [if_pos ⟨e2, by rw [← e]; exact sp.le, c.ok⟩, c.eq, sp.eq]
  exact f.eq fs hf⟩
instance {s : TypeId} {l r : List Value} {parts : List (Nat × Value)} [h : StructOf P s l] [f : FillP P s l parts r] : PrimEq (build P s parts) (.agg (List.toArray r)) := ⟨by
  obtain ⟨fs, h1, h2⟩ := h.ex
  unfold build; rw [h.zero]; simp only [Option.bind_some, h1]
  rw [if_neg (by rw [h2]; simp)]
  have := f.eq fs h1
  simp only [Value.cells]
  rw [this]; rfl⟩
section
variable {s d : TypeId} {D : TypeDesc} {a : Nat} {x : Int} {k k' : IntKind}
instance [hs : Und P s D] [hd : Und P d (.int .u32)] : PrimEq (cv P s d (.int k (a : Int))) (u32 (a % 4294967296)) := ⟨toU32 hs.eq hd.eq⟩
instance [hs : Und P s D] [hd : Und P d (.int .u8)] : PrimEq (cv P s d (.int k (a : Int))) (u8 (a % 256)) := ⟨toU8 hs.eq hd.eq⟩
instance [hs : Und P s D] [hd : Und P d (.int .u64)] : PrimC (cv P s d (.int k (a : Int))) (a < 18446744073709551616) (u64 a) := ⟨fun h => toU64 h hs.eq hd.eq⟩
instance [hs : Und P s D] [hd : Und P d (.int .i64)] : PrimC (cv P s d (.int k (a : Int))) (a < 9223372036854775808) (i64 a) := ⟨fun h => toI64 h hs.eq hd.eq⟩
end
class LdB (P : Program) (e : TypeId) (p : Value) (B : outParam AH) (v : outParam Value) : Prop where
  eq : ∀ H', Mo B H' → ld P e H' p = some v
instance {e : TypeId} {p v : Value} {H0 B0 B H : AH} {L : List (Nat × Blk)} [h : LdB P e p B v] [hS : St H0 B0 B L H] : PrimEq (ld P e H p) v := ⟨h.eq H hS.le⟩
section
variable {t e : TypeId} {z : Value} {sz : Nat} {H0 B0 B H : AH} {L : List (Nat × Blk)} {v : Value} {xs : List Nat} {k : IntKind}
class Rep (n : Nat) (z : Value) (l : outParam (List Value)) : Prop where
  eq : List.replicate n z = l
instance {z : Value} : Rep 0 z [] := ⟨rfl⟩
instance {z : Value} {n : Nat} {l : List Value} [h : Rep n z l] : Rep (n + 1) z (z :: l) := ⟨by rw [List.replicate_succ, h.eq]⟩
class FillL (cs : List Value) (parts : List (Nat × Value)) (r : outParam (List Value)) : Prop where
  eq : fillB (fun i => some (i * 1, 1)) cs parts = some r
instance {cs : List Value} : FillL cs [] cs := ⟨rfl⟩
instance {i : Nat} {v : Value} {cs cs' r : List Value} {ps : List (Nat × Value)} [c : IsCell v] [sp : Spl cs i [v] cs'] [f : FillL cs' ps r] : FillL cs ((i, v) :: ps) r := ⟨by
  have h1 := cells_one c.is
  have h2 := f.eq
  simp only [Nat.mul_one] at h2
  unfold fillB
  simp only [Nat.mul_one]
  rw [if_pos ⟨size_cells h1, by have := sp.le; simpa using this, okCells_of c.is⟩, h1, sp.eq]
  exact h2⟩
theorem Ev.bsC {m : Nat} {parts : List (Nat × Value)} {l cs : List Value} {f : Nat → Nat → Value → AH → Option R} {Q : R → Prop} [hE : Elt P t e z sz] [hS : St H0 B0 B L H] [hr : Rep m z l] [hf : FillL l parts cs] (hm : m ≤ 16777216)
    (h : ∀ b H', St H0 B0 B ((b, ⟨cs, e, .fix⟩) :: L) H' → Ev (fun k n => f k n (sl b 0 m m) H') Q) : Ev (fun k n => Go.AM.b2 (Go.AM.buildS P t H m parts) (f k n)) Q := by
  refine Ev.prim2 ?_ (h H.length _ (hS.mkB' cs e .fix))
  unfold Go.AM.buildS
  rw [hE.U]; simp only [hE.Z, hE.S, hE.zn, Option.bind_some, rep_one]
  rw [if_pos ⟨by omega, size_cells hE.zn⟩, hr.eq, hf.eq]; rfl
end
end Go.AM
set_option linter.unusedVariables false
set_option linter.unusedSimpArgs false
namespace Go.AM
variable {α β R : Type} {P : Program}
/-- A call that changes what is the caller's. -/
def AnS (H0 B0 B : AH) (L : List (Nat × Blk)) (Post : AH → Value → Prop) (r : Value × AH) : Prop := ∃ B', Mo B B' ∧ St H0 B0 B' L r.2 ∧ Post B' r.1
theorem AnS.an {H0 B0 B : AH} {L : List (Nat × Blk)} {Post : AH → Value → Prop} {g : Nat → Nat → Option (Value × AH)} (h : Ev g (AnS H0 B0 B L Post)) : Ev g (An B0 H0 Post) :=
  h.mono fun r ⟨B', hm, hS, hp⟩ => hS.an hp
class InfoOf (P : Program) (t : TypeId) : Prop where
  is : (P.info? t).isSome = true
class TimesL (a b : Nat) (r : outParam Nat) : Prop where
  eq : a * b = r
instance (priority := low) {a b : Nat} : TimesL a b (a * b) := ⟨rfl⟩
instance {b : Nat} : TimesL 0 b 0 := ⟨Nat.zero_mul b⟩
instance {b : Nat} : TimesL 1 b b := ⟨Nat.one_mul b⟩
instance {b : Nat} : TimesL b 1 b := ⟨Nat.mul_one b⟩
instance : TimesL 2 2 4 := ⟨rfl⟩
instance : TimesL 2 3 6 := ⟨rfl⟩
instance : TimesL 2 4 8 := ⟨rfl⟩
instance : TimesL 2 5 10 := ⟨rfl⟩
instance : TimesL 2 6 12 := ⟨rfl⟩
instance : TimesL 2 7 14 := ⟨rfl⟩
instance : TimesL 2 8 16 := ⟨rfl⟩
instance : TimesL 3 2 6 := ⟨rfl⟩
instance : TimesL 3 3 9 := ⟨rfl⟩
instance : TimesL 3 4 12 := ⟨rfl⟩
instance : TimesL 3 5 15 := ⟨rfl⟩
instance : TimesL 3 6 18 := ⟨rfl⟩
instance : TimesL 3 7 21 := ⟨rfl⟩
instance : TimesL 3 8 24 := ⟨rfl⟩
instance : TimesL 4 2 8 := ⟨rfl⟩
instance : TimesL 4 3 12 := ⟨rfl⟩
instance : TimesL 4 4 16 := ⟨rfl⟩
instance : TimesL 4 5 20 := ⟨rfl⟩
instance : TimesL 4 6 24 := ⟨rfl⟩
instance : TimesL 4 7 28 := ⟨rfl⟩
instance : TimesL 4 8 32 := ⟨rfl⟩
instance : TimesL 5 2 10 := ⟨rfl⟩
instance : TimesL 5 3 15 := ⟨rfl⟩
instance : TimesL 5 4 20 := ⟨rfl⟩
instance : TimesL 5 5 25 := ⟨rfl⟩
instance : TimesL 5 6 30 := ⟨rfl⟩
instance : TimesL 5 7 35 := ⟨rfl⟩
instance : TimesL 5 8 40 := ⟨rfl⟩
instance : TimesL 6 2 12 := ⟨rfl⟩
instance : TimesL 6 3 18 := ⟨rfl⟩
instance : TimesL 6 4 24 := ⟨rfl⟩
instance : TimesL 6 5 30 := ⟨rfl⟩
instance : TimesL 6 6 36 := ⟨rfl⟩
instance : TimesL 6 7 42 := ⟨rfl⟩
instance : TimesL 6 8 48 := ⟨rfl⟩
instance : TimesL 7 2 14 := ⟨rfl⟩
instance : TimesL 7 3 21 := ⟨rfl⟩
instance : TimesL 7 4 28 := ⟨rfl⟩
instance : TimesL 7 5 35 := ⟨rfl⟩
instance : TimesL 7 6 42 := ⟨rfl⟩
instance : TimesL 7 7 49 := ⟨rfl⟩
instance : TimesL 7 8 56 := ⟨rfl⟩
class AppL (a b : List Value) (r : outParam (List Value)) : Prop where
  eq : a ++ b = r
instance {b : List Value} : AppL [] b b := ⟨rfl⟩
instance {x : Value} {a b r : List Value} [h : AppL a b r] : AppL (x :: a) b (x :: r) := ⟨by rw [List.cons_append, h.eq]⟩
class RepA (n : Nat) (z : List Value) (l : outParam (List Value)) : Prop where
  eq : rep z n = l
instance {z : List Value} : RepA 0 z [] := ⟨rfl⟩
instance {z : List Value} {n : Nat} {l r : List Value} [h : RepA n z l] [k : AppL z l r] : RepA (n + 1) z r := ⟨by rw [rep, h.eq, k.eq]⟩
class FillE (sz : Nat) (cs : List Value) (parts : List (Nat × Value)) (r : outParam (List Value)) : Prop where
  eq : fillB (fun i => some (i * sz, sz)) cs parts = some r
instance {sz : Nat} {cs : List Value} : FillE sz cs [] cs := ⟨rfl⟩
instance {sz i o : Nat} {v : Value} {l cs cs' r : List Value} {ps : List (Nat × Value)} [t : TimesL i sz o] [c : CellsOf v l] [k : CutN l sz l] [sp : Spl cs o l cs'] [f : FillE sz cs' ps r] : FillE sz cs ((i, v) :: ps) r := ⟨by
  have e : l.length = sz := by have h1 := k.le; have h2 := congrArg List.length k.eq; rw [List.length_take] at h2; omega
  have e2 : v.cells.size = sz := by rw [← e, ← c.eq]; rfl
  have hf := f.eq
  have hl := sp.le
  have hs := sp.eq
  unfold fillB
  simp only [t.eq]
  rw [if_pos ⟨e2, by rw [← e]; exact hl, c.ok⟩, c.eq, hs]
  exact hf⟩
instance {t e : TypeId} {sz b len cap i ofs : Nat} {k : IntKind} [hU : Und P t (.slice e)] [hs : SzOf P e sz] [hi : InfoOf P e] [ht : TimesL i sz ofs] : PrimC (ixA P t (sl b 0 len cap) (.int k (i : Int))) (i < len) (ptr b ofs) := ⟨fun h => by
  unfold ixA sl; rw [hU.eq]; simp only; rw [if_pos ⟨hi.is, by omega, by omega⟩, hs.eq, Int.toNat_natCast, ht.eq, Nat.zero_add]⟩
instance (priority := 900) {t e : TypeId} {sz b len cap n ofs : Nat} {k : IntKind} [hU : Und P t (.slice e)] [hs : SzOf P e sz] [hi : InfoOf P e] [ht : TimesL n sz ofs] : PrimC (ixA P t (sl b 0 len cap) (.int k (no_index (@OfNat.ofNat Int n instOfNat)))) (n < len) (ptr b ofs) := ⟨fun h => by
  have e : (@OfNat.ofNat Int n instOfNat) = ((n : Nat) : Int) := rfl
  rw [e]
  unfold ixA sl; rw [hU.eq]; simp only; rw [if_pos ⟨hi.is, by omega, by omega⟩, hs.eq, Int.toNat_natCast, ht.eq, Nat.zero_add]⟩
theorem St.drop1 {H0 B0 B : AH} {x : Nat × Blk} {L : List (Nat × Blk)} {H : AH} (h : St H0 B0 B (x :: L) H) : St H0 B0 B L H := h.drop (List.sublist_cons_self x L)
theorem Upd.make {b : Nat} {K K' : Blk} {L : List (Nat × Blk)} (h : (b, K) ∈ L) : ∃ L', Upd b K K' L L' := by
  induction L with
  | nil => cases h
  | cons x L ih =>
    cases h with
    | head => exact ⟨_, .head _⟩
    | tail _ h => exact (ih h).elim fun L' h' => ⟨_, .tail x h'⟩
theorem Upd.fix {b : Nat} {K K' : Blk} {L L' L'' : List (Nat × Blk)} (h : Upd b K K' L L') (hn : (L.map Prod.fst).Nodup) (h' : Upd b K K' L L'') : L'' = L' := by
  induction h generalizing L'' with
  | head L =>
    cases h' with
    | head => rfl
    | tail _ h' => exact absurd (mem_fst h'.mem rfl) (List.nodup_cons.mp hn).1
  | tail x h ih =>
    cases h' with
    | head => exact absurd (mem_fst h.mem rfl) (List.nodup_cons.mp hn).1
    | tail _ h' => rw [ih (List.nodup_cons.mp hn).2 h']
theorem Upd.other {b c : Nat} {K K' K2 : Blk} {L L' : List (Nat × Blk)} (h : Upd b K K' L L') (hc : (c, K2) ∈ L) (hn : c ≠ b) : (c, K2) ∈ L' := by
  induction h with
  | head L =>
    cases hc with
    | head => exact absurd rfl hn
    | tail _ hc => exact .tail _ hc
  | tail x h ih =>
    cases hc with
    | head => exact .head _
    | tail _ hc => exact .tail _ (ih hc)
theorem Mo.le {B H : AH} (h : Mo B H) : Le B H := ⟨h⟩
end Go.AM
set_option linter.unusedVariables false
namespace Go.AM
variable {α β R : Type} {P : Program}
class MoC (B : outParam AH) (B' : AH) : Prop where
  mo : Mo B B'
class MoT (B B' : AH) : Prop where
  mo : Mo B B'
instance {B : AH} : MoT B B := ⟨Mo.refl B⟩
instance (priority := low) {A B C : AH} [h : MoC B C] [k : MoT A B] : MoT A C := ⟨k.mo.trans h.mo⟩
/-- Digits that stand, from some time on. -/
class RdT (B : AH) (v : Value) (xs : outParam (List Nat)) : Prop where
  rd : RdN B v xs
instance {B0 B : AH} {v : Value} {xs : List Nat} [h : RdN B0 v xs] [t : MoT B0 B] : RdT B v xs := ⟨h.mono t.mo⟩
instance {B : AH} : RdT B (.slice none 0 0) [] := ⟨RdN.nil⟩
theorem Ev.callD {H0 B0 B : AH} {L : List (Nat × Blk)} {H : AH} {g : Nat → Nat → Option (Value × AH)} {Post : AH → Value → Prop} {f : Nat → Nat → Value → AH → Option R} {Q : R → Prop} [hS : St H0 B0 B L H]
    (hc : Le B H → Ev g (An B H Post)) (h : ∀ v B' H', MoC B B' → St H0 B0 B' L H' → Post B' v → Ev (fun k n => f k n v H') Q) : Ev (fun k n => Go.AM.b2 (g k n) (f k n)) Q :=
  Ev.call hS hc fun v B' H' hm hS' hp => h v B' H' ⟨hm⟩ hS' hp
end Go.AM
set_option linter.unusedVariables false
namespace Go.AM
variable {α β R : Type} {P : Program}
section
variable {t e : TypeId} {z : Value} {sz : Nat}
def Acc (e : TypeId) (H0 B0 B : AH) (L : List (Nat × Blk)) (H : AH) (v : Value) (ds : List Nat) : Prop :=
  (ds = [] ∧ (v = .slice none 0 0 ∨ ∃ b off, v = sl b off 0 0) ∧ St H0 B0 B L H) ∨
  (ds ≠ [] ∧ ∃ b kd cap, v = sl b 0 ds.length cap ∧ (kd = .grow ∧ cap ≠ 0 ∧ ds.length ≤ cap ∨ kd = .fix ∧ cap = ds.length) ∧ St H0 B0 B ((b, ⟨ds.map u32, e, kd⟩) :: L) H)
theorem Acc.nil {H0 B0 B L H} (hS : St H0 B0 B L H) : Acc e H0 B0 B L H (.slice none 0 0) [] := .inl ⟨rfl, .inl rfl, hS⟩
theorem Acc.le {H0 B0 B L H v ds} (h : Acc e H0 B0 B L H v ds) : Le B H := by
  rcases h with ⟨_, _, hS⟩ | ⟨_, b, kd, cap, _, _, hS⟩
  · exact hS.lel
  · exact hS.lel
theorem Acc.st {H0 B0 B L H v ds} (h : Acc e H0 B0 B L H v ds) : St H0 B0 B L H := by
  rcases h with ⟨_, _, hS⟩ | ⟨_, b, kd, cap, _, _, hS⟩
  · exact hS
  · exact hS.drop1
theorem drop2 {x y : Nat × Blk} {L : List (Nat × Blk)} {H0 B0 B H} (h : St H0 B0 B (x :: y :: L) H) : St H0 B0 B (x :: L) H := h.drop (.cons_cons _ (List.sublist_cons_self _ _))
theorem drop3 {x y z : Nat × Blk} {L : List (Nat × Blk)} {H0 B0 B H} (h : St H0 B0 B (x :: y :: z :: L) H) : St H0 B0 B (x :: L) H := drop2 (drop2 h)
/-- One more digit. -/
theorem Acc.push {H0 B0 B : AH} {L : List (Nat × Blk)} {H : AH} {v : Value} {ds : List Nat} {d : Nat} {f : Nat → Nat → Value → AH → Option R} {Q : R → Prop} [hE : Elt P t e (.int .u32 0) sz] (h : Acc e H0 B0 B L H v ds)
    (hl : (ds.length + 1) * sz ≤ 140737488355328 ∧ ds.length + 1 ≤ 9223372036854775807) (hk : ∀ v' B' H', MoC B B' → Acc e H0 B0 B' L H' v' (ds ++ [d]) → Ev (fun k n => f k n v' H') Q) :
    Ev (fun k n => Go.AM.b2 (Go.AM.buildS P t H 1 [(0, u32 d)]) fun w h => Go.AM.b2 (Go.AM.ap P t t h v w) (f k n)) Q := by
  have e1 : ([d].map u32).length = 1 := rfl
  have hlen : (ds.map u32).length = ds.length := List.length_map ..
  rcases h with ⟨rfl, hv, hS⟩ | ⟨hne, b, kd, cap, rfl, hkc, hS⟩
  · refine Ev.bsC (P := P) (t := t) (by decide) fun bw H1 hS1 => ?_
    have hx : Sc H1 (sl bw 0 1 1) ([d].map u32) := hS1.sc (.head _) (Nat.le_refl 1)
    refine Ev.apNew hE hE.U hS1 (hv.imp id fun ⟨b, off, h⟩ => ⟨b, off, 0, h⟩) hx (all_u32 _) (by simp) ⟨by simpa using hl.1, by simp⟩ fun b' B' H' hm hS' => ?_
    exact hk _ B' H' ⟨hm⟩ (.inr ⟨by simp, b', .grow, 2, rfl, .inl ⟨rfl, by decide, by simp⟩, drop2 hS'⟩)
  · refine Ev.bsC (P := P) (t := t) (by decide) fun bw H1 hS1 => ?_
    have hx : Sc H1 (sl bw 0 1 1) ([d].map u32) := hS1.sc (.head _) (Nat.le_refl 1)
    rcases hkc with ⟨rfl, hc, hcl⟩ | ⟨rfl, rfl⟩
    · have hS2 : St H0 B0 B ((b, ⟨ds.map u32, e, .grow⟩) :: (bw, ⟨[u32 d], e, .fix⟩) :: L) H1 := hS1.perm (List.Perm.swap _ _ _)
      have hk2 := Ev.apGrow (b := b) (cap := cap) (cs := ds.map u32) (v := sl bw 0 1 1) (ds := [d].map u32) (f := f) (Q := Q) hE hE.U hS2 hc hx (all_u32 _) (by simp) (by rw [hlen, e1]; exact hl) (fun b' B' H' hm hS' => by
        have := hk (sl b' 0 (ds ++ [d]).length ((ds ++ [d]).length + 1)) B' H' ⟨hm⟩ (.inr ⟨by simp, b', .grow, _, rfl, .inl ⟨rfl, by omega, by omega⟩, by rw [List.map_append]; exact drop2 hS'⟩)
        have e2 : (ds.map u32 ++ [d].map u32).length = (ds ++ [d]).length := by simp
        rw [e2]; exact this)
      rw [hlen] at hk2
      exact hk2
    · have hk2 := Ev.apFull (b := b) (cs := ds.map u32) (v := sl bw 0 1 1) (ds := [d].map u32) (f := f) (Q := Q) hE hE.U hS1 (hS1.get (.tail _ (.head _))) (by simpa using hne) hx (all_u32 _) (by simp) (by rw [hlen, e1]; exact hl) (fun b' B' H' hm hS' => by
        have := hk (sl b' 0 (ds ++ [d]).length ((ds ++ [d]).length + 1)) B' H' ⟨hm⟩ (.inr ⟨by simp, b', .grow, _, rfl, .inl ⟨rfl, by omega, by omega⟩, by rw [List.map_append]; exact drop3 hS'⟩)
        have e2 : (ds.map u32 ++ [d].map u32).length = (ds ++ [d]).length := by simp
        rw [e2]; exact this)
      rw [hlen] at hk2
      exact hk2
/-- It is done. -/
theorem Acc.freeze {H0 B0 B : AH} {L : List (Nat × Blk)} {H : AH} {v : Value} {ds : List Nat} (h : Acc e H0 B0 B L H v ds) (hs : small ds) : ∃ B', MoC B B' ∧ RdN B' v ds ∧ St H0 B0 B' L H := by
  rcases h with ⟨rfl, hv, hS⟩ | ⟨hne, b, kd, cap, rfl, hkc, hS⟩
  · refine ⟨B, ⟨Mo.refl B⟩, ?_, hS⟩
    rcases hv with rfl | ⟨b, off, rfl⟩
    · exact RdN.nil
    · exact ⟨.inr ⟨b, off, 0, rfl, Nat.le_refl _, .inl rfl⟩, hs⟩
  · obtain ⟨B', h1, h2, h3⟩ := hS.freezeN hs rfl (cap := cap) (by rcases hkc with ⟨_, _, h⟩ | ⟨_, h⟩ <;> omega)
    exact ⟨B', ⟨h1⟩, h2, h3⟩
/-- A call beside it. -/
theorem Acc.mo {H0 B0 B : AH} {L : List (Nat × Blk)} {H : AH} {v : Value} {ds : List Nat} (h : Acc e H0 B0 B L H v ds) {r : Value × AH} {Post : AH → Value → Prop} (ha : An B H Post r) : ∃ B', Mo B B' ∧ Acc e H0 B0 B' L r.2 v ds ∧ Post B' r.1 := by
  rcases h with ⟨rfl, hv, hS⟩ | ⟨hne, b, kd, cap, rfl, hkc, hS⟩
  · obtain ⟨B', h1, h2, h3⟩ := hS.call ha
    exact ⟨B', h1, .inl ⟨rfl, hv, h2⟩, h3⟩
  · obtain ⟨B', h1, h2, h3⟩ := hS.call ha
    exact ⟨B', h1, .inr ⟨hne, b, kd, cap, rfl, hkc, h2⟩, h3⟩
end
end Go.AM
set_option linter.unusedVariables false
namespace Go.AM
variable {R : Type} {P : Program}
abbrev str (l : List UInt8) : Value := .string ⟨l.toArray⟩
theorem str_of (s : ByteArray) : Value.string s = str s.data.toList := by
  obtain ⟨⟨l⟩⟩ := s; rfl
instance {t : TypeId} {l : List UInt8} [h : Und P t .string] : PrimEq (lenV P t (str l)) (i64 l.length) := ⟨by unfold lenV; rw [h.eq]; rfl⟩
theorem ix_str {t : TypeId} {l : List UInt8} {k : IntKind} {n : Int} [h : Und P t .string] (i : Nat) (hn : n = (i : Int)) (hi : i < l.length) : ix P t (str l) (.int k n) = some (u8 (l.getD i 0).toNat) := by
  subst hn
  unfold ix; rw [h.eq]
  have : ByteArray.size ⟨l.toArray⟩ = l.length := rfl
  simp only [this]
  rw [if_pos ⟨by omega, by omega⟩]
  simp [List.getD_eq_getElem?_getD]
theorem slc_str {t : TypeId} {l : List UInt8} {k : IntKind} {n : Int} [h : Und P t .string] (i : Nat) (hn : n = (i : Int)) (hi : i ≤ l.length) : slc P t (str l) (some (.int k n)) none = some (str (l.drop i)) := by
  subst hn
  unfold slc; rw [h.eq]
  have : ByteArray.size ⟨l.toArray⟩ = l.length := rfl
  simp only [this, intOr, Option.bind_some]
  rw [if_pos ⟨by omega, by omega, by omega⟩]
  congr 2
  simp [ByteArray.extract, ByteArray.copySlice]
  rw [List.take_of_length_le (by simp)]
theorem toList_loop (a : Array UInt8) : ∀ (n i : Nat) (r : List UInt8), i + n = a.size → ByteArray.toList.loop ⟨a⟩ i r = r.reverse ++ a.toList.drop i := by
  intro n
  induction n with
  | zero =>
    intro i r h
    have h1 : ¬ i < ByteArray.size ⟨a⟩ := by show ¬ i < a.size; omega
    unfold ByteArray.toList.loop
    rw [if_neg h1, List.drop_eq_nil_of_le (by simp; omega), List.append_nil]
  | succ n ih =>
    intro i r h
    have h1 : i < ByteArray.size ⟨a⟩ := by show i < a.size; omega
    have h2 : i < a.size := by omega
    unfold ByteArray.toList.loop
    rw [if_pos h1, ih (i + 1) _ (by omega), List.reverse_cons, List.append_assoc]
    congr 1
    have e : a.toList.drop i = a.toList[i]'(by simpa using h2) :: a.toList.drop (i + 1) := List.drop_eq_getElem_cons (by simpa using h2)
    rw [e]
    have e2 : ByteArray.get! ⟨a⟩ i = a[i] := by
      show a[i]! = a[i]
      rw [getElem!_pos a i h2]
    rw [e2]
    simp
theorem toList_str (l : List UInt8) : ByteArray.toList ⟨l.toArray⟩ = l := by
  unfold ByteArray.toList
  rw [toList_loop l.toArray l.length 0 [] (by simp)]
  simp
theorem add_str {t : TypeId} {a b : List UInt8} (h : a.length + b.length ≤ 9223372036854775807) : bin P .add t (str a) (str b) = some (str (a ++ b)) := by
  have e : binOp .add t (str a) (str b) = .pure (str (a ++ b)) := by
    show Op.stringOp .add _ _ = _
    unfold Op.stringOp
    have e1 : ByteArray.size ⟨a.toArray⟩ = a.length := rfl
    have e2 : ByteArray.size ⟨b.toArray⟩ = b.length := rfl
    have e3 : IntKind.i64.max = 9223372036854775807 := rfl
    simp only [e1, e2, e3]
    rw [if_neg (by omega)]
    have e4 : ((⟨a.toArray⟩ : ByteArray) ++ (⟨b.toArray⟩ : ByteArray)) = ⟨(a ++ b).toArray⟩ := by
      refine ByteArray.ext ?_
      simp
    rw [e4]; rfl
  unfold bin
  rw [if_pos ⟨rfl, rfl, rfl⟩, e]
  rfl
theorem eql_str {t : TypeId} {a b : List UInt8} : bin P .eql t (str a) (str b) = some (.bool (decide (a = b))) := by
  have e : binOp .eql t (str a) (str b) = .pure (.bool (decide (a = b))) := by
    show Op.stringOp .eql _ _ = _
    unfold Op.stringOp
    simp only [toList_str]
    show Sem.pure _ = _
    congr 2
    exact Bool.eq_iff_iff.mpr (by simp)
  unfold bin
  rw [if_pos ⟨rfl, rfl, rfl⟩, e]
  rfl
instance {t : TypeId} {a b : List UInt8} : PrimEq (bin P .eql t (str a) (str b)) (.bool (decide (a = b))) := ⟨eql_str⟩
instance (priority := 2000) {t : TypeId} {a : List UInt8} : PrimEq (bin P .eql t (str a) (str a)) (.bool true) := ⟨by rw [eql_str, decide_eq_true rfl]⟩
theorem bytesOf_map (l : List Nat) : bytesOf (l.map u8) = some (l.map fun n => UInt8.ofNat n) := by
  induction l with
  | nil => rfl
  | cons a l ih => show (bytesOf (l.map u8)).map _ = _; rw [ih]; rfl
theorem Acc.cell {e : TypeId} {H0 B0 B L H v ds} (h : Acc e H0 B0 B L H v ds) : IsCell v := by
  rcases h with ⟨_, rfl | ⟨b, off, rfl⟩, _⟩ | ⟨_, b, kd, cap, rfl, _, _⟩
  · exact inferInstance
  · exact inferInstance
  · exact inferInstance
theorem Acc.stC {t e e' : TypeId} {H0 B0 B : AH} {L L' : List (Nat × Blk)} {H : AH} {v : Value} {ds : List Nat} {b off : Nat} {cs0 cs : List Value} {w : Value} {f : Nat → Nat → AH → Option R} {Q : R → Prop} (h : Acc e H0 B0 B L H v ds) [hm : InL b ⟨cs0, e', .fix⟩ L] [hs : PrimEq (stK P t cs0 off w) cs]
    [hu : UpL b ⟨cs0, e', .fix⟩ ⟨cs, e', .fix⟩ L L'] (hk : ∀ H', Acc e H0 B0 B L' H' v ds → Ev (fun k n => f k n H') Q) : Ev (fun k n => (Go.AM.st P t H (ptr b off) w).bind (f k n)) Q := by
  rcases h with ⟨h1, hv, hS⟩ | ⟨hne, b2, kd, cap, hv, hkc, hS⟩
  · exact Ev.st hS hm.mem hs.eq rfl hu.upd fun H' hS' => hk H' (.inl ⟨h1, hv, hS'⟩)
  · exact Ev.st hS (.tail _ hm.mem) hs.eq rfl (.tail _ hu.upd) fun H' hS' => hk H' (.inr ⟨hne, b2, kd, cap, hv, hkc, hS'⟩)
theorem shl8I {t : TypeId} {a : Nat} {k' : IntKind} (h : a < 1000) : bin P .shl t (i64 a) (.int k' 8) = some (i64 (a * 256)) := by
  rw [bin_shl (by decide), show min (8 : Int).toNat IntKind.i64.bits = 8 from rfl, wrap64 (by omega)]
  have : (a : Int) * 2 ^ 8 = ((a * 256 : Nat) : Int) := by omega
  rw [this]
theorem orI {t : TypeId} {a b : Nat} (h : a < 1073741824 ∧ b < 1073741824) : bin P .or t (i64 a) (i64 b) = some (i64 (a ||| b)) := by
  rw [bin_or]
  have e : (BitVec.ofInt IntKind.i64.bits (a : Int) ||| BitVec.ofInt IntKind.i64.bits (b : Int)).toNat = a ||| b := by
    rw [BitVec.toNat_or, BitVec.ofInt_natCast, BitVec.ofInt_natCast, BitVec.toNat_ofNat, BitVec.toNat_ofNat, show 2 ^ IntKind.i64.bits = 18446744073709551616 from rfl, Nat.mod_eq_of_lt (by omega), Nat.mod_eq_of_lt (by omega)]
  have : a ||| b < 2 ^ 30 := Nat.or_lt_two_pow h.1 h.2
  rw [e, wrap64 (by omega)]
instance {t : TypeId} {a b : List UInt8} : PrimC (bin P .add t (str a) (str b)) (a.length + b.length ≤ 9223372036854775807) (str (a ++ b)) := ⟨add_str⟩
end Go.AM
set_option linter.unusedVariables false
set_option linter.unusedSimpArgs false
namespace Go.AM
variable {α β R : Type} {P : Program}
/-- What append makes of such elements. -/
def gkl : List Value → BK
  | [v] => gkz v
  | _ => .grow
theorem gkl_gr (z : List Value) : gkl z = .grow ∨ gkl z = .buf := by
  unfold gkl
  split
  · exact gkz_gr _
  · exact .inl rfl
/-- A type of slices, by the cells of its elements. -/
class EltS (P : Program) (t : TypeId) (e : outParam TypeId) (z : outParam (List Value)) (sz by_ : outParam Nat) : Prop where
  U : P.underlying t = some (.slice e)
  I : (P.info? e).isSome = true
  S : szT P e = sz
  Y : byT P e = by_
  Z : ∃ zv, zeroT P e = some zv ∧ zv.cells.toList = z
  n : z.length = sz
  p : 0 < sz
  K : gk P e = gkl z
instance {t e : TypeId} {z : Value} {sz : Nat} [h : Elt P t e z sz] : EltS P t e [z] 1 sz := ⟨h.U, h.I, h.S, h.Y, ⟨z, h.Z, h.zn⟩, rfl, by decide, h.K⟩
section
variable {t u e u' : TypeId} {z : List Value} {sz by_ : Nat}
/-- A slice that stands: so many elements, their cells. -/
def ScN (B : AH) (v : Value) (n sz : Nat) (cs : List Value) : Prop :=
  (v = .slice none 0 0 ∧ n = 0 ∧ cs = []) ∨ ∃ b off cap, v = sl b off n cap ∧ n ≤ cap ∧ cs.length = n * sz ∧ (n = 0 ∨ ∃ K, blk B b = some K ∧ rdN K off (n * sz) = some cs)
theorem ScN.mono {B B' : AH} {v : Value} {n : Nat} {cs : List Value} (hm : Mo B B') (h : ScN B v n sz cs) : ScN B' v n sz cs := by
  rcases h with h | ⟨b, off, cap, h1, hc, hl, h2⟩
  · exact .inl h
  · exact .inr ⟨b, off, cap, h1, hc, hl, h2.imp id fun ⟨K, h3, h4⟩ => ⟨K, hm _ _ h3, h4⟩⟩
theorem ScN.cell {B : AH} {v : Value} {n : Nat} {cs : List Value} (h : ScN B v n sz cs) : IsCell v := by
  rcases h with ⟨rfl, _⟩ | ⟨b, off, cap, rfl, _⟩ <;> exact inferInstance
theorem ScN.nil {B : AH} : ScN B (.slice none 0 0) 0 sz [] := .inl ⟨rfl, rfl, rfl⟩
theorem ScN.length {B : AH} {v : Value} {n : Nat} {cs : List Value} (h : ScN B v n sz cs) : cs.length = n * sz := by
  rcases h with ⟨_, rfl, rfl⟩ | ⟨_, _, _, _, _, h, _⟩
  · simp
  · exact h
theorem ScN.len {B : AH} {v : Value} {n : Nat} {cs : List Value} {e : TypeId} (hU : P.underlying t = some (.slice e)) (h : ScN B v n sz cs) : lenV P t v = some (i64 n) := by
  rcases h with ⟨rfl, rfl, _⟩ | ⟨b, off, cap, rfl, _⟩
  · exact lenV_sl hU
  · exact lenV_sl hU
theorem ScN.lenOf {B : AH} {v : Value} {n : Nat} {cs : List Value} (h : ScN B v n sz cs) : AM.lenOf v = some n := by
  rcases h with ⟨rfl, rfl, _⟩ | ⟨b, off, cap, rfl, _⟩ <;> rfl
theorem ScN.notStr {B : AH} {v : Value} {n : Nat} {cs : List Value} (h : ScN B v n sz cs) : isNotStr v = true := by
  rcases h with ⟨rfl, rfl, _⟩ | ⟨b, off, cap, rfl, _⟩ <;> rfl
theorem ScN.cells {H : AH} {v : Value} {n : Nat} {cs : List Value} (h : ScN H v n sz cs) : sliceCells sz H v n = some cs := by
  rcases h with ⟨rfl, rfl, rfl⟩ | ⟨b, off, cap, rfl, hc, hl, h⟩
  · rfl
  · show (if n = 0 then some [] else if n ≤ n then (blk H b).bind fun k => rdN k off (n * sz) else none) = some cs
    by_cases hn : n = 0
    · rw [if_pos hn]
      rw [hn, Nat.zero_mul] at hl
      rw [List.length_eq_zero_iff.mp hl]
    · rw [if_neg hn, if_pos (Nat.le_refl _)]
      rcases h with rfl | ⟨K, h1, h2⟩
      · exact absurd rfl hn
      · rw [h1, Option.bind_some, h2]
/-- The i-th element's cells. -/
def nth (sz : Nat) (cs : List Value) (i : Nat) : List Value := (cs.drop (i * sz)).take sz
theorem nth_lt {i n : Nat} (h : i < n) : i * sz + sz ≤ n * sz := by
  rw [← Nat.succ_mul]; exact Nat.mul_le_mul_right _ h
/-- Where an element stands. -/
theorem ScN.ix {B : AH} {v : Value} {n i : Nat} {cs : List Value} {k : IntKind} (hU : P.underlying t = some (.slice e)) (hI : (P.info? e).isSome = true) (hS : szT P e = sz) (h : ScN B v n sz cs) (hi : i < n) :
    ∃ b o, ixA P t v (.int k (i : Int)) = some (ptr b o) ∧ ∃ K, blk B b = some K ∧ o + sz ≤ K.cells.length ∧ (K.cells.drop o).take sz = nth sz cs i := by
  rcases h with ⟨rfl, rfl, rfl⟩ | ⟨b, off, cap, rfl, hc, hl, h⟩
  · omega
  · rcases h with rfl | ⟨K, h1, h2⟩
    · omega
    refine ⟨b, off + i * sz, ?_, K, h1, ?_, ?_⟩
    · unfold ixA sl; rw [hU]; simp only; rw [if_pos ⟨hI, by omega, by omega⟩, hS, Int.toNat_natCast]
    · have := (rdN_some h2).1
      have := nth_lt (sz := sz) hi
      omega
    · obtain ⟨h3, h4⟩ := rdN_some h2
      have := nth_lt (sz := sz) hi
      rw [h4]
      unfold nth
      rw [List.drop_take, List.drop_drop, List.take_take, Nat.min_eq_left (by omega)]
/-- A part of it. -/
theorem ScN.slc {B : AH} {v : Value} {n i j : Nat} {cs : List Value} {lo hi : Option Value} (hU : P.underlying t = some (.slice e)) (hI : (P.info? e).isSome = true) (hS : szT P e = sz) (h : ScN B v n sz cs) (h1 : intOr lo 0 = some (i : Int)) (h2 : intOr hi n = some (j : Int)) (hij : i ≤ j) (hjn : j ≤ n) :
    ∃ v', Go.AM.slc P t v lo hi = some v' ∧ ScN B v' (j - i) sz ((cs.drop (i * sz)).take ((j - i) * sz)) := by
  rcases h with ⟨rfl, rfl, rfl⟩ | ⟨b, off, cap, rfl, hc, hl, h⟩
  · have hj : j = 0 := by omega
    have hi0 : i = 0 := by omega
    subst hj hi0
    refine ⟨.slice none 0 0, ?_, .inl ⟨rfl, rfl, by simp⟩⟩
    unfold Go.AM.slc; rw [hU]; simp only [h1, h2, Option.bind_some]
    rw [if_pos ⟨hI, rfl, rfl⟩]
  · have hle : i * sz + (j - i) * sz ≤ n * sz := by rw [← Nat.add_mul]; exact Nat.mul_le_mul_right _ (by omega)
    refine ⟨sl b (if cap = i then off else off + i * sz) (j - i) (cap - i), ?_, .inr ⟨b, _, _, rfl, by omega, by rw [List.length_take, List.length_drop]; omega, ?_⟩⟩
    · unfold Go.AM.slc sl; rw [hU]; simp only [h1, h2, Option.bind_some]
      rw [if_pos ⟨hI, by omega, by omega, by omega⟩, hS]
      simp
    · rcases h with rfl | ⟨K, h3, h4⟩
      · exact .inl (by omega)
      · by_cases h0 : j - i = 0
        · exact .inl h0
        · refine .inr ⟨K, h3, ?_⟩
          obtain ⟨h5, h6⟩ := rdN_some h4
          rw [if_neg (by omega), rdN, if_pos (by omega)]
          conv => rhs; rw [h6]
          rw [List.drop_take, List.take_take, List.drop_drop, Nat.min_eq_left (by omega)]
theorem Ev.ixN {B : AH} {v x : Value} {n : Nat} {cs : List Value} {k : IntKind} {z0 : Value} {sz0 : Nat} {f : Nat → Nat → Value → Option R} {Q : R → Prop} {i : Int} [hE : Elt P t e z0 sz0] (h : ScN B v n 1 cs) (j : Nat) (hi : i = (j : Int)) (hj : j < n) (hx : cs[j]? = some x)
    (hk : ∀ p, LdB P e p B x → Ev (fun k n => f k n p) Q) : Ev (fun k' n => (ixA P t v (.int k i)).bind (f k' n)) Q := by
  subst hi
  obtain ⟨b, o, h1, K, h2, h3, h4⟩ := h.ix (k := k) hE.U hE.I hE.S hj
  refine Ev.prim h1 (hk _ ⟨fun H' hm => ?_⟩)
  have hl := h.length
  unfold nth at h4
  rw [Nat.mul_one] at h4
  have e1 : K.cells[o]? = some x := by
    have e2 := congrArg (fun l => l[0]?) h4
    simp only [List.getElem?_take_of_lt (show 0 < 1 by decide), List.getElem?_drop, Nat.add_zero] at e2
    rw [e2, hx]
  rw [ld_blk (hm _ _ h2)]
  unfold ldK
  rw [hE.A]; exact e1
theorem Ev.slcN {B : AH} {v : Value} {n : Nat} {cs : List Value} {lo hi : Option Value} {f : Nat → Nat → Value → Option R} {Q : R → Prop} [hE : EltS P t e z sz by_] (h : ScN B v n sz cs) (i j : Nat) (h1 : intOr lo 0 = some (i : Int)) (h2 : intOr hi n = some (j : Int)) (hij : i ≤ j) (hjn : j ≤ n)
    (hk : ∀ w, ScN B w (j - i) sz ((cs.drop (i * sz)).take ((j - i) * sz)) → Ev (fun k n => f k n w) Q) : Ev (fun k' n => (Go.AM.slc P t v lo hi).bind (f k' n)) Q := by
  obtain ⟨w, q1, q2⟩ := h.slc (P := P) (t := t) hE.U hE.I hE.S h1 h2 hij hjn
  exact Ev.prim q1 (hk w q2)
theorem ap_eqS {H : AH} {s v : Value} {n : Nat} {ds : List Value} [hE : EltS P t e z sz by_] (hu : P.underlying u = some (.slice u')) (hx : ScN H v n sz ds) (hd : ds.all isCell = true) :
    ap P t u H s v = apS (gkl z) sz by_ e H s n ds := by
  obtain ⟨zv, hz1, hz2⟩ := hE.Z
  have hsz : zv.cells.size = sz := by rw [← Array.length_toList, hz2, hE.n]
  unfold ap
  rw [hE.U, hu]
  simp only [hz1, hE.S, hE.Y, hE.K, Option.bind_some]
  rw [if_pos ⟨hE.p, hsz, hx.notStr⟩, hx.lenOf, Option.bind_some, hx.cells, Option.bind_some, if_pos hd]
/-- What grows: so many elements, their cells. -/
def GAcc (e : TypeId) (sz : Nat) (H0 B0 B : AH) (L : List (Nat × Blk)) (H : AH) (v : Value) (n : Nat) (cs : List Value) : Prop :=
  (n = 0 ∧ cs = [] ∧ (v = .slice none 0 0 ∨ ∃ b off, v = sl b off 0 0) ∧ St H0 B0 B L H) ∨
  (n ≠ 0 ∧ cs.length = n * sz ∧ ∃ b kd cap, v = sl b 0 n cap ∧ ((kd = .grow ∨ kd = .buf) ∧ cap ≠ 0 ∧ n ≤ cap ∨ kd = .fix ∧ cap = n) ∧ St H0 B0 B ((b, ⟨cs, e, kd⟩) :: L) H)
theorem GAcc.nil {H0 B0 B L H} (hS : St H0 B0 B L H) : GAcc e sz H0 B0 B L H (.slice none 0 0) 0 [] := .inl ⟨rfl, rfl, .inl rfl, hS⟩
theorem GAcc.st {H0 B0 B L H v n cs} (h : GAcc e sz H0 B0 B L H v n cs) : St H0 B0 B L H := by
  rcases h with ⟨_, _, _, hS⟩ | ⟨_, _, b, kd, cap, _, _, hS⟩
  · exact hS
  · exact hS.drop1
theorem GAcc.cell {H0 B0 B L H v n cs} (h : GAcc e sz H0 B0 B L H v n cs) : IsCell v := by
  rcases h with ⟨_, _, rfl | ⟨b, off, rfl⟩, _⟩ | ⟨_, _, b, kd, cap, rfl, _⟩ <;> exact inferInstance
theorem GAcc.len {H0 B0 B L H v n cs} {e' : TypeId} (hU : P.underlying t = some (.slice e')) (h : GAcc e sz H0 B0 B L H v n cs) : lenV P t v = some (i64 n) := by
  rcases h with ⟨rfl, _, rfl | ⟨b, off, rfl⟩, _⟩ | ⟨_, _, b, kd, cap, rfl, _⟩ <;> exact lenV_sl hU
theorem GAcc.length {H0 B0 B L H v n cs} (h : GAcc e sz H0 B0 B L H v n cs) : cs.length = n * sz := by
  rcases h with ⟨rfl, rfl, _⟩ | ⟨_, h, _⟩
  · simp
  · exact h
/-- Cells are put behind. -/
theorem GAcc.ap {H0 B0 B : AH} {L : List (Nat × Blk)} {H : AH} {v w : Value} {n m : Nat} {cs ds : List Value} [hE : EltS P t e z sz by_] (hu : P.underlying u = some (.slice u')) (h : GAcc e sz H0 B0 B L H v n cs) (hx : ScN H w m sz ds) (hd : ds.all isCell = true)
    (hl : (n + m) * by_ ≤ 140737488355328 ∧ n + m ≤ 9223372036854775807) : ∃ v' H' B', AM.ap P t u H v w = some (v', H') ∧ MoC B B' ∧ GAcc e sz H0 B0 B' L H' v' (n + m) (cs ++ ds) := by
  rw [ap_eqS hu hx hd]
  have hml := hx.length
  by_cases hm : m = 0
  · subst hm
    have hds : ds = [] := List.length_eq_zero_iff.mp (by rw [hml]; simp)
    subst hds
    refine ⟨v, H, B, ?_, ⟨Mo.refl B⟩, by rw [Nat.add_zero, List.append_nil]; exact h⟩
    rcases h with ⟨rfl, rfl, rfl | ⟨b, off, rfl⟩, hS⟩ | ⟨hn, hl, b, kd, cap, rfl, hk, hS⟩ <;> rfl
  rcases h with ⟨rfl, rfl, hv, hS⟩ | ⟨hn, hcl, b, kd, cap, rfl, hk, hS⟩
  · obtain ⟨B', hm1, hS'⟩ := hS.mkB ds e (gkl z)
    have hl' : m * by_ ≤ 140737488355328 ∧ m ≤ 9223372036854775807 := by simpa using hl
    refine ⟨sl H.length 0 m (m + 1), _, B', ?_, ⟨hm1⟩, .inr ⟨by omega, by simpa using hml, H.length, gkl z, m + 1, by rw [Nat.zero_add], .inl ⟨gkl_gr z, by omega, by omega⟩, hS'⟩⟩
    rcases hv with rfl | ⟨b, off, rfl⟩
    · simp only [apS, if_neg hm, if_pos hl']
    · simp only [apS, sl, if_neg hm, if_pos hl', if_true]
  · have hrd : rdN ⟨cs, e, kd⟩ 0 (n * sz) = some cs := by
      unfold rdN
      rw [if_pos (by simp only; omega), List.drop_zero, List.take_of_length_le (by simp only; omega)]
    have hb := hS.get (.head _)
    rcases hk with ⟨hkd, hc, hcl2⟩ | ⟨rfl, hcap⟩
    · obtain ⟨B', hm1, hS'⟩ := hS.kill.mkB (cs ++ ds) e kd
      rw [length_kill] at hS'
      refine ⟨sl H.length 0 (n + m) (n + m + 1), _, B', ?_, ⟨hm1⟩, .inr ⟨by omega, by rw [List.length_append, hcl, hml, Nat.add_mul], H.length, kd, _, rfl, .inl ⟨hkd, by omega, by omega⟩, hS'⟩⟩
      rcases hkd with rfl | rfl
      · simp only [apS, sl, if_neg hm, if_neg hc, hb, Option.bind_some, hrd, hl, and_self, if_true]
      · simp only [apS, sl, if_neg hm, if_neg hc, hb, Option.bind_some, hrd, hl, hcl, and_self, if_true]
    · obtain ⟨B', hm1, hS'⟩ := hS.mkB (cs ++ ds) e (gkl z)
      have hS'' : St H0 B0 B' ((H.length, ⟨cs ++ ds, e, gkl z⟩) :: L) (mkB H (cs ++ ds) e (gkl z)) := drop2 hS'
      refine ⟨sl H.length 0 (n + m) (n + m + 1), _, B', ?_, ⟨hm1⟩, .inr ⟨by omega, by rw [List.length_append, hcl, hml, Nat.add_mul], H.length, gkl z, _, rfl, .inl ⟨gkl_gr z, by omega, by omega⟩, hS''⟩⟩
      simp only [apS, sl, if_neg hm, if_neg (show cap ≠ 0 by omega), hb, Option.bind_some, hrd, hl, and_self, if_true]
      rw [if_neg (by omega)]
/-- One more element. -/
theorem GAcc.push {H0 B0 B : AH} {L : List (Nat × Blk)} {H : AH} {v x : Value} {n : Nat} {cs ds : List Value} {f : Nat → Nat → Value → AH → Option R} {Q : R → Prop} [hE : EltS P t e z sz by_] (h : GAcc e sz H0 B0 B L H v n cs) (hx : x.cells.toList = ds) (hxl : ds.length = sz) (hxc : okCells x = true) (hd : ds.all isCell = true)
    (hsz : sz ≤ 16777216) (hl : (n + 1) * by_ ≤ 140737488355328 ∧ n + 1 ≤ 9223372036854775807) (hk : ∀ v' B' H', MoC B B' → GAcc e sz H0 B0 B' L H' v' (n + 1) (cs ++ ds) → Ev (fun k n => f k n v' H') Q) :
    Ev (fun k n => Go.AM.b2 (Go.AM.buildS P t H 1 [(0, x)]) fun w h => Go.AM.b2 (Go.AM.ap P t t h v w) (f k n)) Q := by
  obtain ⟨zv, hz1, hz2⟩ := hE.Z
  have hzs : zv.cells.size = sz := by rw [← Array.length_toList, hz2, hE.n]
  have hxs : x.cells.size = sz := by rw [← Array.length_toList, hx, hxl]
  have hb : Go.AM.buildS P t H 1 [(0, x)] = some (sl H.length 0 1 1, mkB H ds e .fix) := by
    unfold Go.AM.buildS
    rw [hE.U]; simp only [hz1, Option.bind_some, hE.S]
    rw [if_pos ⟨by omega, hzs⟩]
    simp only [fillB, rep, hz2, List.append_nil, Nat.zero_mul]
    rw [if_pos ⟨hxs, by rw [hE.n]; omega, hxc⟩]
    have : spl z 0 x.cells.toList = ds := by
      unfold spl; rw [List.take_zero, List.nil_append, Nat.zero_add, hx, List.drop_eq_nil_of_le (by rw [hE.n]; omega), List.append_nil]
    rw [this]; rfl
  refine Ev.prim2 hb ?_
  have hG : GAcc e sz H0 B0 B L (mkB H ds e .fix) v n cs := by
    rcases h with ⟨h1, h2, h3, hS⟩ | ⟨hn, hcl, b, kd, cap, h1, h2, hS⟩
    · exact .inl ⟨h1, h2, h3, (hS.mkB' ds e .fix).drop1⟩
    · exact .inr ⟨hn, hcl, b, kd, cap, h1, h2, (hS.mkB' ds e .fix).drop1⟩
  have hw : ScN (mkB H ds e .fix) (sl H.length 0 1 1) 1 sz ds := by
    refine .inr ⟨H.length, 0, 1, rfl, Nat.le_refl _, by omega, .inr ⟨_, blk_mkB_new, ?_⟩⟩
    unfold rdN
    rw [if_pos (by simp only; omega), List.drop_zero, List.take_of_length_le (by simp only; omega)]
  obtain ⟨v', H', B', q1, q2, q3⟩ := hG.ap (P := P) (t := t) (u := t) hE.U hw hd hl
  exact Ev.prim2 q1 (hk v' B' H' q2 q3)
/-- It is done. -/
theorem GAcc.freeze {H0 B0 B : AH} {L : List (Nat × Blk)} {H : AH} {v : Value} {n : Nat} {cs : List Value} (h : GAcc e sz H0 B0 B L H v n cs) : ∃ B', MoC B B' ∧ ScN B' v n sz cs ∧ St H0 B0 B' L H := by
  rcases h with ⟨rfl, rfl, hv, hS⟩ | ⟨hn, hcl, b, kd, cap, rfl, hk, hS⟩
  · refine ⟨B, ⟨Mo.refl B⟩, ?_, hS⟩
    rcases hv with rfl | ⟨b, off, rfl⟩
    · exact ScN.nil
    · exact .inr ⟨b, off, 0, rfl, Nat.le_refl _, by simp, .inl rfl⟩
  · obtain ⟨B', h1, h2, h3⟩ := hS.freeze
    refine ⟨B', ⟨h1⟩, .inr ⟨b, 0, cap, rfl, by rcases hk with ⟨_, _, h⟩ | ⟨_, h⟩ <;> omega, hcl, .inr ⟨_, h2, ?_⟩⟩, h3⟩
    unfold rdN
    rw [if_pos (by simp only; omega), List.drop_zero, List.take_of_length_le (by simp only; omega)]
/-- A call beside it. -/
theorem GAcc.mo {H0 B0 B : AH} {L : List (Nat × Blk)} {H : AH} {v : Value} {n : Nat} {cs : List Value} (h : GAcc e sz H0 B0 B L H v n cs) {r : Value × AH} {Post : AH → Value → Prop} (ha : An B H Post r) : ∃ B', MoC B B' ∧ GAcc e sz H0 B0 B' L r.2 v n cs ∧ Post B' r.1 := by
  rcases h with ⟨h1, h2, hv, hS⟩ | ⟨hn, hcl, b, kd, cap, h1, hk, hS⟩
  · obtain ⟨B', q1, q2, q3⟩ := hS.call ha
    exact ⟨B', ⟨q1⟩, .inl ⟨h1, h2, hv, q2⟩, q3⟩
  · obtain ⟨B', q1, q2, q3⟩ := hS.call ha
    exact ⟨B', ⟨q1⟩, .inr ⟨hn, hcl, b, kd, cap, h1, hk, q2⟩, q3⟩
theorem GAcc.call {H0 B0 B : AH} {L : List (Nat × Blk)} {H : AH} {v : Value} {n : Nat} {cs : List Value} {g : Nat → Nat → Option (Value × AH)} {Post : AH → Value → Prop} {f : Nat → Nat → Value → AH → Option R} {Q : R → Prop} (h : GAcc e sz H0 B0 B L H v n cs)
    (hc : Le B H → Ev g (An B H Post)) (hk : ∀ w B' H', MoC B B' → GAcc e sz H0 B0 B' L H' v n cs → Post B' w → Ev (fun k n => f k n w H') Q) : Ev (fun k n => Go.AM.b2 (g k n) (f k n)) Q :=
  Ev.b2 (hc h.st.lel) fun w H' ha => by
    obtain ⟨B', q1, q2, q3⟩ := h.mo ha
    exact hk w B' H' q1 q2 q3
/-- Its blocks, as any others; and back again. -/
theorem GAcc.split {H0 B0 B : AH} {L : List (Nat × Blk)} {H : AH} {v : Value} {n : Nat} {cs : List Value} (h : GAcc e sz H0 B0 B L H v n cs) :
    ∃ Lx, St H0 B0 B Lx H ∧ (∀ B' H', St H0 B0 B' Lx H' → GAcc e sz H0 B0 B' L H' v n cs) ∧ ∀ p ∈ L, p ∈ Lx := by
  rcases h with ⟨h1, h2, hv, hS⟩ | ⟨hne, hcl, b2, kd, cap, hv, hkc, hS⟩
  · exact ⟨L, hS, fun B' H' hS' => .inl ⟨h1, h2, hv, hS'⟩, fun p hp => hp⟩
  · exact ⟨_, hS, fun B' H' hS' => .inr ⟨hne, hcl, b2, kd, cap, hv, hkc, hS'⟩, fun p hp => .tail _ hp⟩
/-- A store beside it. -/
theorem GAcc.stC {t' e' : TypeId} {H0 B0 B : AH} {L L' : List (Nat × Blk)} {H : AH} {v : Value} {n : Nat} {cs : List Value} {b off : Nat} {cs0 cs1 : List Value} {w : Value} {f : Nat → Nat → AH → Option R} {Q : R → Prop} (h : GAcc e sz H0 B0 B L H v n cs) [hm : InL b ⟨cs0, e', .fix⟩ L] [hs : PrimEq (stK P t' cs0 off w) cs1]
    [hu : UpL b ⟨cs0, e', .fix⟩ ⟨cs1, e', .fix⟩ L L'] (hk : ∀ H', GAcc e sz H0 B0 B L' H' v n cs → Ev (fun k n => f k n H') Q) : Ev (fun k n => (Go.AM.st P t' H (ptr b off) w).bind (f k n)) Q := by
  rcases h with ⟨h1, h2, hv, hS⟩ | ⟨hne, hcl, b2, kd, cap, hv, hkc, hS⟩
  · exact Ev.st hS hm.mem hs.eq rfl hu.upd fun H' hS' => hk H' (.inl ⟨h1, h2, hv, hS'⟩)
  · exact Ev.st hS (.tail _ hm.mem) hs.eq rfl (.tail _ hu.upd) fun H' hS' => hk H' (.inr ⟨hne, hcl, b2, kd, cap, hv, hkc, hS'⟩)
end
end Go.AM
set_option maxRecDepth 100000
namespace Go.AM.N
open Go Go.AM Go.Proofs
instance : Und Try.prog 3 (.int .i64) := ⟨Try.underlying3⟩
instance : InfoOf Try.prog 3 := ⟨by kernel_rfl⟩
instance : AggOf Try.prog 3 false := ⟨by kernel_rfl⟩
instance : SzOf Try.prog 3 1 := ⟨by kernel_rfl⟩
instance : ZeroOf Try.prog 3 (.int .i64 0) := ⟨by kernel_rfl⟩
instance : Und Try.prog 4 (.bool) := ⟨Try.underlying4⟩
instance : InfoOf Try.prog 4 := ⟨by kernel_rfl⟩
instance : AggOf Try.prog 4 false := ⟨by kernel_rfl⟩
instance : SzOf Try.prog 4 1 := ⟨by kernel_rfl⟩
instance : ZeroOf Try.prog 4 (.bool false) := ⟨by kernel_rfl⟩
instance {a b : Bool} : PrimEq (bin Try.prog .eql 4 (.bool a) (.bool b)) (.bool (a == b)) := ⟨by cases a <;> cases b <;> kernel_rfl⟩
instance {a b : Bool} : PrimEq (bin Try.prog .neq 4 (.bool a) (.bool b)) (.bool (a != b)) := ⟨by cases a <;> cases b <;> kernel_rfl⟩
instance : Und Try.prog 5 (.int .u8) := ⟨Try.underlying5⟩
instance : InfoOf Try.prog 5 := ⟨by kernel_rfl⟩
instance : AggOf Try.prog 5 false := ⟨by kernel_rfl⟩
instance : SzOf Try.prog 5 1 := ⟨by kernel_rfl⟩
instance : ZeroOf Try.prog 5 (.int .u8 0) := ⟨by kernel_rfl⟩
instance : Und Try.prog 9 (.string) := ⟨Try.underlying9⟩
instance : InfoOf Try.prog 9 := ⟨by kernel_rfl⟩
instance : AggOf Try.prog 9 false := ⟨by kernel_rfl⟩
instance : SzOf Try.prog 9 1 := ⟨by kernel_rfl⟩
instance : ZeroOf Try.prog 9 (.string ByteArray.empty) := ⟨by kernel_rfl⟩
instance : Und Try.prog 22 (.slice 9) := ⟨Try.underlying22⟩
instance : InfoOf Try.prog 22 := ⟨by kernel_rfl⟩
instance : AggOf Try.prog 22 false := ⟨by kernel_rfl⟩
instance : SzOf Try.prog 22 1 := ⟨by kernel_rfl⟩
instance : ZeroOf Try.prog 22 (.slice none 0 0) := ⟨by kernel_rfl⟩
instance : Elt Try.prog 22 9 (.string ByteArray.empty) 16 := ⟨Try.underlying22, by kernel_rfl, by kernel_rfl, by kernel_rfl, by kernel_rfl, by kernel_rfl, rfl, rfl, by kernel_rfl⟩
instance : Und Try.prog 23 (.slice 3) := ⟨Try.underlying23⟩
instance : InfoOf Try.prog 23 := ⟨by kernel_rfl⟩
instance : AggOf Try.prog 23 false := ⟨by kernel_rfl⟩
instance : SzOf Try.prog 23 1 := ⟨by kernel_rfl⟩
instance : ZeroOf Try.prog 23 (.slice none 0 0) := ⟨by kernel_rfl⟩
instance : Elt Try.prog 23 3 (.int .i64 0) 8 := ⟨Try.underlying23, by kernel_rfl, by kernel_rfl, by kernel_rfl, by kernel_rfl, by kernel_rfl, rfl, rfl, by kernel_rfl⟩
instance : InfoOf Try.prog 25 := ⟨by kernel_rfl⟩
instance : AggOf Try.prog 25 true := ⟨by kernel_rfl⟩
instance : SzOf Try.prog 25 3 := ⟨by kernel_rfl⟩
instance : StructOf Try.prog 25 [.bool false, .slice none 0 0, .slice none 0 0] := ⟨by kernel_rfl, _, Try.underlying25, by kernel_rfl⟩
instance : FieldOf Try.prog 25 0 0 4 := ⟨⟨_, _, Try.underlying25, rfl, rfl, rfl⟩, by decide +kernel⟩
instance : FieldOf Try.prog 25 1 1 22 := ⟨⟨_, _, Try.underlying25, rfl, rfl, rfl⟩, by decide +kernel⟩
instance : FieldOf Try.prog 25 2 2 23 := ⟨⟨_, _, Try.underlying25, rfl, rfl, rfl⟩, by decide +kernel⟩
instance : Und Try.prog 28 (.int .i64) := ⟨Try.underlying28⟩
instance : InfoOf Try.prog 28 := ⟨by kernel_rfl⟩
instance : AggOf Try.prog 28 false := ⟨by kernel_rfl⟩
instance : SzOf Try.prog 28 1 := ⟨by kernel_rfl⟩
instance : ZeroOf Try.prog 28 (.int .i64 0) := ⟨by kernel_rfl⟩
instance : InfoOf Try.prog 33 := ⟨by kernel_rfl⟩
instance : AggOf Try.prog 33 true := ⟨by kernel_rfl⟩
instance : SzOf Try.prog 33 3 := ⟨by kernel_rfl⟩
instance : StructOf Try.prog 33 [.bool false, .slice none 0 0, .slice none 0 0] := ⟨by kernel_rfl, _, Try.underlying33, by kernel_rfl⟩
instance : FieldOf Try.prog 33 0 0 4 := ⟨⟨_, _, Try.underlying33, rfl, rfl, rfl⟩, by decide +kernel⟩
instance : FieldOf Try.prog 33 1 1 22 := ⟨⟨_, _, Try.underlying33, rfl, rfl, rfl⟩, by decide +kernel⟩
instance : FieldOf Try.prog 33 2 2 23 := ⟨⟨_, _, Try.underlying33, rfl, rfl, rfl⟩, by decide +kernel⟩
instance : Und Try.prog 46 (.slice 25) := ⟨Try.underlying46⟩
instance : InfoOf Try.prog 46 := ⟨by kernel_rfl⟩
instance : AggOf Try.prog 46 false := ⟨by kernel_rfl⟩
instance : SzOf Try.prog 46 1 := ⟨by kernel_rfl⟩
instance : ZeroOf Try.prog 46 (.slice none 0 0) := ⟨by kernel_rfl⟩
instance : EltS Try.prog 46 25 [.bool false, .slice none 0 0, .slice none 0 0] 3 56 := ⟨Try.underlying46, by kernel_rfl, by kernel_rfl, by kernel_rfl, ⟨.agg #[.bool false, .slice none 0 0, .slice none 0 0], by kernel_rfl, rfl⟩, rfl, by decide, by kernel_rfl⟩
instance : Und Try.prog 56 (.map 9 4) := ⟨Try.underlying56⟩
instance : InfoOf Try.prog 56 := ⟨by kernel_rfl⟩
instance : AggOf Try.prog 56 false := ⟨by kernel_rfl⟩
instance : SzOf Try.prog 56 1 := ⟨by kernel_rfl⟩
instance : ZeroOf Try.prog 56 (.map none) := ⟨by kernel_rfl⟩
instance : Und Try.prog 67 (.pointer 70) := ⟨Try.underlying67⟩
instance : InfoOf Try.prog 67 := ⟨by kernel_rfl⟩
instance : AggOf Try.prog 67 false := ⟨by kernel_rfl⟩
instance : SzOf Try.prog 67 1 := ⟨by kernel_rfl⟩
instance : ZeroOf Try.prog 67 (.pointer none) := ⟨by kernel_rfl⟩
instance : Und Try.prog 68 (.slice 5) := ⟨Try.underlying68⟩
instance : InfoOf Try.prog 68 := ⟨by kernel_rfl⟩
instance : AggOf Try.prog 68 false := ⟨by kernel_rfl⟩
instance : SzOf Try.prog 68 1 := ⟨by kernel_rfl⟩
instance : ZeroOf Try.prog 68 (.slice none 0 0) := ⟨by kernel_rfl⟩
instance : Elt Try.prog 68 5 (.int .u8 0) 1 := ⟨Try.underlying68, by kernel_rfl, by kernel_rfl, by kernel_rfl, by kernel_rfl, by kernel_rfl, rfl, rfl, by kernel_rfl⟩
instance : InfoOf Try.prog 70 := ⟨by kernel_rfl⟩
instance : AggOf Try.prog 70 true := ⟨by kernel_rfl⟩
instance : SzOf Try.prog 70 2 := ⟨by kernel_rfl⟩
instance : StructOf Try.prog 70 [.pointer none, .slice none 0 0] := ⟨by kernel_rfl, _, Try.underlying70, by kernel_rfl⟩
instance : FieldOf Try.prog 70 0 0 67 := ⟨⟨_, _, Try.underlying70, rfl, rfl, rfl⟩, by decide +kernel⟩
instance : FieldOf Try.prog 70 1 1 68 := ⟨⟨_, _, Try.underlying70, rfl, rfl, rfl⟩, by decide +kernel⟩
instance : AggOf Try.prog 80 false := ⟨by kernel_rfl⟩
instance : SzOf Try.prog 80 1 := ⟨by kernel_rfl⟩
instance : ZeroOf Try.prog 80 .nilFunc := ⟨by kernel_rfl⟩
instance : Und Try.prog 90 (.pointer 5) := ⟨Try.underlying90⟩
instance : InfoOf Try.prog 90 := ⟨by kernel_rfl⟩
instance : AggOf Try.prog 90 false := ⟨by kernel_rfl⟩
instance : SzOf Try.prog 90 1 := ⟨by kernel_rfl⟩
instance : ZeroOf Try.prog 90 (.pointer none) := ⟨by kernel_rfl⟩
instance : Und Try.prog 92 (.slice 22) := ⟨Try.underlying92⟩
instance : InfoOf Try.prog 92 := ⟨by kernel_rfl⟩
instance : AggOf Try.prog 92 false := ⟨by kernel_rfl⟩
instance : SzOf Try.prog 92 1 := ⟨by kernel_rfl⟩
instance : ZeroOf Try.prog 92 (.slice none 0 0) := ⟨by kernel_rfl⟩
instance : Elt Try.prog 92 22 (.slice none 0 0) 24 := ⟨Try.underlying92, by kernel_rfl, by kernel_rfl, by kernel_rfl, by kernel_rfl, by kernel_rfl, rfl, rfl, by kernel_rfl⟩
instance : Und Try.prog 94 (.slice 23) := ⟨Try.underlying94⟩
instance : InfoOf Try.prog 94 := ⟨by kernel_rfl⟩
instance : AggOf Try.prog 94 false := ⟨by kernel_rfl⟩
instance : SzOf Try.prog 94 1 := ⟨by kernel_rfl⟩
instance : ZeroOf Try.prog 94 (.slice none 0 0) := ⟨by kernel_rfl⟩
instance : Elt Try.prog 94 23 (.slice none 0 0) 24 := ⟨Try.underlying94, by kernel_rfl, by kernel_rfl, by kernel_rfl, by kernel_rfl, by kernel_rfl, rfl, rfl, by kernel_rfl⟩
end Go.AM.N
set_option linter.unusedVariables false
set_option linter.unusedSimpArgs false
namespace Go.AM
variable {α β R : Type} {P : Program}
section
variable {t e : TypeId} {z : Value} {sz : Nat}
def BAcc (e : TypeId) (H0 B0 B : AH) (L : List (Nat × Blk)) (H : AH) (v : Value) (ds : List Nat) : Prop :=
  (ds = [] ∧ (v = .slice none 0 0) ∧ St H0 B0 B L H) ∨
  (∃ b, v = sl b 0 ds.length (ds.length + 1) ∧ St H0 B0 B ((b, ⟨ds.map u8, e, .buf⟩) :: L) H)
theorem BAcc.nil {H0 B0 B L H} (hS : St H0 B0 B L H) : BAcc e H0 B0 B L H (.slice none 0 0) [] := .inl ⟨rfl, rfl, hS⟩
theorem BAcc.st {H0 B0 B L H v ds} (h : BAcc e H0 B0 B L H v ds) : St H0 B0 B L H := by
  rcases h with ⟨_, _, hS⟩ | ⟨b, _, hS⟩
  · exact hS
  · exact hS.drop1
theorem BAcc.cell {H0 B0 B L H v ds} (h : BAcc e H0 B0 B L H v ds) : IsCell v := by
  rcases h with ⟨_, rfl, _⟩ | ⟨b, rfl, _⟩ <;> exact inferInstance
theorem BAcc.apS {H0 B0 B : AH} {L : List (Nat × Blk)} {H : AH} {v : Value} {ds ns : List Nat} {bytes : Nat} (h : BAcc e H0 B0 B L H v ds) (hl : (ds.length + ns.length) * bytes ≤ 140737488355328 ∧ ds.length + ns.length ≤ 9223372036854775807) :
    ∃ v' H' B', AM.apS .buf 1 bytes e H v ns.length (ns.map u8) = some (v', H') ∧ MoC B B' ∧ BAcc e H0 B0 B' L H' v' (ds ++ ns) := by
  by_cases hn : ns = []
  · subst hn
    refine ⟨v, H, B, ?_, ⟨Mo.refl B⟩, by rw [List.append_nil]; exact h⟩
    rcases h with ⟨_, rfl, _⟩ | ⟨b, rfl, _⟩ <;> rfl
  have hn' : ns.length ≠ 0 := fun e => hn (List.length_eq_zero_iff.mp e)
  rcases h with ⟨rfl, rfl, hS⟩ | ⟨b, rfl, hS⟩
  · obtain ⟨B', hm1, hS'⟩ := hS.mkB (ns.map u8) e .buf
    have hl2 : ns.length * bytes ≤ 140737488355328 ∧ ns.length ≤ 9223372036854775807 := by simpa using hl
    refine ⟨sl H.length 0 ns.length (ns.length + 1), _, B', ?_, ⟨hm1⟩, .inr ⟨H.length, ?_, hS'⟩⟩
    · simp only [AM.apS, if_neg hn', if_pos hl2]
    · rw [List.nil_append]
  · have hb := hS.get (.head _)
    obtain ⟨B', hm1, hS'⟩ := hS.kill.mkB (ds.map u8 ++ ns.map u8) e .buf
    rw [length_kill] at hS'
    have e1 : (ds.map u8).length = ds.length := List.length_map ..
    refine ⟨sl H.length 0 (ds.length + ns.length) (ds.length + ns.length + 1), _, B', ?_, ⟨hm1⟩, .inr ⟨H.length, ?_, by rw [List.map_append]; exact hS'⟩⟩
    · simp only [AM.apS, sl, if_neg hn', hb, Option.bind_some, rdN, Nat.mul_one, Nat.zero_add, e1, Nat.le_refl, if_true, List.drop_zero, hl, and_self]
      rw [if_neg (by omega)]
      have e2 : (ds.map u8).take ds.length = ds.map u8 := List.take_of_length_le (by omega)
      rw [e2]
    · rw [List.length_append]
/-- One more byte. -/
theorem BAcc.push {H0 B0 B : AH} {L : List (Nat × Blk)} {H : AH} {v : Value} {ds : List Nat} {d : Nat} {f : Nat → Nat → Value → AH → Option R} {Q : R → Prop} [hE : Elt P t e (.int .u8 0) sz] (h : BAcc e H0 B0 B L H v ds)
    (hl : (ds.length + 1) * sz ≤ 140737488355328 ∧ ds.length + 1 ≤ 9223372036854775807) (hk : ∀ v' B' H', MoC B B' → BAcc e H0 B0 B' L H' v' (ds ++ [d]) → Ev (fun k n => f k n v' H') Q) :
    Ev (fun k n => Go.AM.b2 (Go.AM.buildS P t H 1 [(0, u8 d)]) fun w h => Go.AM.b2 (Go.AM.ap P t t h v w) (f k n)) Q := by
  rcases h with ⟨rfl, rfl, hS⟩ | ⟨b, rfl, hS⟩
  · refine Ev.bsC (P := P) (t := t) (by decide) fun bw H1 hS1 => ?_
    have hx : Sc H1 (sl bw 0 1 1) ([d].map u8) := hS1.sc (.head _) (Nat.le_refl 1)
    obtain ⟨v', H', B', q1, q2, q3⟩ := BAcc.apS (e := e) (ns := [d]) (bytes := sz) (.inl ⟨rfl, rfl, hS1.drop1⟩) (by simpa using hl)
    refine Ev.prim2 ?_ (hk v' B' H' q2 q3)
    rw [ap_eq hE hE.U hx rfl]
    exact q1
  · refine Ev.bsC (P := P) (t := t) (by decide) fun bw H1 hS1 => ?_
    have hx : Sc H1 (sl bw 0 1 1) ([d].map u8) := hS1.sc (.head _) (Nat.le_refl 1)
    obtain ⟨v', H', B', q1, q2, q3⟩ := BAcc.apS (e := e) (ns := [d]) (bytes := sz) (.inr ⟨b, rfl, hS1.drop1⟩) hl
    refine Ev.prim2 ?_ (hk v' B' H' q2 q3)
    rw [ap_eq hE hE.U hx rfl]
    exact q1
/-- A string's bytes. -/
theorem BAcc.str {u : TypeId} {H0 B0 B : AH} {L : List (Nat × Blk)} {H : AH} {v : Value} {ds : List Nat} {l : List UInt8} {f : Nat → Nat → Value → AH → Option R} {Q : R → Prop} [hE : Elt P t e (.int .u8 0) 1] [hu : Und P u .string] (hs : szT P e = 1) (h : BAcc e H0 B0 B L H v ds)
    (hl : ds.length + l.length ≤ 140737488355328) (hb : byT P e = 1) (hk : ∀ v' B' H', MoC B B' → BAcc e H0 B0 B' L H' v' (ds ++ l.map UInt8.toNat) → Ev (fun k n => f k n v' H') Q) :
    Ev (fun k n => Go.AM.b2 (Go.AM.ap P t u H v (AM.str l)) (f k n)) Q := by
  obtain ⟨v', H', B', q1, q2, q3⟩ := h.apS (ns := l.map UInt8.toNat) (bytes := 1) (by rw [List.length_map]; omega)
  refine Ev.prim2 ?_ (hk v' B' H' q2 q3)
  rw [List.length_map] at q1
  unfold Go.AM.ap
  rw [hE.U, hu.eq]
  simp only [hE.Z, hE.K, Option.bind_some]
  rw [if_pos ⟨hs, by rw [hs]; exact size_cells hE.zn⟩]
  have e1 : lenOf (AM.str l) = some l.length := rfl
  have e2 : sliceCells (szT P e) H (AM.str l) l.length = some ((l.map UInt8.toNat).map u8) := by
    show (if l.length ≤ l.length then some ((cellsOfBytes ⟨l.toArray⟩).take l.length) else none) = _
    rw [if_pos (Nat.le_refl _)]
    congr 1
    unfold cellsOfBytes
    rw [List.take_of_length_le (by simp)]
    simp
  rw [e1, Option.bind_some, e2, Option.bind_some, if_pos (by simp [isCell]), hs, hb]
  exact q1
/-- What it says at last. -/
theorem BAcc.said {pt : TypeId} {H0 B0 B : AH} {L : List (Nat × Blk)} {H : AH} {v : Value} {ds : List Nat} (h : BAcc e H0 B0 B L H v ds) (hne : ds ≠ []) (hp : P.underlying pt = some (.pointer e)) (hs : szT P e = 1) (hl : ds.length ≤ 9223372036854775807) :
    ∃ p H', sdV v = some p ∧ usV P pt H p (i64 ds.length) = some (AM.str (ds.map fun n => UInt8.ofNat n), H') ∧ St H0 B0 B L H' ∧ H' = H := by
  rcases h with ⟨rfl, rfl, hS⟩ | ⟨b, rfl, hS⟩
  · exact absurd rfl hne
  · have hn : ds.length ≠ 0 := fun e => hne (List.length_eq_zero_iff.mp e)
    have hb := hS.get (.head _)
    refine ⟨ptr b 0, H, by simp only [sdV, sl, if_neg hn]; rfl, ?_, hS.drop1, rfl⟩
    have e0 : usV P pt H (ptr b 0) (i64 ds.length) = (match P.underlying pt with
        | some (.pointer e) =>
          (blk H b).bind fun k => if 0 < (ds.length : Int) ∧ (ds.length : Int) ≤ 9223372036854775807 ∧ (k.kind.wr || k.kind == .buf) = true ∧ k.elem = e ∧ szT P e = 1 then (rdN k 0 ((ds.length : Int)).toNat).bind fun cs => (bytesOf cs).map fun l => (.string ⟨l.toArray⟩, if k.kind = .buf then H else kill H b) else none
        | _ => none) := rfl
    rw [e0, hp]
    simp only [hb, Option.bind_some]
    rw [if_pos ⟨by omega, by omega, rfl, trivial, hs⟩]
    have e1 : rdN ⟨ds.map u8, e, .buf⟩ 0 ((ds.length : Int)).toNat = some (ds.map u8) := by
      unfold rdN
      rw [Int.toNat_natCast, if_pos (by simp), List.drop_zero, List.take_of_length_le (by simp)]
    rw [e1, Option.bind_some, bytesOf_map]
    rfl
theorem BAcc.upd {H0 B0 B : AH} {L L' : List (Nat × Blk)} {H : AH} {v : Value} {ds : List Nat} {b : Nat} {K : Blk} {cs : List Value} (h : BAcc e H0 B0 B L H v ds) (hu : Upd b K ⟨cs, K.elem, K.kind⟩ L L') : BAcc e H0 B0 B L' (put H b K cs) v ds := by
  rcases h with ⟨h1, hv, hS⟩ | ⟨b2, hv, hS⟩
  · exact .inl ⟨h1, hv, hS.put hu⟩
  · exact .inr ⟨b2, hv, hS.put (.tail _ hu)⟩
theorem BAcc.stC {t e' : TypeId} {H0 B0 B : AH} {L L' : List (Nat × Blk)} {H : AH} {v : Value} {ds : List Nat} {b off : Nat} {cs0 cs : List Value} {w : Value} {f : Nat → Nat → AH → Option R} {Q : R → Prop} (h : BAcc e H0 B0 B L H v ds) [hm : InL b ⟨cs0, e', .fix⟩ L] [hs : PrimEq (stK P t cs0 off w) cs]
    [hu : UpL b ⟨cs0, e', .fix⟩ ⟨cs, e', .fix⟩ L L'] (hk : ∀ H', BAcc e H0 B0 B L' H' v ds → Ev (fun k n => f k n H') Q) : Ev (fun k n => (Go.AM.st P t H (ptr b off) w).bind (f k n)) Q := by
  rcases h with ⟨h1, hv, hS⟩ | ⟨b2, hv, hS⟩
  · exact Ev.st hS hm.mem hs.eq rfl hu.upd fun H' hS' => hk H' (.inl ⟨h1, hv, hS'⟩)
  · exact Ev.st hS (.tail _ hm.mem) hs.eq rfl (.tail _ hu.upd) fun H' hS' => hk H' (.inr ⟨b2, hv, hS'⟩)
end
end Go.AM
set_option linter.unusedVariables false
set_option linter.unusedSimpArgs false
set_option maxRecDepth 100000
namespace Go.AM.N
open Go Go.AM Go.Proofs
attribute [local irreducible] run bin un ld st box newV mkS fldA fld ixA ix slc slc3 build buildS cv cvS ap cpy lenV gOp pickV b2 aIf aChk evalK resume iterD Option.bind

abbrev BldT : List TypeId := [70]
theorem copy_eq (k : Nat) (a0 : Value) (H : AH) : rn (k + 1) 50 [a0] H = gCopy Try.prog BldT [a0] H := by kernel_rfl
theorem copy_spec {H0 B0 B H : AH} {L : List (Nat × Blk)} {p : Nat} {c0 v : Value} {rest : List Value} {T : TypeId} {ds : List Nat} (hT : T ∈ BldT) (hl : rest.length + 2 = szT Try.prog T) (hc : c0 = .pointer none ∨ c0 = ptr p 0)
    (hA : BAcc 5 H0 B0 B ((p, ⟨c0 :: v :: rest, T, .fix⟩) :: L) H v ds) :
    Ev (fun k _ => rn k 50 [ptr p 0] H) (fun r => r.1 = .tuple #[] ∧ BAcc 5 H0 B0 B ((p, ⟨ptr p 0 :: v :: rest, T, .fix⟩) :: L) r.2 v ds) := by
  refine Ev.fn (fun k => copy_eq k _ H) ?_
  have hb := hA.st.get (.head _)
  rcases hc with rfl | rfl
  · have e : gCopy Try.prog BldT [ptr p 0] H = some (.tuple #[], put H p ⟨.pointer none :: v :: rest, T, .fix⟩ (ptr p 0 :: v :: rest)) := by
      show (blk H p).bind _ = _
      rw [hb]
      simp only [Option.bind_some]
      rw [if_pos ⟨trivial, hT, by simpa using hl⟩]
      rfl
    rw [e]
    exact Ev.ret ⟨rfl, hA.upd (.head _)⟩
  · have e : gCopy Try.prog BldT [ptr p 0] H = some (.tuple #[], H) := by
      show (blk H p).bind _ = _
      rw [hb]
      simp only [Option.bind_some]
      rw [if_pos ⟨trivial, hT, by simpa using hl⟩]
      exact if_pos rfl
    rw [e]
    exact Ev.ret ⟨rfl, hA⟩
theorem WriteString_spec {H0 B0 B H : AH} {L : List (Nat × Blk)} {p : Nat} {l : List UInt8} {c0 v : Value} {rest : List Value} {T : TypeId} {ds : List Nat} (hT : T ∈ BldT) (hl : rest.length + 2 = szT Try.prog T) (hc : c0 = .pointer none ∨ c0 = ptr p 0) (hd : ds.length + l.length ≤ 140737488355328)
    (hA : BAcc 5 H0 B0 B ((p, ⟨c0 :: v :: rest, T, .fix⟩) :: L) H v ds) :
    Ev (fun k _ => rn k 36 [ptr p 0, str l] H) (fun r => r.1 = .tuple #[i64 l.length, .nilIface] ∧ ∃ v' B', MoC B B' ∧ BAcc 5 H0 B0 B' ((p, ⟨ptr p 0 :: v' :: rest, T, .fix⟩) :: L) r.2 v' (ds ++ l.map UInt8.toNat)) := by
  refine Ev.fn (fun k => f36_eq k _ _ H) ?_
  refine Ev.b2 (copy_spec hT hl hc hA) fun v1 H1 h1 => ?_
  obtain ⟨h1, hA1⟩ := h1
  simp only at h1 hA1
  have hSt := hA1.st
  have hcell := hA1.cell
  repeat (first | refine Ev.s ?_ | refine Ev.newC fun _ _ _ => ?_ | refine Ev.boxC fun _ _ _ => ?_ | refine Ev.stC fun _ _ => ?_ | refine Ev.sc (by omega) ?_ | refine Ev.scg (by omega) ?_)
  refine hA1.str (by kernel_rfl) hd (by kernel_rfl) fun v' B' H' hm hA' => ?_
  have hcell' := hA'.cell
  refine Ev.s ?_
  refine Ev.s ?_
  refine BAcc.stC (P := Try.prog) (t := 68) (b := p) (off := 1) (w := v') hA' fun H2 hA2 => ?_
  refine Ev.s ?_
  exact Ev.ret ⟨rfl, v', B', hm, hA2⟩
theorem bacc_len {e t : TypeId} [hu : Und Try.prog t (.slice e)] {H0 B0 B H : AH} {L : List (Nat × Blk)} {v : Value} {ds : List Nat} (h : BAcc e H0 B0 B L H v ds) : lenV Try.prog t v = some (i64 ds.length) := by
  rcases h with ⟨rfl, rfl, _⟩ | ⟨b, rfl, _⟩
  · unfold lenV; rw [hu.eq]; rfl
  · unfold lenV; rw [hu.eq]; rfl
theorem String_spec {H0 B0 B H : AH} {L : List (Nat × Blk)} {p : Nat} {c0 v : Value} {rest : List Value} {T : TypeId} {ds : List Nat} (hd : ds.length ≤ 140737488355328) (hne : ds ≠ [])
    (hA : BAcc 5 H0 B0 B ((p, ⟨c0 :: v :: rest, T, .fix⟩) :: L) H v ds) :
    Ev (fun k _ => rn k 37 [ptr p 0] H) (fun r => r.1 = str (ds.map fun n => UInt8.ofNat n) ∧ St H0 B0 B ((p, ⟨c0 :: v :: rest, T, .fix⟩) :: L) r.2) := by
  refine Ev.fn (fun k => f37_eq k _ H) ?_
  have hSt := hA.st
  have hcell := hA.cell
  obtain ⟨q, H', q1, q2, q3⟩ := hA.said (P := Try.prog) (pt := 90) hne (by exact Try.underlying90) (by kernel_rfl) (by omega)
  have hlen := bacc_len (t := 68) hA
  repeat (first | refine Ev.s ?_ | refine Ev.newC fun _ _ _ => ?_ | refine Ev.boxC fun _ _ _ => ?_ | refine Ev.stC fun _ _ => ?_ | refine Ev.sc (by omega) ?_ | refine Ev.scg (by omega) ?_)
  refine Ev.prim q1 ?_
  repeat (first | refine Ev.s ?_ | refine Ev.newC fun _ _ _ => ?_ | refine Ev.boxC fun _ _ _ => ?_ | refine Ev.stC fun _ _ => ?_ | refine Ev.sc (by omega) ?_ | refine Ev.scg (by omega) ?_)
  refine Ev.prim hlen ?_
  refine Ev.prim2 q2 ?_
  exact Ev.ret ⟨rfl, q3.1⟩
end Go.AM.N
set_option linter.unusedVariables false
set_option linter.unusedSimpArgs false
set_option maxRecDepth 100000
namespace Go.AM.N
open Go Go.AM Go.Proofs
attribute [local irreducible] run bin un ld st box newV mkS fldA fld ixA ix slc slc3 build buildS cv cvS ap cpy lenV gOp pickV b2 aIf aChk evalK resume iterD Option.bind

theorem WriteByte_spec {H0 B0 B H : AH} {L : List (Nat × Blk)} {p d : Nat} {c0 v : Value} {rest : List Value} {T : TypeId} {ds : List Nat} (hT : T ∈ BldT) (hl : rest.length + 2 = szT Try.prog T) (hc : c0 = .pointer none ∨ c0 = ptr p 0) (hd : ds.length < 140737488355328)
    (hA : BAcc 5 H0 B0 B ((p, ⟨c0 :: v :: rest, T, .fix⟩) :: L) H v ds) :
    Ev (fun k _ => rn k 35 [ptr p 0, u8 d] H) (fun r => r.1 = .nilIface ∧ ∃ v' B', MoC B B' ∧ BAcc 5 H0 B0 B' ((p, ⟨ptr p 0 :: v' :: rest, T, .fix⟩) :: L) r.2 v' (ds ++ [d])) := by
  refine Ev.fn (fun k => f35_eq k _ _ H) ?_
  refine Ev.b2 (copy_spec hT hl hc hA) fun v1 H1 h1 => ?_
  obtain ⟨h1, hA1⟩ := h1
  simp only at h1 hA1
  have hSt := hA1.st
  have hcell := hA1.cell
  repeat (first | refine Ev.s ?_ | refine Ev.newC fun _ _ _ => ?_ | refine Ev.boxC fun _ _ _ => ?_ | refine Ev.stC fun _ _ => ?_ | refine Ev.sc (by omega) ?_ | refine Ev.scg (by omega) ?_)
  refine hA1.push (by omega) fun v' B' H' hm hA' => ?_
  have hcell' := hA'.cell
  refine Ev.s ?_
  refine Ev.s ?_
  refine BAcc.stC (P := Try.prog) (t := 68) (b := p) (off := 1) (w := v') hA' fun H2 hA2 => ?_
  exact Ev.ret ⟨rfl, v', B', hm, hA2⟩
end Go.AM.N
set_option linter.unusedVariables false
namespace Go.AM
variable {P : Program} {t : TypeId} {a n : Nat} {k : IntKind}
theorem lsubL (h : a ≤ @OfNat.ofNat Nat n (instOfNatNat n) ∧ @OfNat.ofNat Nat n (instOfNatNat n) < 9223372036854775808) : bin P .sub t (.int .i64 (@OfNat.ofNat Int n instOfNat)) (i64 a) = some (i64 (@OfNat.ofNat Nat n (instOfNatNat n) - a)) := subN h
theorem laddQ (h : @OfNat.ofNat Nat n (instOfNatNat n) + a < 18446744073709551616) : bin P .add t (.int .u64 (@OfNat.ofNat Int n instOfNat)) (u64 a) = some (u64 (@OfNat.ofNat Nat n (instOfNatNat n) + a)) := addQ h
theorem laddL (h : @OfNat.ofNat Nat n (instOfNatNat n) + a < 9223372036854775808) : bin P .add t (.int .i64 (@OfNat.ofNat Int n instOfNat)) (i64 a) = some (i64 (@OfNat.ofNat Nat n (instOfNatNat n) + a)) := addN h
instance (priority := 900) : PrimC (bin P .add t (.int .i64 (no_index (@OfNat.ofNat Int n instOfNat))) (i64 a)) (@OfNat.ofNat Nat n (instOfNatNat n) + a < 9223372036854775808) (i64 (@OfNat.ofNat Nat n (instOfNatNat n) + a)) := ⟨laddL⟩
theorem quoQL (h : @OfNat.ofNat Nat n (instOfNatNat n) ≠ 0 ∧ a < 18446744073709551616) : bin P .quo t (u64 a) (.int .u64 (@OfNat.ofNat Int n instOfNat)) = some (u64 (a / @OfNat.ofNat Nat n (instOfNatNat n))) := quoQ h
instance (priority := 900) : PrimC (bin P .sub t (.int .i64 (no_index (@OfNat.ofNat Int n instOfNat))) (i64 a)) (a ≤ @OfNat.ofNat Nat n (instOfNatNat n) ∧ @OfNat.ofNat Nat n (instOfNatNat n) < 9223372036854775808) (i64 (@OfNat.ofNat Nat n (instOfNatNat n) - a)) := ⟨lsubL⟩
instance (priority := 900) : PrimC (bin P .add t (.int .u64 (no_index (@OfNat.ofNat Int n instOfNat))) (u64 a)) (@OfNat.ofNat Nat n (instOfNatNat n) + a < 18446744073709551616) (u64 (@OfNat.ofNat Nat n (instOfNatNat n) + a)) := ⟨laddQ⟩
instance (priority := 900) : PrimC (bin P .quo t (u64 a) (.int .u64 (no_index (@OfNat.ofNat Int n instOfNat)))) (@OfNat.ofNat Nat n (instOfNatNat n) ≠ 0 ∧ a < 18446744073709551616) (u64 (a / @OfNat.ofNat Nat n (instOfNatNat n))) := ⟨quoQL⟩
end Go.AM
namespace Go.AM
variable {P : Program}
/-- Bytes that stand, as a string. -/
theorem ScN.cvS {t d e : TypeId} {H : AH} {v : Value} {n : Nat} {ds : List Nat} [h1 : Und P t (.slice e)] [h2 : Und P d .string] [h3 : Und P e (.int .u8)] (h : ScN H v n 1 (ds.map u8)) : cvS P t d H v = some (str (ds.map fun n => UInt8.ofNat n)) := by
  have hl := h.length
  rw [List.length_map, Nat.mul_one] at hl
  unfold AM.cvS
  rw [h1.eq, h2.eq]
  have hc := h.cells
  rcases h with ⟨rfl, hn, hcs⟩ | ⟨b, off, cap, rfl, hc', hl', hx⟩
  · have : ds = [] := by simpa using hcs
    subst this
    simp only [h3.eq, sliceCells]
    rfl
  · simp only [h3.eq, sl]
    have hc2 : sliceCells 1 H (.slice (some ⟨b, off, none⟩) n cap) n = some (ds.map u8) := hc
    rw [hc2, Option.bind_some, bytesOf_map]; rfl
end Go.AM
namespace Go.AM
variable {P : Program}
theorem slc_strT {t : TypeId} {l : List UInt8} {k : IntKind} {i : Nat} [h : Und P t .string] (hi : i ≤ l.length) : slc P t (str l) none (some (.int k (i : Int))) = some (str (l.take i)) := by
  unfold slc; rw [h.eq]
  have : ByteArray.size ⟨l.toArray⟩ = l.length := rfl
  simp only [this, intOr, Option.bind_some]
  rw [if_pos ⟨by omega, by omega, by omega⟩]
  congr 2
  simp [ByteArray.extract, ByteArray.copySlice]
theorem neq_str {t : TypeId} {a b : List UInt8} : bin P .neq t (str a) (str b) = some (.bool (decide (a ≠ b))) := by
  have e : binOp .neq t (str a) (str b) = .pure (.bool (decide (a ≠ b))) := by
    show Op.stringOp .neq _ _ = _
    unfold Op.stringOp
    simp only [toList_str]
    show Sem.pure _ = _
    congr 2
    exact Bool.eq_iff_iff.mpr (by simp)
  unfold bin
  rw [if_pos ⟨rfl, rfl, rfl⟩, e]
  rfl
instance {t : TypeId} {a b : List UInt8} : PrimEq (bin P .neq t (str a) (str b)) (.bool (decide (a ≠ b))) := ⟨neq_str⟩
instance (priority := 2000) {t : TypeId} {a : List UInt8} : PrimEq (bin P .neq t (str a) (str a)) (.bool false) := ⟨by rw [neq_str, decide_eq_false (fun h => h rfl)]⟩
end Go.AM
set_option linter.unusedVariables false
set_option linter.unusedSimpArgs false
namespace Go.AM
variable {P : Program} {R : Type}
abbrev slt (a b : List UInt8) : Bool := Go.Op.bytesLess a b
theorem slt_irr : ∀ a : List UInt8, slt a a = false
  | [] => rfl
  | a :: l => by
    have := slt_irr l
    show (decide (a < a) || (a == a && Go.Op.bytesLess l l)) = false
    rw [show Go.Op.bytesLess l l = false from this]
    simp
theorem slt_asym : ∀ a b : List UInt8, slt a b = true → slt b a = false
  | _, [], h => by cases ‹List UInt8› <;> simp [slt, Go.Op.bytesLess] at h
  | [], b :: y, _ => rfl
  | a :: x, b :: y, h => by
    simp only [slt, Go.Op.bytesLess, Bool.or_eq_true, Bool.and_eq_true, decide_eq_true_eq, beq_iff_eq] at h
    simp only [slt, Go.Op.bytesLess, Bool.or_eq_false_iff, Bool.and_eq_false_iff, decide_eq_false_iff_not, beq_eq_false_iff_ne]
    rcases h with h | ⟨rfl, h⟩
    · exact ⟨fun h2 => by rw [UInt8.lt_iff_toNat_lt] at h h2; omega, .inl fun e => by subst e; rw [UInt8.lt_iff_toNat_lt] at h; omega⟩
    · exact ⟨fun h2 => by rw [UInt8.lt_iff_toNat_lt] at h2; omega, .inr (slt_asym x y h)⟩
theorem slt_tri : ∀ a b : List UInt8, slt a b = false → slt b a = false → a = b
  | [], [], _, _ => rfl
  | [], b :: y, h, _ => by simp [slt, Go.Op.bytesLess] at h
  | a :: x, [], _, h => by simp [slt, Go.Op.bytesLess] at h
  | a :: x, b :: y, h, h2 => by
    simp only [slt, Go.Op.bytesLess, Bool.or_eq_false_iff, Bool.and_eq_false_iff, decide_eq_false_iff_not, beq_eq_false_iff_ne] at h h2
    have e : a = b := by
      apply UInt8.toNat_inj.mp
      have h3 := h.1; have h4 := h2.1
      rw [UInt8.lt_iff_toNat_lt] at h3 h4
      omega
    subst e
    rcases h.2 with h3 | h3
    · exact absurd rfl h3
    · rcases h2.2 with h4 | h4
      · exact absurd rfl h4
      · rw [slt_tri x y h3 h4]
theorem slt_trans : ∀ a b c : List UInt8, slt a b = true → slt b c = true → slt a c = true
  | _, [], _, h, _ => by cases ‹List UInt8› <;> simp [slt, Go.Op.bytesLess] at h
  | _, b :: y, [], _, h => by simp [slt, Go.Op.bytesLess] at h
  | [], b :: y, c :: z, _, _ => rfl
  | a :: x, b :: y, c :: z, h, h2 => by
    simp only [slt, Go.Op.bytesLess, Bool.or_eq_true, Bool.and_eq_true, decide_eq_true_eq, beq_iff_eq] at h h2 ⊢
    rcases h with h | ⟨rfl, h⟩
    · rcases h2 with h2 | ⟨rfl, h2⟩
      · left; rw [UInt8.lt_iff_toNat_lt] at *; omega
      · exact .inl h
    · rcases h2 with h2 | ⟨rfl, h2⟩
      · exact .inl h2
      · exact .inr ⟨rfl, slt_trans x y z h h2⟩
theorem sor_eq (a b : List UInt8) : (Go.Op.bytesLess a b || (a == b)) = !slt b a := by
  cases h : slt b a with
  | true =>
    have h1 := slt_asym _ _ h
    rw [show Go.Op.bytesLess a b = false from h1]
    have : (a == b) = false := by
      rw [beq_eq_false_iff_ne]; intro e; subst e; rw [slt_irr] at h; cases h
    rw [this]; rfl
  | false =>
    cases h2 : slt a b with
    | true => rw [show Go.Op.bytesLess a b = true from h2]; rfl
    | false => rw [slt_tri a b h2 h]; simp
section
variable {t : TypeId} {a b : List UInt8}
theorem lss_str : bin P .lss t (str a) (str b) = some (.bool (slt a b)) := by
  have e : binOp .lss t (str a) (str b) = .pure (.bool (slt a b)) := by
    show Op.stringOp .lss _ _ = _
    unfold Op.stringOp
    simp only [toList_str]
    rfl
  unfold bin
  rw [if_pos ⟨rfl, rfl, rfl⟩, e]
  rfl
theorem leq_str : bin P .leq t (str a) (str b) = some (.bool (!slt b a)) := by
  have e : binOp .leq t (str a) (str b) = .pure (.bool (!slt b a)) := by
    show Op.stringOp .leq _ _ = _
    unfold Op.stringOp
    simp only [toList_str]
    show Sem.pure _ = _
    congr 2
    exact sor_eq a b
  unfold bin
  rw [if_pos ⟨rfl, rfl, rfl⟩, e]
  rfl
theorem gtr_str : bin P .gtr t (str a) (str b) = some (.bool (slt b a)) := by
  have e : binOp .gtr t (str a) (str b) = .pure (.bool (slt b a)) := by
    show Op.stringOp .gtr _ _ = _
    unfold Op.stringOp
    simp only [toList_str]
    show Sem.pure _ = _
    congr 2
    rw [sor_eq a b, Bool.not_not]
  unfold bin
  rw [if_pos ⟨rfl, rfl, rfl⟩, e]
  rfl
theorem geq_str : bin P .geq t (str a) (str b) = some (.bool (!slt a b)) := by
  have e : binOp .geq t (str a) (str b) = .pure (.bool (!slt a b)) := by
    show Op.stringOp .geq _ _ = _
    unfold Op.stringOp
    simp only [toList_str]
    rfl
  unfold bin
  rw [if_pos ⟨rfl, rfl, rfl⟩, e]
  rfl
instance : PrimEq (bin P .lss t (str a) (str b)) (.bool (slt a b)) := ⟨lss_str⟩
instance : PrimEq (bin P .leq t (str a) (str b)) (.bool (!slt b a)) := ⟨leq_str⟩
instance : PrimEq (bin P .gtr t (str a) (str b)) (.bool (slt b a)) := ⟨gtr_str⟩
instance : PrimEq (bin P .geq t (str a) (str b)) (.bool (!slt a b)) := ⟨geq_str⟩
end
abbrev i64v (n : Int) : Value := .int .i64 n
class FL (B : outParam AH) (v : Value) {α : outParam Type} (f : outParam (α → Value)) (l : outParam (List α)) : Prop where
  sc : ScN B v l.length 1 (l.map f)
class FT (B : AH) (v : Value) {α : outParam Type} (f : outParam (α → Value)) (l : outParam (List α)) : Prop where
  fl : FL B v f l
section
variable {α : Type} {f : α → Value} {l : List α} {B B0 H0 H : AH} {v w : Value} {t u e u' : TypeId} {z : Value} {sz by_ : Nat}
theorem FL.mono {B' : AH} (hm : Mo B B') (h : FL B v f l) : FL B' v f l := ⟨h.sc.mono hm⟩
instance [h : FL B0 v f l] [k : MoT B0 B] : FT B v f l := ⟨h.mono k.mo⟩
theorem FL.nil : FL B (.slice none 0 0) f [] := ⟨ScN.nil⟩
instance fl_cell [h : FL B v f l] : IsCell v := h.sc.cell
instance (priority := low) fl_len [hE : Elt P t e z sz] [h : FL B v f l] : PrimEq (lenV P t v) (i64 l.length) := ⟨h.sc.len hE.U⟩
theorem FL.one {b : Nat} {a : α} {L : List (Nat × Blk)} {kd : BK} (hS : St H0 B0 B L H) (hm : (b, ⟨[f a], e, kd⟩) ∈ L) : FL H (sl b 0 1 1) f [a] :=
  ⟨.inr ⟨b, 0, 1, rfl, Nat.le_refl _, rfl, .inr ⟨_, hS.get hm, rfl⟩⟩⟩
theorem Ev.ixF {g : Nat → Nat → Value → Option R} {Q : R → Prop} {k : IntKind} {i : Int} {a : α} [hE : Elt P t e z sz] [h : FL B v f l] (j : Nat) (hi : i = (j : Int)) (ha : l[j]? = some a)
    (hk : ∀ p, LdB P e p B (f a) → Ev (fun k n => g k n p) Q) : Ev (fun k' n => (ixA P t v (.int k i)).bind (g k' n)) Q :=
  Ev.ixN h.sc j hi (List.getElem?_eq_some_iff.mp ha).1 (by rw [List.getElem?_map, ha]; rfl) hk
theorem Ev.slcF {lo hi : Option Value} {g : Nat → Nat → Value → Option R} {Q : R → Prop} [hE : Elt P t e z sz] [h : FL B v f l] (i j : Nat) (h1 : intOr lo 0 = some (i : Int)) (h2 : intOr hi l.length = some (j : Int)) (hij : i ≤ j) (hjn : j ≤ l.length)
    (hk : ∀ w, FL B w f ((l.drop i).take (j - i)) → Ev (fun k n => g k n w) Q) : Ev (fun k' n => (Go.AM.slc P t v lo hi).bind (g k' n)) Q := by
  refine Ev.slcN (z := [z]) (sz := 1) (by_ := sz) h.sc i j h1 h2 hij hjn fun w hw => hk w ⟨?_⟩
  rw [Nat.mul_one, Nat.mul_one, ← List.map_drop, ← List.map_take] at hw
  have : ((l.drop i).take (j - i)).length = j - i := by rw [List.length_take, List.length_drop]; omega
  rw [this]; exact hw
theorem GAcc.fl {L : List (Nat × Blk)} {n : Nat} (h : GAcc e 1 H0 B0 B L H v n (l.map f)) : ∃ B', MoC B B' ∧ FL B' v f l ∧ St H0 B0 B' L H := by
  have hl := h.length
  rw [List.length_map, Nat.mul_one] at hl
  obtain ⟨B', h1, h2, h3⟩ := h.freeze
  exact ⟨B', h1, ⟨by rw [hl]; exact h2⟩, h3⟩
/-- A copy into what is ours. -/
theorem Ev.cpyF {L L' : List (Nat × Blk)} {b off n cap : Nat} {cs : List Value} {kd : BK} {g : Nat → Nat → Value → AH → Option R} {Q : R → Prop} [hE : Elt P t e z sz] [h : FL B w f l] (hS : St H0 B0 B L H) (hm : (b, ⟨cs, e, kd⟩) ∈ L)
    (hc : ∀ a : α, isCell (f a) = true) (hn : l.length ≤ n) (ho : off + n ≤ cs.length) (hk : kd.wr = true) (hu : Upd b ⟨cs, e, kd⟩ ⟨spl cs off (l.map f), e, kd⟩ L L') (hq : ∀ H', St H0 B0 B L' H' → Ev (fun k m => g k m (i64 l.length) H') Q) :
    Ev (fun k m => Go.AM.b2 (Go.AM.cpy P t H (sl b off n cap) w) (g k m)) Q := by
  have hx := (h.sc).mono (show Mo B H from hS.le)
  have e1 := hx.cells
  have e2 := hx.lenOf
  have hmin : min l.length n = l.length := Nat.min_eq_left hn
  have hall : (l.map f).all isCell = true := by rw [List.all_map]; exact List.all_eq_true.mpr fun a _ => hc a
  by_cases h0 : l.length = 0
  · have : l = [] := List.length_eq_zero_iff.mp h0
    subst this
    have hsp : spl cs off (([] : List α).map f) = cs := by simp [spl]
    rw [hsp] at hu
    have hLL : L' = L := by
      clear hm hS hq
      induction hu with
      | head => rfl
      | tail x _ ih => rw [ih]
    subst hLL
    refine Ev.prim2 ?_ (hq H hS)
    unfold Go.AM.cpy sl
    rw [hE.U]; simp only
    rw [hE.I, if_neg (by simp), e2, Option.bind_some, hmin, hE.S, e1, Option.bind_some, if_pos h0]; rfl
  · refine Ev.prim2 ?_ (hq _ (hS.put (cs := spl cs off (l.map f)) hu))
    unfold Go.AM.cpy sl
    rw [hE.U]; simp only
    rw [hE.I, if_neg (by simp), e2, Option.bind_some, hmin, hE.S, e1, Option.bind_some, if_neg h0, hS.get hm, Option.bind_some]
    simp only
    rw [if_pos ⟨hk, by rw [List.length_map]; omega, hall⟩]
end
end Go.AM
set_option linter.unusedVariables false
set_option linter.unusedSimpArgs false
set_option maxRecDepth 100000
namespace Go.AM.N
open Go Go.AM Go.Proofs
attribute [local irreducible] run bin un ld st box newV mkS fldA fld ixA ix slc slc3 build buildS cv cvS ap cpy lenV gOp pickV b2 aIf aChk evalK resume iterD Option.bind

structure Nd where
  leaf : Bool
  keys : List (List UInt8)
  kids : List Int
abbrev NdA (lf : Bool) (kv cv : Value) : Value := .agg #[.bool lf, kv, cv]
def sumK : List (List UInt8) → Nat
  | [] => 0
  | k :: r => 1 + k.length + sumK r
def sizeN (n : Nd) : Nat := 1 + 2 * n.kids.length + sumK n.keys
def bad (c : Int) : Bool := decide (c < 2) || decide (511 < c)
def incr : List UInt8 → List (List UInt8) → Bool
  | _, [] => true
  | l, k :: r => slt l k && decide (k.length ≤ 16) && incr k r
def plainN (n : Nd) : Bool := decide (n.kids.length = n.keys.length + (if n.leaf then 0 else 1)) && incr [] n.keys && !n.kids.any bad
def rightN (n : Nd) : Bool := plainN n && !(n.leaf && decide (n.keys.length = 0)) && decide (sizeN n ≤ 120)
theorem An.imp {B H : AH} {Post Post' : AH → Value → Prop} {g : Nat → Nat → Option (Value × AH)} (h : Ev g (An B H Post)) (hp : ∀ B' v, Post B' v → Post' B' v) : Ev g (An B H Post') :=
  h.mono fun r ⟨B', h1, h2, h3, h4⟩ => ⟨B', h1, h2, h3, hp B' r.1 h4⟩
theorem drop_cons {α : Type} {l : List α} {i : Nat} {a : α} (h : l[i]? = some a) : l.drop i = a :: l.drop (i + 1) := by
  obtain ⟨h1, h2⟩ := List.getElem?_eq_some_iff.mp h
  rw [List.drop_eq_getElem_cons h1, h2]
theorem get_ex {α : Type} {l : List α} {i : Nat} (h : i < l.length) : ∃ a, l[i]? = some a := ⟨_, List.getElem?_eq_getElem h⟩
section
variable {B B0 H0 H : AH} {kv cv : Value} {ks : List (List UInt8)} {cs : List Int} {lf : Bool}
theorem sumK_len : ∀ ks : List (List UInt8), ks.length ≤ sumK ks
  | [] => Nat.le_refl _
  | k :: r => by rw [sumK, List.length_cons]; have := sumK_len r; omega
theorem size_loop {L : List (Nat × Blk)} [hS : St H0 B0 B L H] [hk : FL B kv str ks] (hlen : ks.length < 4611686018427387904) :
    ∀ (m i s : Nat), i + m = ks.length → s + sumK (ks.drop i) < 9223372036854775808 → Ev (fun k n => f20_L0 k (i64 s) kv (i64 ks.length) (i64 i) n H) (fun o => o = (.exit 0, f20_X_L0 (i64 (s + sumK (ks.drop i))), H)) := by
  intro m
  induction m with
  | zero =>
    intro i s hi hs
    refine Ev.succ (fun k n => f20_L0_succ k _ _ _ _ n H) ?_
    repeat (first | refine Ev.s ?_ | refine Ev.newC fun _ _ _ => ?_ | refine Ev.boxC fun _ _ _ => ?_ | refine Ev.stC fun _ _ => ?_ | refine Ev.sc (by omega) ?_ | refine Ev.scg (by omega) ?_)
    rw [decide_eq_false (by omega), List.drop_of_length_le (by omega)]
    repeat (first | refine Ev.s ?_ | refine Ev.newC fun _ _ _ => ?_ | refine Ev.boxC fun _ _ _ => ?_ | refine Ev.stC fun _ _ => ?_ | refine Ev.sc (by omega) ?_ | refine Ev.scg (by omega) ?_)
    exact Ev.ret rfl
  | succ m ih =>
    intro i s hi hs
    refine Ev.succ (fun k n => f20_L0_succ k _ _ _ _ n H) ?_
    obtain ⟨a, ha⟩ := get_ex (l := ks) (i := i) (by omega)
    rw [drop_cons ha, sumK] at hs ⊢
    repeat (first | refine Ev.s ?_ | refine Ev.newC fun _ _ _ => ?_ | refine Ev.boxC fun _ _ _ => ?_ | refine Ev.stC fun _ _ => ?_ | refine Ev.sc (by omega) ?_ | refine Ev.scg (by omega) ?_)
    rw [decide_eq_true (by omega)]
    repeat (first | refine Ev.s ?_ | refine Ev.newC fun _ _ _ => ?_ | refine Ev.boxC fun _ _ _ => ?_ | refine Ev.stC fun _ _ => ?_ | refine Ev.sc (by omega) ?_ | refine Ev.scg (by omega) ?_)
    refine Ev.ixF i rfl ha fun p hp => ?_
    repeat (first | refine Ev.s ?_ | refine Ev.newC fun _ _ _ => ?_ | refine Ev.boxC fun _ _ _ => ?_ | refine Ev.stC fun _ _ => ?_ | refine Ev.sc (by omega) ?_ | refine Ev.scg (by omega) ?_)
    have := ih (i + 1) (s + (1 + a.length)) (by omega) (by omega)
    rw [show s + (1 + a.length) + sumK (ks.drop (i + 1)) = s + (1 + a.length + sumK (ks.drop (i + 1))) by omega] at this
    exact this
theorem Size_spec [ha : FT B kv str ks] [hb : FT B cv i64v cs] (hl : sizeN ⟨lf, ks, cs⟩ < 4611686018427387904) (hL : Le B H) : Ev (fun k _ => rn k 20 [NdA lf kv cv] H) (An B H fun _ v => v = i64 (sizeN ⟨lf, ks, cs⟩)) := by
  refine Ev.fn (fun k => f20_eq k _ H) ?_
  have hS := St.start hL
  have ha := ha.fl
  have hb := hb.fl
  have hsl := sumK_len ks
  unfold sizeN at *
  simp only at hl ⊢
  repeat (first | refine Ev.s ?_ | refine Ev.newC fun _ _ _ => ?_ | refine Ev.boxC fun _ _ _ => ?_ | refine Ev.stC fun _ _ => ?_ | refine Ev.sc (by omega) ?_ | refine Ev.scg (by omega) ?_)
  refine Ev.bind (Ev.loop (size_loop (ks := ks) (by omega) ks.length 0 _ (by omega) (by rw [List.drop_zero]; omega))) ?_
  rintro _ rfl
  refine Ev.eq (fun k _ => f20_A0_x0 k _ _) ?_
  exact Ev.doneC (by rw [List.drop_zero])
theorem bad_spec {c : Int} (hL : Le B H) : Ev (fun k _ => rn k 44 [i64v c] H) (An B H fun _ v => v = .bool (bad c)) := by
  refine Ev.fn (fun k => f44_eq k _ H) ?_
  have hS := St.start hL
  unfold bad
  repeat (first | refine Ev.s ?_ | refine Ev.newC fun _ _ _ => ?_ | refine Ev.boxC fun _ _ _ => ?_ | refine Ev.stC fun _ _ => ?_ | refine Ev.sc (by omega) ?_ | refine Ev.scg (by omega) ?_)
  by_cases h : c < 2
  · rw [decide_eq_true h]
    repeat (first | refine Ev.s ?_ | refine Ev.newC fun _ _ _ => ?_ | refine Ev.boxC fun _ _ _ => ?_ | refine Ev.stC fun _ _ => ?_ | refine Ev.sc (by omega) ?_ | refine Ev.scg (by omega) ?_)
    exact Ev.doneC rfl
  · rw [decide_eq_false h]
    repeat (first | refine Ev.s ?_ | refine Ev.newC fun _ _ _ => ?_ | refine Ev.boxC fun _ _ _ => ?_ | refine Ev.stC fun _ _ => ?_ | refine Ev.sc (by omega) ?_ | refine Ev.scg (by omega) ?_)
    exact Ev.doneC (by simp)
theorem idx_loop {L : List (Nat × Blk)} (hc0 : FL B cv i64v cs) (hlen : cs.length < 4611686018427387904) :
    ∀ (m i : Nat) (B1 H1 : AH), i + m = cs.length → St H0 B0 B1 L H1 → MoC B B1 → Ev (fun k n => f51_L0 k cv (.func (.func 44) #[] #[]) (i64 cs.length) (i64 i) n H1)
      (fun o => ∃ B' H', Mo B1 B' ∧ St H0 B0 B' L H' ∧ ((∃ r : Nat, o = (.ret, f51_X_L0 (i64 r), H') ∧ (cs.drop i).any bad = true) ∨ (o = (.exit 0, f51_X_L0 unk, H') ∧ (cs.drop i).any bad = false))) := by
  intro m
  induction m with
  | zero =>
    intro i B1 H1 hi hS hm
    have hc := hc0.mono hm.mo
    refine Ev.succ (fun k n => f51_L0_succ k _ _ _ _ n H1) ?_
    repeat (first | refine Ev.s ?_ | refine Ev.newC fun _ _ _ => ?_ | refine Ev.boxC fun _ _ _ => ?_ | refine Ev.stC fun _ _ => ?_ | refine Ev.sc (by omega) ?_ | refine Ev.scg (by omega) ?_)
    rw [decide_eq_false (by omega), List.drop_of_length_le (by omega)]
    repeat (first | refine Ev.s ?_ | refine Ev.newC fun _ _ _ => ?_ | refine Ev.boxC fun _ _ _ => ?_ | refine Ev.stC fun _ _ => ?_ | refine Ev.sc (by omega) ?_ | refine Ev.scg (by omega) ?_)
    exact Ev.ret ⟨B1, H1, Mo.refl _, hS, .inr ⟨rfl, rfl⟩⟩
  | succ m ih =>
    intro i B1 H1 hi hS hm
    have hc := hc0.mono hm.mo
    refine Ev.succ (fun k n => f51_L0_succ k _ _ _ _ n H1) ?_
    obtain ⟨a, ha⟩ := get_ex (l := cs) (i := i) (by omega)
    rw [drop_cons ha, List.any_cons]
    repeat (first | refine Ev.s ?_ | refine Ev.newC fun _ _ _ => ?_ | refine Ev.boxC fun _ _ _ => ?_ | refine Ev.stC fun _ _ => ?_ | refine Ev.sc (by omega) ?_ | refine Ev.scg (by omega) ?_)
    rw [decide_eq_true (by omega)]
    repeat (first | refine Ev.s ?_ | refine Ev.newC fun _ _ _ => ?_ | refine Ev.boxC fun _ _ _ => ?_ | refine Ev.stC fun _ _ => ?_ | refine Ev.sc (by omega) ?_ | refine Ev.scg (by omega) ?_)
    refine Ev.ixF i rfl ha fun p hp => ?_
    repeat (first | refine Ev.s ?_ | refine Ev.newC fun _ _ _ => ?_ | refine Ev.boxC fun _ _ _ => ?_ | refine Ev.stC fun _ _ => ?_ | refine Ev.sc (by omega) ?_ | refine Ev.scg (by omega) ?_)
    refine Ev.callD (g := fun k _ => callV (rn k) (.func (.func 44) #[] #[]) [i64v a] H1) (fun hL => bad_spec hL) fun v B2 H2 hm2 hS2 h2 => ?_
    subst h2
    cases hb : bad a with
    | true =>
      repeat (first | refine Ev.s ?_ | refine Ev.newC fun _ _ _ => ?_ | refine Ev.boxC fun _ _ _ => ?_ | refine Ev.stC fun _ _ => ?_ | refine Ev.sc (by omega) ?_ | refine Ev.scg (by omega) ?_)
      exact Ev.ret ⟨B2, H2, hm2.mo, hS2, .inl ⟨i, rfl, rfl⟩⟩
    | false =>
      repeat (first | refine Ev.s ?_ | refine Ev.newC fun _ _ _ => ?_ | refine Ev.boxC fun _ _ _ => ?_ | refine Ev.stC fun _ _ => ?_ | refine Ev.sc (by omega) ?_ | refine Ev.scg (by omega) ?_)
      refine (ih (i + 1) B2 H2 (by omega) hS2 ⟨hm.mo.trans hm2.mo⟩).mono ?_
      rintro o ⟨B', H', q1, q2, q3⟩
      exact ⟨B', H', hm2.mo.trans q1, q2, by rw [Bool.false_or]; exact q3⟩
theorem Contains_spec [hc : FT B cv i64v cs] (hlen : cs.length < 4611686018427387904) (hL : Le B H) : Ev (fun k _ => rn k 43 [cv, .func (.func 44) #[] #[]] H) (An B H fun _ v => v = .bool (cs.any bad)) := by
  refine Ev.fn (fun k => f43_eq k _ _ H) ?_
  have hS := St.start hL
  have hc := hc.fl
  have hmm : MoC B B := ⟨Mo.refl B⟩
  refine Ev.callD (hS := hS) (Post := fun _ v => ∃ r : Int, v = .int .i64 r ∧ decide (0 ≤ r) = cs.any bad) (fun hL2 => ?_) fun v B2 H2 hm2 hS2 h2 => ?_
  · refine Ev.fn (fun k => f51_eq k _ _ H) ?_
    repeat (first | refine Ev.s ?_ | refine Ev.newC fun _ _ _ => ?_ | refine Ev.boxC fun _ _ _ => ?_ | refine Ev.stC fun _ _ => ?_ | refine Ev.sc (by omega) ?_ | refine Ev.scg (by omega) ?_)
    refine Ev.bind (Ev.loop (idx_loop (L := []) (H0 := H) (B0 := B) (cs := cs) hc hlen cs.length 0 B H (by omega) hS hmm)) ?_
    rintro _ ⟨B', H', hm', hS', h⟩
    rw [List.drop_zero] at h
    rcases h with ⟨r, rfl, hr⟩ | ⟨rfl, hr⟩
    · refine Ev.eq (fun k _ => f51_A0_ret k _ _) ?_
      exact Ev.ret (hS'.an ⟨r, rfl, by rw [hr]; simp⟩)
    · refine Ev.eq (fun k _ => f51_A0_x0 k _ _) ?_
      exact Ev.ret (hS'.an ⟨-1, rfl, by rw [hr]; rfl⟩)
  · obtain ⟨r, rfl, hr⟩ := h2
    refine Ev.prim bin_geq ?_
    rw [hr]
    exact Ev.ret (hS2.an rfl)
end
end Go.AM.N
set_option linter.unusedVariables false
set_option linter.unusedSimpArgs false
set_option maxRecDepth 100000
namespace Go.AM.N
open Go Go.AM Go.Proofs
attribute [local irreducible] run bin un ld st box newV mkS fldA fld ixA ix slc slc3 build buildS cv cvS ap cpy lenV gOp pickV b2 aIf aChk evalK resume iterD Option.bind

section
variable {B B0 H0 H : AH} {kv cv : Value} {ks : List (List UInt8)} {cs : List Int} {lf : Bool}
theorem right_loop {L : List (Nat × Blk)} {x1 : Value} [hS : St H0 B0 B L H] [hk : FL B kv str ks] (hlen : ks.length < 4611686018427387904) :
    ∀ (m i : Nat) (l : List UInt8), i + m = ks.length → Ev (fun k n => f18_L0 k x1 (str l) kv (i64 ks.length) (i64 i) n H)
      (fun o => (incr l (ks.drop i) = true ∧ o = (.exit 0, f18_X_L0 x1 unk, H)) ∨ (incr l (ks.drop i) = false ∧ o = (.ret, f18_X_L0 x1 (.bool false), H))) := by
  intro m
  induction m with
  | zero =>
    intro i l hi
    refine Ev.succ (fun k n => f18_L0_succ k _ _ _ _ _ n H) ?_
    repeat (first | refine Ev.s ?_ | refine Ev.newC fun _ _ _ => ?_ | refine Ev.boxC fun _ _ _ => ?_ | refine Ev.stC fun _ _ => ?_ | refine Ev.sc (by omega) ?_ | refine Ev.scg (by omega) ?_)
    rw [decide_eq_false (by omega), List.drop_of_length_le (by omega)]
    repeat (first | refine Ev.s ?_ | refine Ev.newC fun _ _ _ => ?_ | refine Ev.boxC fun _ _ _ => ?_ | refine Ev.stC fun _ _ => ?_ | refine Ev.sc (by omega) ?_ | refine Ev.scg (by omega) ?_)
    exact Ev.ret (.inl ⟨rfl, rfl⟩)
  | succ m ih =>
    intro i l hi
    refine Ev.succ (fun k n => f18_L0_succ k _ _ _ _ _ n H) ?_
    obtain ⟨a, ha⟩ := get_ex (l := ks) (i := i) (by omega)
    rw [drop_cons ha, incr]
    repeat (first | refine Ev.s ?_ | refine Ev.newC fun _ _ _ => ?_ | refine Ev.boxC fun _ _ _ => ?_ | refine Ev.stC fun _ _ => ?_ | refine Ev.sc (by omega) ?_ | refine Ev.scg (by omega) ?_)
    rw [decide_eq_true (by omega)]
    repeat (first | refine Ev.s ?_ | refine Ev.newC fun _ _ _ => ?_ | refine Ev.boxC fun _ _ _ => ?_ | refine Ev.stC fun _ _ => ?_ | refine Ev.sc (by omega) ?_ | refine Ev.scg (by omega) ?_)
    refine Ev.ixF i rfl ha fun p hp => ?_
    repeat (first | refine Ev.s ?_ | refine Ev.newC fun _ _ _ => ?_ | refine Ev.boxC fun _ _ _ => ?_ | refine Ev.stC fun _ _ => ?_ | refine Ev.sc (by omega) ?_ | refine Ev.scg (by omega) ?_)
    cases hlt : slt l a with
    | false =>
      rw [Bool.not_false]
      repeat (first | refine Ev.s ?_ | refine Ev.newC fun _ _ _ => ?_ | refine Ev.boxC fun _ _ _ => ?_ | refine Ev.stC fun _ _ => ?_ | refine Ev.sc (by omega) ?_ | refine Ev.scg (by omega) ?_)
      exact Ev.ret (.inr ⟨rfl, rfl⟩)
    | true =>
      rw [Bool.not_true]
      repeat (first | refine Ev.s ?_ | refine Ev.newC fun _ _ _ => ?_ | refine Ev.boxC fun _ _ _ => ?_ | refine Ev.stC fun _ _ => ?_ | refine Ev.sc (by omega) ?_ | refine Ev.scg (by omega) ?_)
      by_cases h16 : a.length ≤ 16
      · rw [decide_eq_false (show ¬ 16 < a.length by omega)]
        repeat (first | refine Ev.s ?_ | refine Ev.newC fun _ _ _ => ?_ | refine Ev.boxC fun _ _ _ => ?_ | refine Ev.stC fun _ _ => ?_ | refine Ev.sc (by omega) ?_ | refine Ev.scg (by omega) ?_)
        rw [decide_eq_true h16]
        exact ih (i + 1) a (by omega)
      · rw [decide_eq_true (show 16 < a.length by omega)]
        repeat (first | refine Ev.s ?_ | refine Ev.newC fun _ _ _ => ?_ | refine Ev.boxC fun _ _ _ => ?_ | refine Ev.stC fun _ _ => ?_ | refine Ev.sc (by omega) ?_ | refine Ev.scg (by omega) ?_)
        rw [decide_eq_false h16]
        exact Ev.ret (.inr ⟨rfl, rfl⟩)
theorem right_tail {b : Nat} {w : Nat} (hw : w = ks.length + (if lf then 0 else 1)) (hS : St H0 B0 B [(b, ⟨[.bool lf, kv, cv], 25, .fix⟩)] H) [hk : FL B kv str ks] [hc : FL B cv i64v cs] (hl : sizeN ⟨lf, ks, cs⟩ < 4611686018427387904) :
    Ev (fun k _ => f18_J0 k (ptr b 0) (i64 w) H) (An B0 H0 fun _ v => v = .bool (rightN ⟨lf, ks, cs⟩)) := by
  refine Ev.eq (fun k _ => f18_J0_eq k _ _ _) ?_
  have hsl := sumK_len ks
  have hl' := hl
  unfold sizeN at hl'
  simp only at hl'
  unfold rightN plainN
  simp only
  rw [← hw]
  repeat (first | refine Ev.s ?_ | refine Ev.newC fun _ _ _ => ?_ | refine Ev.boxC fun _ _ _ => ?_ | refine Ev.stC fun _ _ => ?_ | refine Ev.sc (by omega) ?_ | refine Ev.scg (by omega) ?_)
  by_cases h1 : cs.length = w
  · rw [decide_eq_false (fun h => h h1), decide_eq_true h1]
    repeat (first | refine Ev.s ?_ | refine Ev.newC fun _ _ _ => ?_ | refine Ev.boxC fun _ _ _ => ?_ | refine Ev.stC fun _ _ => ?_ | refine Ev.sc (by omega) ?_ | refine Ev.scg (by omega) ?_)
    have tl : Ev (fun k _ => b2 (rn k 20 [NdA lf kv cv] H) fun v21 h21 => b2 (gOp (.bool false) false ((bin Try.prog .gtr 3 v21 (.int .i64 120)).bind fun v => some (v, h21)) h21) fun v22 h22 => (pickV (.bool false) (.bool true) v22).bind fun v23 => aIf v23 (some ((.bool false), h22)) ((fldA Try.prog 25 (ptr b 0) 1).bind fun v24 => (ld Try.prog 22 h22 v24).bind fun v25 => (lenV Try.prog 22 v25).bind fun v26 => (f18_L0 k (ptr b 0) (.string ⟨#[]⟩) v25 v26 (.int .i64 0) k h22).bind fun p => f18_A0 k p.1 p.2.1 p.2.2))
        (An B0 H0 fun _ v => v = .bool (true && incr [] ks && !cs.any bad && true && decide (sizeN ⟨lf, ks, cs⟩ ≤ 120))) := by
      refine Ev.callD (Size_spec (ks := ks) (cs := cs) hl) fun v B1 H1 hm1 hS1 h1 => ?_
      subst h1
      have hk1 := hk.mono hm1.mo
      have hc1 := hc.mono hm1.mo
      clear hk hc
      repeat (first | refine Ev.s ?_ | refine Ev.newC fun _ _ _ => ?_ | refine Ev.boxC fun _ _ _ => ?_ | refine Ev.stC fun _ _ => ?_ | refine Ev.sc (by omega) ?_ | refine Ev.scg (by omega) ?_)
      by_cases h120 : sizeN ⟨lf, ks, cs⟩ ≤ 120
      · rw [decide_eq_false (show ¬ 120 < sizeN ⟨lf, ks, cs⟩ by omega), decide_eq_true h120]
        repeat (first | refine Ev.s ?_ | refine Ev.newC fun _ _ _ => ?_ | refine Ev.boxC fun _ _ _ => ?_ | refine Ev.stC fun _ _ => ?_ | refine Ev.sc (by omega) ?_ | refine Ev.scg (by omega) ?_)
        refine Ev.bind (Ev.loop (right_loop (ks := ks) (by omega) ks.length 0 [] (by omega))) ?_
        rw [List.drop_zero]
        rintro _ (⟨hi, rfl⟩ | ⟨hi, rfl⟩)
        · refine Ev.eq (fun k _ => f18_A0_x0 k _ _ _) ?_
          repeat (first | refine Ev.s ?_ | refine Ev.newC fun _ _ _ => ?_ | refine Ev.boxC fun _ _ _ => ?_ | refine Ev.stC fun _ _ => ?_ | refine Ev.sc (by omega) ?_ | refine Ev.scg (by omega) ?_)
          refine Ev.callD (Contains_spec (cs := cs) (by omega)) fun v B2 H2 hm2 hS2 h2 => ?_
          subst h2
          repeat (first | refine Ev.s ?_ | refine Ev.newC fun _ _ _ => ?_ | refine Ev.boxC fun _ _ _ => ?_ | refine Ev.stC fun _ _ => ?_ | refine Ev.sc (by omega) ?_ | refine Ev.scg (by omega) ?_)
          exact Ev.doneC (by rw [hi]; simp)
        · refine Ev.eq (fun k _ => f18_A0_ret k _ _ _) ?_
          exact Ev.doneC (by rw [hi]; simp)
      · rw [decide_eq_true (show 120 < sizeN ⟨lf, ks, cs⟩ by omega), decide_eq_false h120]
        repeat (first | refine Ev.s ?_ | refine Ev.newC fun _ _ _ => ?_ | refine Ev.boxC fun _ _ _ => ?_ | refine Ev.stC fun _ _ => ?_ | refine Ev.sc (by omega) ?_ | refine Ev.scg (by omega) ?_)
        exact Ev.doneC (by simp)
    cases hlf : lf with
    | false =>
      rw [hlf] at tl hw hS
      repeat (first | refine Ev.s ?_ | refine Ev.newC fun _ _ _ => ?_ | refine Ev.boxC fun _ _ _ => ?_ | refine Ev.stC fun _ _ => ?_ | refine Ev.sc (by omega) ?_ | refine Ev.scg (by omega) ?_)
      exact An.imp tl fun _ v h => by rw [h]; simp
    | true =>
      rw [hlf] at tl hw hS
      repeat (first | refine Ev.s ?_ | refine Ev.newC fun _ _ _ => ?_ | refine Ev.boxC fun _ _ _ => ?_ | refine Ev.stC fun _ _ => ?_ | refine Ev.sc (by omega) ?_ | refine Ev.scg (by omega) ?_)
      by_cases h0 : w = 0
      · rw [decide_eq_true h0]
        repeat (first | refine Ev.s ?_ | refine Ev.newC fun _ _ _ => ?_ | refine Ev.boxC fun _ _ _ => ?_ | refine Ev.stC fun _ _ => ?_ | refine Ev.sc (by omega) ?_ | refine Ev.scg (by omega) ?_)
        refine Ev.doneC ?_
        have : ks.length = 0 := by simpa [h0] using hw.symm
        rw [this]; simp
      · rw [decide_eq_false h0]
        repeat (first | refine Ev.s ?_ | refine Ev.newC fun _ _ _ => ?_ | refine Ev.boxC fun _ _ _ => ?_ | refine Ev.stC fun _ _ => ?_ | refine Ev.sc (by omega) ?_ | refine Ev.scg (by omega) ?_)
        have h2 : decide (ks.length = 0) = false := decide_eq_false fun h => h0 (by simpa [h] using hw)
        rw [h2]
        exact An.imp tl fun _ v h => by rw [h]; simp
  · rw [decide_eq_true (show cs.length ≠ w from h1), decide_eq_false h1]
    repeat (first | refine Ev.s ?_ | refine Ev.newC fun _ _ _ => ?_ | refine Ev.boxC fun _ _ _ => ?_ | refine Ev.stC fun _ _ => ?_ | refine Ev.sc (by omega) ?_ | refine Ev.scg (by omega) ?_)
    exact Ev.doneC (by simp)
theorem Right_nspec [ha : FT B kv str ks] [hb : FT B cv i64v cs] (hl : sizeN ⟨lf, ks, cs⟩ < 4611686018427387904) (hL : Le B H) : Ev (fun k _ => rn k 18 [NdA lf kv cv] H) (An B H fun _ v => v = .bool (rightN ⟨lf, ks, cs⟩)) := by
  refine Ev.fn (fun k => f18_eq k _ H) ?_
  have hS := St.start hL
  have ha := ha.fl
  have hb := hb.fl
  have hsl := sumK_len ks
  have hl' := hl
  unfold sizeN at hl'
  simp only at hl'
  repeat (first | refine Ev.s ?_ | refine Ev.newC fun _ _ _ => ?_ | refine Ev.boxC fun _ _ _ => ?_ | refine Ev.stC fun _ _ => ?_ | refine Ev.sc (by omega) ?_ | refine Ev.scg (by omega) ?_)
  cases hlf : lf with
  | false =>
    rw [hlf] at hl
    subst hlf
    repeat (first | refine Ev.s ?_ | refine Ev.newC fun _ _ _ => ?_ | refine Ev.boxC fun _ _ _ => ?_ | refine Ev.stC fun _ _ => ?_ | refine Ev.sc (by omega) ?_ | refine Ev.scg (by omega) ?_)
    exact right_tail rfl (by assumption) hl
  | true =>
    rw [hlf] at hl
    subst hlf
    repeat (first | refine Ev.s ?_ | refine Ev.newC fun _ _ _ => ?_ | refine Ev.boxC fun _ _ _ => ?_ | refine Ev.stC fun _ _ => ?_ | refine Ev.sc (by omega) ?_ | refine Ev.scg (by omega) ?_)
    exact right_tail rfl (by assumption) hl
end
end Go.AM.N
set_option linter.unusedVariables false
set_option linter.unusedSimpArgs false
set_option maxRecDepth 100000
namespace Go.AM.N
open Go Go.AM Go.Proofs
attribute [local irreducible] run bin un ld st box newV mkS fldA fld ixA ix slc slc3 build buildS cv cvS ap cpy lenV gOp pickV b2 aIf aChk evalK resume iterD Option.bind

def kid2 (c : Int) : List Nat := [c.toNat / 256 % 256, c.toNat % 256]
def encB : List (List UInt8) → List Int → List Nat
  | k :: r, c :: s => k.length % 256 :: (k.map UInt8.toNat ++ (kid2 c ++ encB r s))
  | _, _ => []
def encL (n : Nd) : List Nat := if n.leaf then 1 :: encB n.keys n.kids else 0 :: (kid2 (n.kids.headD 0) ++ encB n.keys n.kids.tail)
def encN (n : Nd) : List UInt8 := (encL n).map fun n => UInt8.ofNat n
theorem encB_nil (cs : List Int) : encB [] cs = [] := by cases cs <;> rfl
theorem encB_len : ∀ (ks : List (List UInt8)) (cs : List Int), (encB ks cs).length ≤ sumK ks + 2 * ks.length
  | [], _ => by simp [encB]
  | k :: r, [] => by simp [encB]
  | k :: r, c :: s => by
    have := encB_len r s
    simp only [encB, sumK, kid2, List.length_cons, List.length_append, List.length_map, List.length_nil]
    omega
theorem bld1 : ([] : List Value).length + 2 = szT Try.prog 70 := by
  have : szT Try.prog 70 = 2 := by kernel_rfl
  rw [this]; rfl
section
variable {B B0 H0 H : AH} {kv cv : Value} {ks : List (List UInt8)} {cs : List Int} {lf : Bool}
theorem kid_spec {L : List (Nat × Blk)} {p c : Nat} {c0 v : Value} {ds : List Nat} (hc : c0 = .pointer none ∨ c0 = ptr p 0) (hcc : c < 65536) (hd : ds.length + 2 < 140737488355328)
    (hA : BAcc 5 H0 B0 B ((p, ⟨[c0, v], 70, .fix⟩) :: L) H v ds) :
    Ev (fun k _ => rn k 34 [i64 c, ptr p 0] H) (fun r => r.1 = .tuple #[] ∧ ∃ v' B', MoC B B' ∧ BAcc 5 H0 B0 B' ((p, ⟨[ptr p 0, v'], 70, .fix⟩) :: L) r.2 v' (ds ++ kid2 (c : Int))) := by
  refine Ev.fn (fun k => f34_eq k _ _ H) ?_
  have hSt := hA.st
  have e : kid2 (c : Int) = [c / 256 % 256, c % 256] := by unfold kid2; rw [Int.toNat_natCast]
  rw [e]
  refine Ev.prim (shrL (by decide)) ?_
  repeat (first | refine Ev.s ?_ | refine Ev.newC fun _ _ _ => ?_ | refine Ev.boxC fun _ _ _ => ?_ | refine Ev.stC fun _ _ => ?_ | refine Ev.sc (by omega) ?_ | refine Ev.scg (by omega) ?_)
  refine Ev.b2 (WriteByte_spec (T := 70) (rest := []) (.head _) bld1 hc (by omega) hA) fun v1 H1 h1 => ?_
  obtain ⟨_, v', B1, hm1, hA1⟩ := h1
  simp only at hA1
  clear hSt
  have hSt := hA1.st
  repeat (first | refine Ev.s ?_ | refine Ev.newC fun _ _ _ => ?_ | refine Ev.boxC fun _ _ _ => ?_ | refine Ev.stC fun _ _ => ?_ | refine Ev.sc (by omega) ?_ | refine Ev.scg (by omega) ?_)
  refine Ev.b2 (WriteByte_spec (T := 70) (rest := []) (.head _) bld1 (.inr rfl) (by rw [List.length_append]; simp; omega) hA1) fun v2 H2 h2 => ?_
  obtain ⟨_, v'', B2, hm2, hA2⟩ := h2
  simp only at hA2
  rw [List.append_assoc] at hA2
  exact Ev.ret ⟨rfl, v'', B2, ⟨hm1.mo.trans hm2.mo⟩, hA2⟩
theorem enc_loop {L : List (Nat × Blk)} {p : Nat} (hlen : ks.length ≤ cs.length) (hk16 : ∀ k ∈ ks, k.length ≤ 255) (hcs : ∀ c ∈ cs, 0 ≤ c ∧ c < 65536) (hsm : sumK ks + 2 * ks.length < 1000000) :
    ∀ (m i : Nat) (B H : AH) (v : Value) (ds : List Nat), i + m = ks.length → FL B kv str ks → FL B cv i64v cs → ds.length + (encB (ks.drop i) (cs.drop i)).length < 100000000 → BAcc 5 H0 B0 B ((p, ⟨[ptr p 0, v], 70, .fix⟩) :: L) H v ds →
    Ev (fun k n => f12_L0 k (ptr p 0) (.func (.func 34) #[] #[ptr p 0]) cv kv (i64 ks.length) (i64 i) n H)
      (fun o => ∃ H' B' v', o = (.exit 0, f12_X_L0 (ptr p 0), H') ∧ Mo B B' ∧ BAcc 5 H0 B0 B' ((p, ⟨[ptr p 0, v'], 70, .fix⟩) :: L) H' v' (ds ++ encB (ks.drop i) (cs.drop i))) := by
  have hsl := sumK_len ks
  intro m
  induction m with
  | zero =>
    intro i B H v ds hi hk hc hd hA
    refine Ev.succ (fun k n => f12_L0_succ k _ _ _ _ _ _ n H) ?_
    repeat (first | refine Ev.s ?_ | refine Ev.newC fun _ _ _ => ?_ | refine Ev.boxC fun _ _ _ => ?_ | refine Ev.stC fun _ _ => ?_ | refine Ev.sc (by omega) ?_ | refine Ev.scg (by omega) ?_)
    rw [decide_eq_false (by omega)]
    repeat (first | refine Ev.s ?_ | refine Ev.newC fun _ _ _ => ?_ | refine Ev.boxC fun _ _ _ => ?_ | refine Ev.stC fun _ _ => ?_ | refine Ev.sc (by omega) ?_ | refine Ev.scg (by omega) ?_)
    rw [List.drop_of_length_le (show ks.length ≤ i by omega)]
    exact Ev.ret ⟨H, B, v, rfl, Mo.refl B, by rw [encB_nil, List.append_nil]; exact hA⟩
  | succ m ih =>
    intro i B H v ds hi hk hc hd hA
    refine Ev.succ (fun k n => f12_L0_succ k _ _ _ _ _ _ n H) ?_
    obtain ⟨a, ha⟩ := get_ex (l := ks) (i := i) (by omega)
    obtain ⟨c, hcc⟩ := get_ex (l := cs) (i := i) (by omega)
    have ha16 := hk16 a (List.mem_of_getElem? ha)
    obtain ⟨c0, c1⟩ := hcs c (List.mem_of_getElem? hcc)
    obtain ⟨q, rfl⟩ := Int.eq_ofNat_of_zero_le c0
    have hSt := hA.st
    rw [drop_cons ha, drop_cons hcc, encB] at hd ⊢
    simp only [kid2, List.length_cons, List.length_append, List.length_map, List.length_nil] at hd
    repeat (first | refine Ev.s ?_ | refine Ev.newC fun _ _ _ => ?_ | refine Ev.boxC fun _ _ _ => ?_ | refine Ev.stC fun _ _ => ?_ | refine Ev.sc (by omega) ?_ | refine Ev.scg (by omega) ?_)
    rw [decide_eq_true (by omega)]
    repeat (first | refine Ev.s ?_ | refine Ev.newC fun _ _ _ => ?_ | refine Ev.boxC fun _ _ _ => ?_ | refine Ev.stC fun _ _ => ?_ | refine Ev.sc (by omega) ?_ | refine Ev.scg (by omega) ?_)
    refine Ev.ixF i rfl ha fun x hx => ?_
    repeat (first | refine Ev.s ?_ | refine Ev.newC fun _ _ _ => ?_ | refine Ev.boxC fun _ _ _ => ?_ | refine Ev.stC fun _ _ => ?_ | refine Ev.sc (by omega) ?_ | refine Ev.scg (by omega) ?_)
    refine Ev.b2 (WriteByte_spec (T := 70) (rest := []) (.head _) bld1 (.inr rfl) (by omega) hA) fun v1 H1 h1 => ?_
    obtain ⟨_, v', B1, hm1, hA1⟩ := h1
    simp only at hA1
    refine Ev.b2 (WriteString_spec (l := a) (T := 70) (rest := []) (.head _) bld1 (.inr rfl) (by rw [List.length_append]; simp; omega) hA1) fun v2 H2 h2 => ?_
    obtain ⟨_, v'', B2, hm2, hA2⟩ := h2
    simp only at hA2
    clear hSt
    have hSt := hA2.st
    have hc2 := (hc.mono hm1.mo).mono hm2.mo
    have hk2 := (hk.mono hm1.mo).mono hm2.mo
    refine Ev.ixF i rfl hcc fun y hy => ?_
    repeat (first | refine Ev.s ?_ | refine Ev.newC fun _ _ _ => ?_ | refine Ev.boxC fun _ _ _ => ?_ | refine Ev.stC fun _ _ => ?_ | refine Ev.sc (by omega) ?_ | refine Ev.scg (by omega) ?_)
    refine Ev.b2 (g := fun k _ => callV (rn k) (.func (.func 34) #[] #[ptr p 0]) [i64 q] H2) (kid_spec (c := q) (.inr rfl) (by omega) (by rw [List.length_append, List.length_append]; simp; omega) hA2) fun v3 H3 h3 => ?_
    obtain ⟨_, v3', B3, hm3, hA3⟩ := h3
    simp only at hA3
    clear hSt
    have hSt := hA3.st
    repeat (first | refine Ev.s ?_ | refine Ev.newC fun _ _ _ => ?_ | refine Ev.boxC fun _ _ _ => ?_ | refine Ev.stC fun _ _ => ?_ | refine Ev.sc (by omega) ?_ | refine Ev.scg (by omega) ?_)
    refine (ih (i + 1) B3 H3 v3' _ (by omega) (hk2.mono hm3.mo) (hc2.mono hm3.mo) (by simp only [kid2, List.length_cons, List.length_append, List.length_map, List.length_nil]; omega) hA3).mono ?_
    rintro o ⟨H', B', v', q1, q2, q3⟩
    refine ⟨H', B', v', q1, ((hm1.mo.trans hm2.mo).trans hm3.mo).trans q2, ?_⟩
    simp only [List.append_assoc, List.cons_append, List.nil_append] at q3 ⊢
    exact q3
end
end Go.AM.N
set_option linter.unusedVariables false
set_option linter.unusedSimpArgs false
set_option maxRecDepth 100000
namespace Go.AM.N
open Go Go.AM Go.Proofs
attribute [local irreducible] run bin un ld st box newV mkS fldA fld ixA ix slc slc3 build buildS cv cvS ap cpy lenV gOp pickV b2 aIf aChk evalK resume iterD Option.bind

theorem incr_all : ∀ (ks : List (List UInt8)) (l : List UInt8), incr l ks = true → ∀ k ∈ ks, 1 ≤ k.length ∧ k.length ≤ 16
  | [], _, _, k, hk => absurd hk List.not_mem_nil
  | a :: r, l, h, k, hk => by
    simp only [incr, Bool.and_eq_true, decide_eq_true_eq] at h
    rcases List.mem_cons.mp hk with rfl | hk
    · refine ⟨?_, h.1.2⟩
      cases k with
      | nil => cases l <;> simp [slt, Go.Op.bytesLess] at h
      | cons x y => simp
    · exact incr_all r a h.2 k hk
structure RtN (n : Nd) : Prop where
  plain : plainN n = true
  len : n.kids.length = n.keys.length + (if n.leaf then 0 else 1)
  inc : incr [] n.keys = true
  kid : ∀ c ∈ n.kids, 2 ≤ c ∧ c ≤ 511
  key : ∀ k ∈ n.keys, 1 ≤ k.length ∧ k.length ≤ 16
  ne : n.leaf = true → n.keys.length ≠ 0
  size : sizeN n ≤ 120
theorem rightN_iff {n : Nd} : rightN n = true ↔ RtN n := by
  constructor
  · intro h
    unfold rightN at h
    rw [Bool.and_eq_true, Bool.and_eq_true] at h
    obtain ⟨⟨h1, h2⟩, h3⟩ := h
    have h1' := h1
    unfold plainN at h1
    rw [Bool.and_eq_true, Bool.and_eq_true, decide_eq_true_eq] at h1
    obtain ⟨⟨h4, h5⟩, h6⟩ := h1
    refine ⟨h1', h4, h5, ?_, incr_all _ _ h5, ?_, of_decide_eq_true h3⟩
    · intro c hc
      rw [Bool.not_eq_true', List.any_eq_false] at h6
      have := h6 c hc
      simp [bad] at this
      omega
    · intro hl
      rw [hl] at h2
      simpa using h2
  · intro h
    unfold rightN
    rw [h.plain, decide_eq_true h.size]
    cases hl : n.leaf with
    | false => rfl
    | true => rw [decide_eq_false (h.ne hl)]; rfl
section
variable {B B0 H0 H : AH} {kv cv : Value} {ks : List (List UInt8)} {cs : List Int} {lf : Bool}
theorem enc_tail {L : List (Nat × Blk)} {p : Nat} {v : Value} {ds : List Nat} (hlen : ks.length ≤ cs.length) (hk16 : ∀ k ∈ ks, k.length ≤ 255) (hcs : ∀ c ∈ cs, 0 ≤ c ∧ c < 65536) (hsm : sumK ks + 2 * ks.length < 1000000)
    (hk : FL B kv str ks) (hc : FL B cv i64v cs) (hd : ds.length < 100) (hne : ds ≠ []) (hA : BAcc 5 H0 B0 B ((p, ⟨[ptr p 0, v], 70, .fix⟩) :: L) H v ds) :
    Ev (fun k _ => (f12_L0 k (ptr p 0) (.func (.func 34) #[] #[ptr p 0]) cv kv (i64 ks.length) (.int .i64 0) k H).bind fun q => f12_A0 k q.1 q.2.1 q.2.2)
      (An B0 H0 fun _ v => v = .tuple #[str ((ds ++ encB ks cs).map fun n => UInt8.ofNat n), .int .i64 0]) := by
  have hel := encB_len ks cs
  refine Ev.bind (Ev.loop (enc_loop (kv := kv) (cv := cv) hlen hk16 hcs hsm ks.length 0 B H v ds (by omega) hk hc (by rw [List.drop_zero, List.drop_zero]; omega) hA)) ?_
  rintro _ ⟨H', B', v', rfl, hm', hA'⟩
  refine Ev.eq (fun k _ => f12_A0_x0 k _ _) ?_
  rw [List.drop_zero, List.drop_zero] at hA'
  refine Ev.b2 (String_spec (T := 70) (rest := []) (by rw [List.length_append]; omega) (by intro h; exact hne (List.append_eq_nil_iff.mp h).1) hA') fun v1 H1 h1 => ?_
  obtain ⟨h1, hS1⟩ := h1
  simp only at h1
  subst h1
  exact Ev.ret (hS1.an rfl)
theorem Encode_spec [ha : FT B kv str ks] [hb : FT B cv i64v cs] (hl : sizeN ⟨lf, ks, cs⟩ < 4611686018427387904) (hL : Le B H) : Ev (fun k _ => rn k 12 [NdA lf kv cv] H)
    (An B H fun _ v => v = if rightN ⟨lf, ks, cs⟩ = true then .tuple #[str (encN ⟨lf, ks, cs⟩), .int .i64 0] else .tuple #[.string ⟨#[]⟩, .int .i64 1]) := by
  refine Ev.fn (fun k => f12_eq k _ H) ?_
  have hS := St.start hL
  have ha := ha.fl
  have hb := hb.fl
  repeat (first | refine Ev.s ?_ | refine Ev.newC fun _ _ _ => ?_ | refine Ev.boxC fun _ _ _ => ?_ | refine Ev.stC fun _ _ => ?_ | refine Ev.sc (by omega) ?_ | refine Ev.scg (by omega) ?_)
  refine Ev.callD (Right_nspec (ks := ks) (cs := cs) hl) fun v1 B1 H1 hm1 hS1 h1 => ?_
  subst h1
  have hk := ha.mono hm1.mo
  have hc := hb.mono hm1.mo
  clear ha hb
  cases hr : rightN ⟨lf, ks, cs⟩ with
  | false =>
    rw [if_neg (by simp)]
    repeat (first | refine Ev.s ?_ | refine Ev.newC fun _ _ _ => ?_ | refine Ev.boxC fun _ _ _ => ?_ | refine Ev.stC fun _ _ => ?_ | refine Ev.sc (by omega) ?_ | refine Ev.scg (by omega) ?_)
    exact Ev.doneC rfl
  | true =>
    rw [if_pos rfl]
    have R := rightN_iff.mp hr
    have r1 := R.len
    have r2 := R.size
    have r3 := R.kid
    have r4 := R.key
    simp only at r1 r3 r4
    unfold sizeN at r2
    simp only at r2
    repeat (first | refine Ev.s ?_ | refine Ev.newC fun _ _ _ => ?_ | refine Ev.boxC fun _ _ _ => ?_ | refine Ev.stC fun _ _ => ?_ | refine Ev.sc (by omega) ?_ | refine Ev.scg (by omega) ?_)
    rename_i p H2 hS2
    have hA := BAcc.nil (e := 5) hS2
    cases hlf : lf with
    | true =>
      subst hlf
      rw [if_pos rfl] at r1
      repeat (first | refine Ev.s ?_ | refine Ev.newC fun _ _ _ => ?_ | refine Ev.boxC fun _ _ _ => ?_ | refine Ev.stC fun _ _ => ?_ | refine Ev.sc (by omega) ?_ | refine Ev.scg (by omega) ?_)
      refine Ev.b2 (WriteByte_spec (d := 1) (T := 70) (rest := []) (.head _) bld1 (.inl rfl) (by decide) hA) fun v3 H3 h3 => ?_
      obtain ⟨_, v', B3, hm3, hA3⟩ := h3
      simp only at hA3
      have hk3 := hk.mono hm3.mo
      have hc3 := hc.mono hm3.mo
      clear hS2 hA
      have hSt := hA3.st
      refine Ev.eq (fun k _ => f12_J0_eq k _ _ _ _ _) ?_
      repeat (first | refine Ev.s ?_ | refine Ev.newC fun _ _ _ => ?_ | refine Ev.boxC fun _ _ _ => ?_ | refine Ev.stC fun _ _ => ?_ | refine Ev.sc (by omega) ?_ | refine Ev.scg (by omega) ?_)
      have ht := enc_tail (ks := ks) (cs := cs) (by omega) (fun k hk => by have := (r4 k hk).2; omega) (fun c hc => by have := r3 c hc; omega) (by omega) hk3 hc3 (by simp) (by simp) hA3
      exact An.imp ht fun _ v h => by rw [h]; rfl
    | false =>
      subst hlf
      rw [if_neg (by simp)] at r1
      obtain ⟨c, cs', rfl⟩ : ∃ c cs', cs = c :: cs' := by
        cases cs with
        | nil => simp at r1
        | cons c cs' => exact ⟨c, cs', rfl⟩
      have hc01 := r3 c (by simp)
      obtain ⟨q, rfl⟩ := Int.eq_ofNat_of_zero_le (show 0 ≤ c by omega)
      rw [List.length_cons] at r1
      repeat (first | refine Ev.s ?_ | refine Ev.newC fun _ _ _ => ?_ | refine Ev.boxC fun _ _ _ => ?_ | refine Ev.stC fun _ _ => ?_ | refine Ev.sc (by omega) ?_ | refine Ev.scg (by omega) ?_)
      refine Ev.b2 (WriteByte_spec (d := 0) (T := 70) (rest := []) (.head _) bld1 (.inl rfl) (by decide) hA) fun v3 H3 h3 => ?_
      obtain ⟨_, v', B3, hm3, hA3⟩ := h3
      simp only at hA3
      have hk3 := hk.mono hm3.mo
      have hc3 := hc.mono hm3.mo
      clear hS2 hA
      have hSt := hA3.st
      refine Ev.ixF 0 rfl rfl fun x hx => ?_
      repeat (first | refine Ev.s ?_ | refine Ev.newC fun _ _ _ => ?_ | refine Ev.boxC fun _ _ _ => ?_ | refine Ev.stC fun _ _ => ?_ | refine Ev.sc (by omega) ?_ | refine Ev.scg (by omega) ?_)
      refine Ev.b2 (kid_spec (c := q) (.inr rfl) (by omega) (by simp) hA3) fun v4 H4 h4 => ?_
      obtain ⟨_, v4', B4, hm4, hA4⟩ := h4
      simp only at hA4
      have hk4 := hk3.mono hm4.mo
      have hc4 := hc3.mono hm4.mo
      clear hSt hc hk hk3 hc3
      have hSt := hA4.st
      refine Ev.slcF 1 ((q : Int) :: cs').length rfl rfl (by simp) (Nat.le_refl _) fun w hw => ?_
      have ew : (((q : Int) :: cs').drop 1).take (((q : Int) :: cs').length - 1) = cs' := by
        rw [List.drop_succ_cons, List.drop_zero, List.take_of_length_le (by simp)]
      rw [ew] at hw
      refine Ev.eq (fun k _ => f12_J0_eq k _ _ _ _ _) ?_
      repeat (first | refine Ev.s ?_ | refine Ev.newC fun _ _ _ => ?_ | refine Ev.boxC fun _ _ _ => ?_ | refine Ev.stC fun _ _ => ?_ | refine Ev.sc (by omega) ?_ | refine Ev.scg (by omega) ?_)
      have hsl := sumK_len ks
      have ht := enc_tail (ks := ks) (cs := cs') (by omega) (fun k hk => by have := (r4 k hk).2; omega) (fun c hc => by have := r3 c (by simp [hc]); omega) (by omega) hk4 hw (by simp [kid2]) (by simp) hA4
      exact An.imp ht fun _ v h => by rw [h]; rfl
end
end Go.AM.N
set_option linter.unusedVariables false
set_option linter.unusedSimpArgs false
namespace Go.AM
variable {P : Program} {R : Type}
section
variable {B B0 H0 H : AH} {v : Value} {cs : List Value} {e : TypeId}
def GR (e : TypeId) (v : Value) (cs : List Value) (Lx : List (Nat × Blk)) : Prop :=
  (cs = [] ∧ (v = .slice none 0 0 ∨ ∃ b off, v = sl b off 0 0) ∧ Lx = []) ∨ (cs ≠ [] ∧ ∃ b kd cap, v = sl b 0 cs.length cap ∧ ((kd = .grow ∨ kd = .buf) ∧ cap ≠ 0 ∧ cs.length ≤ cap ∨ kd = .fix ∧ cap = cs.length) ∧ Lx = [(b, ⟨cs, e, kd⟩)])
theorem GR.nil : GR e (.slice none 0 0) [] [] := .inl ⟨rfl, .inl rfl, rfl⟩
theorem GR.cell {Lx : List (Nat × Blk)} (h : GR e v cs Lx) : IsCell v := by
  rcases h with ⟨_, rfl | ⟨b, off, rfl⟩, _⟩ | ⟨_, b, kd, cap, rfl, _, _⟩ <;> exact inferInstance
theorem GR.acc {L Lx : List (Nat × Blk)} (h : GR e v cs Lx) (hS : St H0 B0 B (Lx ++ L) H) : GAcc e 1 H0 B0 B L H v cs.length cs := by
  rcases h with ⟨rfl, hv, rfl⟩ | ⟨hne, b, kd, cap, hv, hk, rfl⟩
  · exact .inl ⟨rfl, rfl, hv, hS⟩
  · exact .inr ⟨fun h => hne (List.length_eq_zero_iff.mp h), by omega, b, kd, cap, hv, hk, hS⟩
theorem GAcc.gr {L : List (Nat × Blk)} {n : Nat} (h : GAcc e 1 H0 B0 B L H v n cs) : ∃ Lx, GR e v cs Lx ∧ St H0 B0 B (Lx ++ L) H := by
  rcases h with ⟨_, rfl, hv, hS⟩ | ⟨hn, hl, b, kd, cap, hv, hk, hS⟩
  · exact ⟨[], .inl ⟨rfl, hv, rfl⟩, hS⟩
  · rw [Nat.mul_one] at hl
    subst hl
    exact ⟨[(b, ⟨cs, e, kd⟩)], .inr ⟨fun h => hn (by rw [h]; rfl), b, kd, cap, hv, hk, rfl⟩, hS⟩
end
theorem Ev.ixFg {α : Type} {f : α → Value} {l : List α} {B H : AH} {v : Value} {t e : TypeId} {z : Value} {sz : Nat} {g : Nat → Nat → Value → AH → Option R} {Q : R → Prop} {k : IntKind} {i : Int} {a : α} [hE : Elt P t e z sz] [h : FL B v f l] (j : Nat) (hi : i = (j : Int)) (ha : l[j]? = some a)
    (hk : ∀ p, LdB P e p B (f a) → Ev (fun k n => g k n p H) Q) : Ev (fun k' n => Go.AM.b2 ((ixA P t v (.int k i)).bind fun v => some (v, H)) (g k' n)) Q := by
  have h2 := Ev.ixF (P := P) (t := t) (k := k) (v := v) (g := fun k n p => g k n p H) (Q := Q) j hi ha hk
  refine Ev.eq (fun k' n => ?_) h2
  cases ixA P t v (.int k i) <;> rfl
theorem St.flz {α : Type} {f : α → Value} {l : List α} {B B0 H0 H : AH} {L : List (Nat × Blk)} {b cap : Nat} {e : TypeId} {kd : BK} (hS : St H0 B0 B ((b, ⟨l.map f, e, kd⟩) :: L) H) (hc : l.length ≤ cap) : ∃ B', MoC B B' ∧ FL B' (sl b 0 l.length cap) f l ∧ St H0 B0 B' L H := by
  obtain ⟨B', h1, h2, h3⟩ := hS.freeze
  refine ⟨B', ⟨h1⟩, ⟨.inr ⟨b, 0, cap, rfl, hc, by simp, .inr ⟨_, h2, ?_⟩⟩⟩, h3⟩
  unfold rdN
  rw [if_pos (by simp), List.drop_zero, List.take_of_length_le (by simp)]
theorem perm4 {α : Type} (a b c d : α) (x y : List α) : (x ++ (a :: b :: c :: d :: y)).Perm (a :: b :: c :: d :: (x ++ y)) := by
  have h := (List.perm_append_comm (l₁ := x) (l₂ := [a, b, c, d])).append_right y
  simpa [List.append_assoc] using h
theorem min_i64 {a b : Nat} : fold1 minV [i64 a, i64 b] = some (i64 (min a b)) := by
  show some (Value.int .i64 (if (b : Int) < a then (b : Int) else a)) = _
  congr 2
  split <;> omega
end Go.AM
set_option linter.unusedVariables false
set_option linter.unusedSimpArgs false
set_option maxRecDepth 100000
namespace Go.AM.N
open Go Go.AM Go.Proofs
attribute [local irreducible] run bin un ld st box newV mkS fldA fld ixA ix slc slc3 build buildS cv cvS ap cpy lenV gOp pickV b2 aIf aChk evalK resume iterD Option.bind

def kidOf (r : List UInt8) : List Int := if 2 ≤ r.length then [(((r.getD 0 0).toNat * 256 + (r.getD 1 0).toNat : Nat) : Int)] else []
def parse : Nat → List UInt8 → List (List UInt8) × List Int
  | 0, _ => ([], [])
  | _, [] => ([], [])
  | n + 1, a :: r => (r.take a.toNat :: (parse n ((r.drop a.toNat).drop 2)).1, kidOf (r.drop a.toNat) ++ (parse n ((r.drop a.toNat).drop 2)).2)
def parseN (s : List UInt8) : Nd :=
  if s.take 1 = [1] then ⟨true, (parse s.length (s.drop 1)).1, (parse s.length (s.drop 1)).2⟩
  else ⟨false, (parse s.length ((s.drop 1).drop 2)).1, kidOf (s.drop 1) ++ (parse s.length ((s.drop 1).drop 2)).2⟩
def decN (s : List UInt8) : Option Nd := if rightN (parseN s) = true ∧ encN (parseN s) = s then some (parseN s) else none
section
variable {B B0 H0 H : AH}
theorem take_spec {L L' : List (Nat × Blk)} {br k : Nat} {r : List UInt8} (hS : St H0 B0 B L H) (hm : (br, ⟨[str r], 9, .fix⟩) ∈ L) (hu : Upd br ⟨[str r], 9, .fix⟩ ⟨[str (r.drop k)], 9, .fix⟩ L L') :
    Ev (fun K _ => rn K 40 [i64 k, ptr br 0] H) (fun o => o.1 = str (r.take k) ∧ St H0 B0 B L' o.2) := by
  refine Ev.fn (fun K => f40_eq K _ _ H) ?_
  haveI : InL br ⟨[str r], 9, .fix⟩ L := ⟨hm⟩
  have e1 : r.take (min k r.length) = r.take k := by
    by_cases h : k ≤ r.length
    · rw [Nat.min_eq_left h]
    · rw [Nat.min_eq_right (by omega), List.take_length, List.take_of_length_le (by omega)]
  have e2 : r.drop (min k r.length) = r.drop k := by
    by_cases h : k ≤ r.length
    · rw [Nat.min_eq_left h]
    · rw [Nat.min_eq_right (by omega), List.drop_length, List.drop_of_length_le (by omega)]
  haveI : UpL br ⟨[str r], 9, .fix⟩ ⟨[str (r.drop k)], 9, .fix⟩ L L' := ⟨hu⟩
  refine Ev.s ?_
  refine Ev.s ?_
  refine Ev.prim min_i64 ?_
  refine Ev.s ?_
  refine Ev.prim (slc_strT (by omega)) ?_
  rw [e1]
  refine Ev.s ?_
  refine Ev.prim (slc_str _ rfl (by omega)) ?_
  rw [e2]
  refine Ev.stC fun H' hS' => ?_
  exact Ev.ret ⟨rfl, hS'⟩
/-- The blocks of Decode. -/
structure DSt (H0 B0 B : AH) (bn br bt b0 : Nat) (lf : Value) (c0 : List Value) (r : List UInt8) (ks : List (List UInt8)) (cs : List Int) (H : AH) : Prop where
  ex : ∃ kv cv Lk Lc, GR 9 kv (ks.map str) Lk ∧ GR 3 cv (cs.map i64v) Lc ∧ St H0 B0 B ((bn, ⟨[lf, kv, cv], 25, .fix⟩) :: (br, ⟨[str r], 9, .fix⟩) :: (bt, ⟨[.func (.func 40) #[] #[ptr br 0]], 80, .fix⟩) :: (b0, ⟨c0, 25, .fix⟩) :: (Lk ++ Lc)) H
theorem dkid_spec {bn br bt b0 : Nat} {lf : Value} {c0 : List Value} {r : List UInt8} {ks : List (List UInt8)} {cs : List Int} (hS : DSt H0 B0 B bn br bt b0 lf c0 r ks cs H) (hl : cs.length < 1000000000000) :
    Ev (fun k _ => rn k 41 [ptr bt 0, ptr bn 0] H) (fun o => o.1 = .tuple #[] ∧ ∃ B', Mo B B' ∧ DSt H0 B0 B' bn br bt b0 lf c0 (r.drop 2) ks (cs ++ kidOf r) o.2) := by
  refine Ev.fn (fun k => f41_eq k _ _ H) ?_
  obtain ⟨kv, cv, Lk, Lc, hk, hc, hS⟩ := hS
  haveI := hk.cell
  haveI := hc.cell
  repeat (first | refine Ev.s ?_ | refine Ev.newC fun _ _ _ => ?_ | refine Ev.boxC fun _ _ _ => ?_ | refine Ev.stC fun _ _ => ?_ | refine Ev.sc (by omega) ?_ | refine Ev.scg (by omega) ?_)
  refine Ev.b2 (g := fun k _ => callV (rn k) (.func (.func 40) #[] #[ptr br 0]) [i64 2] H) (take_spec hS (.tail _ (.head _)) (.tail _ (.head _))) fun v1 H1 h1 => ?_
  obtain ⟨h1, hS1⟩ := h1
  simp only at h1 hS1
  subst h1
  clear hS
  repeat (first | refine Ev.s ?_ | refine Ev.newC fun _ _ _ => ?_ | refine Ev.boxC fun _ _ _ => ?_ | refine Ev.stC fun _ _ => ?_ | refine Ev.sc (by omega) ?_ | refine Ev.scg (by omega) ?_)
  have e2 : (r.take 2).length = min 2 r.length := List.length_take
  by_cases h2 : 2 ≤ r.length
  · have ek : kidOf r = [(((r.getD 0 0).toNat * 256 + (r.getD 1 0).toNat : Nat) : Int)] := if_pos h2
    have g0 : ((r.take 2).getD 0 0) = r.getD 0 0 := by rw [List.getD_eq_getElem?_getD, List.getElem?_take_of_lt (by omega), List.getD_eq_getElem?_getD]
    have g1 : ((r.take 2).getD 1 0) = r.getD 1 0 := by rw [List.getD_eq_getElem?_getD, List.getElem?_take_of_lt (by omega), List.getD_eq_getElem?_getD]
    have b0' := UInt8.toNat_lt (r.getD 0 0)
    have b1' := UInt8.toNat_lt (r.getD 1 0)
    have hh : (r.getD 0 0).toNat * 256 ||| (r.getD 1 0).toNat = (r.getD 0 0).toNat * 256 + (r.getD 1 0).toNat := by
      rw [show (r.getD 0 0).toNat * 256 = 2 ^ 8 * (r.getD 0 0).toNat by omega, ← Nat.two_pow_add_eq_or_of_lt (by omega)]
    rw [decide_eq_true (by omega)]
    repeat (first | refine Ev.s ?_ | refine Ev.newC fun _ _ _ => ?_ | refine Ev.boxC fun _ _ _ => ?_ | refine Ev.stC fun _ _ => ?_ | refine Ev.sc (by omega) ?_ | refine Ev.scg (by omega) ?_)
    refine Ev.prim (ix_str 0 rfl (by omega)) ?_
    rw [g0]
    refine Ev.prim (toI64 (by omega) (Und.eq (P := Try.prog) (t := 5)) (Und.eq (P := Try.prog) (t := 3))) ?_
    refine Ev.prim (shl8I (by omega)) ?_
    refine Ev.prim (ix_str 1 rfl (by omega)) ?_
    rw [g1]
    refine Ev.prim (toI64 (by omega) (Und.eq (P := Try.prog) (t := 5)) (Und.eq (P := Try.prog) (t := 3))) ?_
    refine Ev.prim (orI ⟨by omega, by omega⟩) ?_
    rw [hh]
    rw [ek]
    generalize (r.getD 0 0).toNat * 256 + (r.getD 1 0).toNat = q at *
    have hP := hS1.perm (L' := Lc ++ ((bn, ⟨[lf, kv, cv], 25, .fix⟩) :: (br, ⟨[str (r.drop 2)], 9, .fix⟩) :: (bt, ⟨[.func (.func 40) #[] #[ptr br 0]], 80, .fix⟩) :: (b0, ⟨c0, 25, .fix⟩) :: Lk)) (by
      rw [← List.cons_append, ← List.cons_append, ← List.cons_append, ← List.cons_append]
      exact List.perm_append_comm)
    have hG := hc.acc hP
    clear hS1
    refine hG.push (P := Try.prog) (t := 23) (x := i64 q) (ds := [i64 q]) rfl rfl rfl rfl (by decide) (by rw [List.length_map]; omega) fun v' B' H' hm hA => ?_
    have hm' : cs.map i64v ++ [i64 q] = (cs ++ [(q : Int)]).map i64v := by rw [List.map_append]; rfl
    rw [hm'] at hA
    obtain ⟨Lc', hc', hS2⟩ := hA.gr
    haveI := hc'.cell
    have hS3 := hS2.perm (L' := (bn, ⟨[lf, kv, cv], 25, .fix⟩) :: (br, ⟨[str (r.drop 2)], 9, .fix⟩) :: (bt, ⟨[.func (.func 40) #[] #[ptr br 0]], 80, .fix⟩) :: (b0, ⟨c0, 25, .fix⟩) :: (Lk ++ Lc')) (by
      rw [← List.cons_append, ← List.cons_append, ← List.cons_append, ← List.cons_append]
      exact List.perm_append_comm)
    clear hS2
    repeat (first | refine Ev.s ?_ | refine Ev.newC fun _ _ _ => ?_ | refine Ev.boxC fun _ _ _ => ?_ | refine Ev.stC fun _ _ => ?_ | refine Ev.sc (by omega) ?_ | refine Ev.scg (by omega) ?_)
    exact Ev.ret ⟨rfl, B', hm.mo, ⟨kv, v', Lk, Lc', hk, hc', by assumption⟩⟩
  · have ek : kidOf r = [] := if_neg h2
    rw [decide_eq_false (by omega)]
    repeat (first | refine Ev.s ?_ | refine Ev.newC fun _ _ _ => ?_ | refine Ev.boxC fun _ _ _ => ?_ | refine Ev.stC fun _ _ => ?_ | refine Ev.sc (by omega) ?_ | refine Ev.scg (by omega) ?_)
    rw [ek, List.append_nil]
    exact Ev.ret ⟨rfl, B, Mo.refl B, ⟨kv, cv, Lk, Lc, hk, hc, hS1⟩⟩
end
end Go.AM.N
set_option linter.unusedVariables false
set_option linter.unusedSimpArgs false
set_option maxRecDepth 100000
namespace Go.AM.N
open Go Go.AM Go.Proofs
attribute [local irreducible] run bin un ld st box newV mkS fldA fld ixA ix slc slc3 build buildS cv cvS ap cpy lenV gOp pickV b2 aIf aChk evalK resume iterD Option.bind

theorem parse_nil (n : Nat) : parse n [] = ([], []) := by cases n <;> rfl
theorem kidOf_len (r : List UInt8) : (kidOf r).length ≤ 1 := by unfold kidOf; split <;> simp
theorem kidOf_len2 (r : List UInt8) : (kidOf r).length + (r.drop 2).length ≤ r.length := by
  unfold kidOf
  split
  · simp only [List.length_cons, List.length_nil, List.length_drop]; omega
  · simp only [List.length_nil, List.length_drop]; omega
section
variable {B B0 H0 H : AH}
theorem dec_loop {bn br bt b0 : Nat} {lf s0 s2 : Value} {c0 : List Value} :
    ∀ (N : Nat) (r : List UInt8) (ks : List (List UInt8)) (cs : List Int) (B H : AH), r.length ≤ N → ks.length + r.length < 1000000000000 → cs.length + r.length < 1000000000000 → DSt H0 B0 B bn br bt b0 lf c0 r ks cs H →
    Ev (fun k n => f15_L0 k s0 s2 (ptr bn 0) (ptr br 0) (ptr bt 0) (.func (.func 41) #[] #[ptr bt 0, ptr bn 0]) n H)
      (fun o => ∃ B' H', o = (.exit 0, f15_X_L0 s0 s2 (ptr bn 0), H') ∧ Mo B B' ∧ DSt H0 B0 B' bn br bt b0 lf c0 [] (ks ++ (parse N r).1) (cs ++ (parse N r).2) H') := by
  intro N
  induction N with
  | zero =>
    intro r ks cs B H hr hk1 hc1 hS
    have : r = [] := List.length_eq_zero_iff.mp (by omega)
    subst this
    refine Ev.succ (fun k n => f15_L0_succ k _ _ _ _ _ _ n H) ?_
    have hS' := hS
    obtain ⟨kv, cv, Lk, Lc, hk, hc, hSt⟩ := hS
    haveI := hk.cell
    haveI := hc.cell
    refine Ev.s ?_
    refine Ev.prim (neq_str (b := [])) ?_
    rw [decide_eq_false (by simp)]
    repeat (first | refine Ev.s ?_ | refine Ev.newC fun _ _ _ => ?_ | refine Ev.boxC fun _ _ _ => ?_ | refine Ev.stC fun _ _ => ?_ | refine Ev.sc (by omega) ?_ | refine Ev.scg (by omega) ?_)
    rw [parse, List.append_nil, List.append_nil]
    exact Ev.ret ⟨B, H, rfl, Mo.refl B, hS'⟩
  | succ N ih =>
    intro r ks cs B H hr hk1 hc1 hS
    refine Ev.succ (fun k n => f15_L0_succ k _ _ _ _ _ _ n H) ?_
    have hS' := hS
    obtain ⟨kv, cv, Lk, Lc, hk, hc, hSt⟩ := hS
    haveI := hk.cell
    haveI := hc.cell
    refine Ev.s ?_
    refine Ev.prim (neq_str (b := [])) ?_
    cases r with
    | nil =>
      rw [decide_eq_false (by simp)]
      repeat (first | refine Ev.s ?_ | refine Ev.newC fun _ _ _ => ?_ | refine Ev.boxC fun _ _ _ => ?_ | refine Ev.stC fun _ _ => ?_ | refine Ev.sc (by omega) ?_ | refine Ev.scg (by omega) ?_)
      rw [parse_nil, List.append_nil, List.append_nil]
      exact Ev.ret ⟨B, H, rfl, Mo.refl B, hS'⟩
    | cons a r =>
      rw [decide_eq_true (by simp)]
      rw [List.length_cons] at hr hk1 hc1
      have b0' := UInt8.toNat_lt a
      repeat (first | refine Ev.s ?_ | refine Ev.newC fun _ _ _ => ?_ | refine Ev.boxC fun _ _ _ => ?_ | refine Ev.stC fun _ _ => ?_ | refine Ev.sc (by omega) ?_ | refine Ev.scg (by omega) ?_)
      refine Ev.b2 (g := fun k _ => callV (rn k) (.func (.func 40) #[] #[ptr br 0]) [i64 1] H) (take_spec hSt (.tail _ (.head _)) (.tail _ (.head _))) fun v1 H1 h1 => ?_
      obtain ⟨h1, hS1⟩ := h1
      simp only [List.take_succ_cons, List.take_zero, List.drop_succ_cons, List.drop_zero] at h1 hS1
      subst h1
      clear hSt
      repeat (first | refine Ev.s ?_ | refine Ev.newC fun _ _ _ => ?_ | refine Ev.boxC fun _ _ _ => ?_ | refine Ev.stC fun _ _ => ?_ | refine Ev.sc (by omega) ?_ | refine Ev.scg (by omega) ?_)
      refine Ev.prim (ix_str 0 rfl (by simp)) ?_
      rw [show ([a] : List UInt8).getD 0 0 = a from rfl]
      refine Ev.prim (toI64 (by omega) (Und.eq (P := Try.prog) (t := 5)) (Und.eq (P := Try.prog) (t := 3))) ?_
      refine Ev.b2 (g := fun k _ => callV (rn k) (.func (.func 40) #[] #[ptr br 0]) [i64 a.toNat] H1) (take_spec (k := a.toNat) hS1 (.tail _ (.head _)) (.tail _ (.head _))) fun v2 H2 h2 => ?_
      obtain ⟨h2, hS2⟩ := h2
      simp only at h2 hS2
      subst h2
      clear hS1
      repeat (first | refine Ev.s ?_ | refine Ev.newC fun _ _ _ => ?_ | refine Ev.boxC fun _ _ _ => ?_ | refine Ev.stC fun _ _ => ?_ | refine Ev.sc (by omega) ?_ | refine Ev.scg (by omega) ?_)
      have hP := hS2.perm (L' := Lk ++ ((bn, ⟨[lf, kv, cv], 25, .fix⟩) :: (br, ⟨[str (r.drop a.toNat)], 9, .fix⟩) :: (bt, ⟨[.func (.func 40) #[] #[ptr br 0]], 80, .fix⟩) :: (b0, ⟨c0, 25, .fix⟩) :: Lc)) (perm4 _ _ _ _ _ _)
      have hG := hk.acc hP
      clear hS2
      refine hG.push (P := Try.prog) (t := 22) (x := str (r.take a.toNat)) (ds := [str (r.take a.toNat)]) rfl rfl rfl rfl (by decide) (by rw [List.length_map]; omega) fun v' B' H' hm hA => ?_
      have hm' : ks.map str ++ [str (r.take a.toNat)] = (ks ++ [r.take a.toNat]).map str := by rw [List.map_append]; rfl
      rw [hm'] at hA
      obtain ⟨Lk', hk', hS2⟩ := hA.gr
      haveI := hk'.cell
      have hS3 := hS2.perm (L' := (bn, ⟨[lf, kv, cv], 25, .fix⟩) :: (br, ⟨[str (r.drop a.toNat)], 9, .fix⟩) :: (bt, ⟨[.func (.func 40) #[] #[ptr br 0]], 80, .fix⟩) :: (b0, ⟨c0, 25, .fix⟩) :: (Lk' ++ Lc)) (perm4 _ _ _ _ _ _).symm
      clear hS2
      repeat (first | refine Ev.s ?_ | refine Ev.newC fun _ _ _ => ?_ | refine Ev.boxC fun _ _ _ => ?_ | refine Ev.stC fun _ _ => ?_ | refine Ev.sc (by omega) ?_ | refine Ev.scg (by omega) ?_)
      have hD : DSt H0 B0 B' bn br bt b0 lf c0 (r.drop a.toNat) (ks ++ [r.take a.toNat]) cs _ := ⟨v', cv, Lk', Lc, hk', hc, by assumption⟩
      have hdl : (r.drop a.toNat).length ≤ r.length := by rw [List.length_drop]; omega
      have hdl2 : ((r.drop a.toNat).drop 2).length ≤ r.length := by rw [List.length_drop, List.length_drop]; omega
      refine Ev.b2 (g := fun k _ => callV (rn k) (.func (.func 41) #[] #[ptr bt 0, ptr bn 0]) [] _) (dkid_spec hD (by omega)) fun v3 H3 h3 => ?_
      obtain ⟨h3, B3, hm3, hD3⟩ := h3
      simp only at h3 hD3
      subst h3
      have hkl := kidOf_len (r.drop a.toNat)
      have hkl2 := kidOf_len2 (r.drop a.toNat)
      refine (ih ((r.drop a.toNat).drop 2) _ _ B3 H3 (by omega) (by rw [List.length_append, List.length_cons, List.length_nil]; omega) (by rw [List.length_append]; omega) hD3).mono ?_
      rintro o ⟨B4, H4, q1, q2, q3⟩
      refine ⟨B4, H4, q1, (hm.mo.trans hm3).trans q2, ?_⟩
      rw [List.append_assoc, List.append_assoc] at q3
      exact q3
theorem parse_len : ∀ (n : Nat) (r : List UInt8), (parse n r).1.length ≤ r.length ∧ (parse n r).2.length ≤ r.length
  | 0, _ => by simp [parse]
  | n + 1, [] => by simp [parse]
  | n + 1, a :: r => by
    have h := parse_len n ((r.drop a.toNat).drop 2)
    have hk := kidOf_len2 (r.drop a.toNat)
    have e : (r.drop a.toNat).length ≤ r.length := by rw [List.length_drop]; omega
    have e2 : ((r.drop a.toNat).drop 2).length ≤ (r.drop a.toNat).length := by rw [List.length_drop]; omega
    simp only [parse, List.length_cons, List.length_append]
    omega
end
end Go.AM.N
set_option linter.unusedVariables false
set_option linter.unusedSimpArgs false
set_option maxRecDepth 100000
namespace Go.AM.N
open Go Go.AM Go.Proofs
attribute [local irreducible] run bin un ld st box newV mkS fldA fld ixA ix slc slc3 build buildS cv cvS ap cpy lenV gOp pickV b2 aIf aChk evalK resume iterD Option.bind

theorem sumK_parse : ∀ (n : Nat) (r : List UInt8), sumK (parse n r).1 ≤ r.length
  | 0, _ => by simp [parse, sumK]
  | n + 1, [] => by simp [parse, sumK]
  | n + 1, a :: r => by
    have h := sumK_parse n ((r.drop a.toNat).drop 2)
    have e : (r.drop a.toNat).length + (r.take a.toNat).length = r.length := by rw [List.length_drop, List.length_take]; omega
    have e2 : ((r.drop a.toNat).drop 2).length ≤ (r.drop a.toNat).length := by rw [List.length_drop]; omega
    simp only [parse, sumK, List.length_cons]
    omega
def DecV (B : AH) (v : Value) : Option Nd → Prop
  | none => v = .tuple #[NdA false (.slice none 0 0) (.slice none 0 0), .int .i64 2]
  | some n => ∃ kv cv, v = .tuple #[NdA n.leaf kv cv, .int .i64 0] ∧ FL B kv str n.keys ∧ FL B cv i64v n.kids
section
variable {B B0 H0 H : AH}
theorem dec_tail {bn br bt b0 : Nat} {lf : Bool} {s : List UInt8} {ks : List (List UInt8)} {cs : List Int} (hS : DSt H0 B0 B bn br bt b0 (.bool lf) [.bool false, .slice none 0 0, .slice none 0 0] [] ks cs H) (hl : sizeN ⟨lf, ks, cs⟩ < 4611686018427387904) :
    Ev (fun k _ => f15_A0 k (.exit 0) (f15_X_L0 (str s) (ptr b0 0) (ptr bn 0)) H) (An B0 H0 fun B' v => DecV B' v (if rightN ⟨lf, ks, cs⟩ = true ∧ encN ⟨lf, ks, cs⟩ = s then some ⟨lf, ks, cs⟩ else none)) := by
  refine Ev.eq (fun k _ => f15_A0_x0 k _ _ _ _) ?_
  obtain ⟨kv, cv, Lk, Lc, hk, hc, hSt⟩ := hS
  have hP := hSt.perm (perm4 _ _ _ _ Lk Lc)
  obtain ⟨B1, hm1, hk1, hS1⟩ := (hk.acc hP).fl
  have hP2 := hS1.perm (L' := Lc ++ [(bn, ⟨[.bool lf, kv, cv], 25, .fix⟩), (br, ⟨[str []], 9, .fix⟩), (bt, ⟨[.func (.func 40) #[] #[ptr br 0]], 80, .fix⟩), (b0, ⟨[.bool false, .slice none 0 0, .slice none 0 0], 25, .fix⟩)]) (by
    have := perm4 (bn, (⟨[.bool lf, kv, cv], 25, .fix⟩ : Blk)) (br, ⟨[str []], 9, .fix⟩) (bt, ⟨[.func (.func 40) #[] #[ptr br 0]], 80, .fix⟩) (b0, ⟨[.bool false, .slice none 0 0, .slice none 0 0], 25, .fix⟩) Lc []
    rwa [List.append_nil] at this)
  obtain ⟨B2, hm2, hc2, hS2⟩ := (hc.acc hP2).fl
  have hk2 := hk1.mono hm2.mo
  clear hk hc hSt hP hP2 hS1 hk1
  repeat (first | refine Ev.s ?_ | refine Ev.newC fun _ _ _ => ?_ | refine Ev.boxC fun _ _ _ => ?_ | refine Ev.stC fun _ _ => ?_ | refine Ev.sc (by omega) ?_ | refine Ev.scg (by omega) ?_)
  refine Ev.callD (Encode_spec (ks := ks) (cs := cs) hl) fun v1 B3 H3 hm3 hS3 h3 => ?_
  have hk3 := hk2.mono hm3.mo
  have hc3 := hc2.mono hm3.mo
  clear hk2 hc2
  cases hr : rightN ⟨lf, ks, cs⟩ with
  | false =>
    rw [hr, if_neg (by simp)] at h3
    subst h3
    rw [if_neg (by simp)]
    repeat (first | refine Ev.s ?_ | refine Ev.newC fun _ _ _ => ?_ | refine Ev.boxC fun _ _ _ => ?_ | refine Ev.stC fun _ _ => ?_ | refine Ev.sc (by omega) ?_ | refine Ev.scg (by omega) ?_)
    rw [show decide ((1 : Int) ≠ 0) = true from rfl]
    repeat (first | refine Ev.s ?_ | refine Ev.newC fun _ _ _ => ?_ | refine Ev.boxC fun _ _ _ => ?_ | refine Ev.stC fun _ _ => ?_ | refine Ev.sc (by omega) ?_ | refine Ev.scg (by omega) ?_)
    exact Ev.doneC rfl
  | true =>
    rw [hr, if_pos rfl] at h3
    subst h3
    repeat (first | refine Ev.s ?_ | refine Ev.newC fun _ _ _ => ?_ | refine Ev.boxC fun _ _ _ => ?_ | refine Ev.stC fun _ _ => ?_ | refine Ev.sc (by omega) ?_ | refine Ev.scg (by omega) ?_)
    by_cases he : encN ⟨lf, ks, cs⟩ = s
    · rw [if_pos ⟨rfl, he⟩, decide_eq_false (fun h => h he)]
      repeat (first | refine Ev.s ?_ | refine Ev.newC fun _ _ _ => ?_ | refine Ev.boxC fun _ _ _ => ?_ | refine Ev.stC fun _ _ => ?_ | refine Ev.sc (by omega) ?_ | refine Ev.scg (by omega) ?_)
      exact Ev.doneC ⟨kv, cv, rfl, hk3, hc3⟩
    · rw [if_neg (fun h => he h.2), decide_eq_true he]
      repeat (first | refine Ev.s ?_ | refine Ev.newC fun _ _ _ => ?_ | refine Ev.boxC fun _ _ _ => ?_ | refine Ev.stC fun _ _ => ?_ | refine Ev.sc (by omega) ?_ | refine Ev.scg (by omega) ?_)
      exact Ev.doneC rfl
theorem Decode_spec {s : List UInt8} (hl : s.length < 100000000000) (hL : Le B H) : Ev (fun k _ => rn k 15 [str s] H) (An B H fun B' v => DecV B' v (decN s)) := by
  refine Ev.fn (fun k => f15_eq k _ H) ?_
  have hS := St.start hL
  refine Ev.newC fun b0 H1 hS1 => ?_
  clear hS
  refine Ev.newC fun bn H2 hS2 => ?_
  clear hS1
  refine Ev.newC fun br H3 hS3 => ?_
  clear hS2
  refine Ev.stC fun H4 hS4 => ?_
  clear hS3
  refine Ev.newC fun bt H5 hS5 => ?_
  clear hS4
  refine Ev.stC fun H6 hS6 => ?_
  clear hS5
  refine Ev.s ?_
  refine Ev.b2 (g := fun k _ => callV (rn k) (.func (.func 40) #[] #[ptr br 0]) [i64 1] H6) (take_spec hS6 (.tail _ (.head _)) (.tail _ (.head _))) fun v1 H7 h1 => ?_
  obtain ⟨h1, hS7⟩ := h1
  simp only at h1 hS7
  subst h1
  clear hS6
  refine Ev.prim (eql_str (b := [1])) ?_
  unfold decN parseN
  have hd1 : (s.drop 1).length ≤ s.length := by rw [List.length_drop]; omega
  have hd2 : ((s.drop 1).drop 2).length ≤ s.length := by rw [List.length_drop, List.length_drop]; omega
  have hkl := kidOf_len (s.drop 1)
  by_cases h1 : s.take 1 = [1]
  · rw [decide_eq_true h1, if_pos h1]
    repeat (first | refine Ev.s ?_ | refine Ev.newC fun _ _ _ => ?_ | refine Ev.boxC fun _ _ _ => ?_ | refine Ev.stC fun _ _ => ?_ | refine Ev.sc (by omega) ?_ | refine Ev.scg (by omega) ?_)
    refine Ev.eq (fun k _ => f15_J0_eq k _ _ _ _ _ _ _) ?_
    rename_i H8 hS8
    have hD : DSt H B B bn br bt b0 (.bool true) [.bool false, .slice none 0 0, .slice none 0 0] (s.drop 1) [] [] H8 := ⟨_, _, [], [], GR.nil, GR.nil, hS8.perm (by
      simp only [List.append_nil]
      exact (List.Perm.swap _ _ _).trans (((List.Perm.swap _ _ _).cons _).trans (List.Perm.swap _ _ _))  )⟩
    refine Ev.bind (Ev.loop (dec_loop s.length (s.drop 1) [] [] B H8 hd1 (by simp; omega) (by simp; omega) hD)) ?_
    rintro _ ⟨B9, H9, rfl, hm9, hD9⟩
    have hs9 := sumK_parse s.length (s.drop 1)
    have hp9 := parse_len s.length (s.drop 1)
    exact dec_tail (s := s) hD9 (by unfold sizeN; simp only [List.nil_append]; omega)
  · rw [decide_eq_false h1, if_neg h1]
    repeat (first | refine Ev.s ?_ | refine Ev.newC fun _ _ _ => ?_ | refine Ev.boxC fun _ _ _ => ?_ | refine Ev.stC fun _ _ => ?_ | refine Ev.sc (by omega) ?_ | refine Ev.scg (by omega) ?_)
    rename_i H8 hS8
    have hD : DSt H B B bn br bt b0 (.bool false) [.bool false, .slice none 0 0, .slice none 0 0] (s.drop 1) [] [] H8 := ⟨_, _, [], [], GR.nil, GR.nil, hS8.perm (by
      simp only [List.append_nil]
      exact (List.Perm.swap _ _ _).trans (((List.Perm.swap _ _ _).cons _).trans (List.Perm.swap _ _ _)))⟩
    refine Ev.b2 (dkid_spec hD (by simp)) fun v3 H9 h9 => ?_
    obtain ⟨_, B9, hm9, hD9⟩ := h9
    simp only [List.nil_append] at hD9
    refine Ev.eq (fun k _ => f15_J0_eq k _ _ _ _ _ _ _) ?_
    refine Ev.bind (Ev.loop (dec_loop s.length ((s.drop 1).drop 2) [] (kidOf (s.drop 1)) B9 H9 hd2 (by simp; omega) (by omega) hD9)) ?_
    rintro _ ⟨B10, H10, rfl, hm10, hD10⟩
    have hs9 := sumK_parse s.length ((s.drop 1).drop 2)
    have hp9 := parse_len s.length ((s.drop 1).drop 2)
    exact dec_tail (s := s) hD10 (by unfold sizeN; simp only [List.nil_append, List.length_append]; omega)
end
end Go.AM.N
