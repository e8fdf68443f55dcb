/-
  Facts of the abstract evaluator and of the functions that the law reaches, part 3. Conditions: none.
-/
import Derived.Test.YtmoonbjbllkdoaaGreatDoorG2CatSaves
set_option linter.unusedVariables false
set_option linter.unusedSimpArgs false
set_option linter.unnecessarySimpa false
set_option exponentiation.threshold 200000
set_option maxRecDepth 100000
namespace Go.AM.E
open Go Go.AM Go.Proofs
noncomputable section
@[irreducible] def long0 : ByteArray := ⟨#[32, 32, 32, 32, 32, 32, 32, 32, 32, 32, 32, 32, 32, 32, 32, 32, 32, 32, 32, 32, 32, 32, 32, 32, 32, 32, 32, 32, 32, 32, 32, 32, 32, 32, 32, 32, 32, 32, 32, 32, 32, 32, 32, 32, 32, 32, 32, 32, 32, 32, 32, 32, 32, 32, 32, 32, 32, 32, 32, 32, 32, 32, 32, 32, 32, 32, 32, 32, 32, 32, 32, 32, 32, 32, 32, 32, 32, 32, 32, 32, 32, 32, 32, 32, 32, 32, 32, 32, 32, 32, 32, 32, 32, 32, 32, 32, 32, 32, 32, 32, 32, 32, 32, 32, 32, 32, 32, 32, 32, 32, 32, 32, 32, 32, 32, 32, 32, 32, 32, 32, 32, 32, 32, 32, 32, 32, 32, 32]⟩
@[irreducible] def long1 : ByteArray := ⟨#[45, 45, 45, 45, 45, 45, 45, 45, 45, 45, 45, 45, 45, 45, 45, 45, 45, 45, 45, 45, 45, 45, 45, 45, 45, 45, 45, 45, 45, 45, 45, 45, 45, 45, 45, 45, 45, 45, 45, 45, 45, 45, 45, 45, 45, 45, 45, 45, 45, 45, 45, 45, 45, 45, 45, 45, 45, 45, 45, 45, 45, 45, 45, 45, 45, 45, 45, 45, 45, 45, 45, 45, 45, 45, 45, 45, 45, 45, 45, 45, 45, 45, 45, 45, 45, 45, 45, 45, 45, 45, 45, 45, 45, 45, 45, 45, 45, 45, 45, 45, 45, 45, 45, 45, 45, 45, 45, 45, 45, 45, 45, 45, 45, 45, 45, 45, 45, 45, 45, 45, 45, 45, 45, 45, 45, 45, 45, 45]⟩
@[irreducible] def long2 : ByteArray := ⟨#[48, 48, 48, 48, 48, 48, 48, 48, 48, 48, 48, 48, 48, 48, 48, 48, 48, 48, 48, 48, 48, 48, 48, 48, 48, 48, 48, 48, 48, 48, 48, 48, 48, 48, 48, 48, 48, 48, 48, 48, 48, 48, 48, 48, 48, 48, 48, 48, 48, 48, 48, 48, 48, 48, 48, 48, 48, 48, 48, 48, 48, 48, 48, 48]⟩
@[irreducible] def long3 : ByteArray := ⟨#[61, 61, 61, 61, 61, 61, 61, 61, 61, 61, 61, 61, 61, 61, 61, 61, 61, 61, 61, 61, 61, 61, 61, 61, 61, 61, 61, 61, 61, 61, 61, 61, 61, 61, 61, 61, 61, 61, 61, 61, 61, 61, 61, 61, 61, 61, 61, 61, 61, 61, 61, 61, 61, 61, 61, 61, 61, 61, 61, 61, 61, 61, 61, 61, 61, 61, 61, 61, 61, 61, 61, 61, 61, 61, 61, 61, 61, 61, 61, 61, 61, 61, 61, 61, 61, 61, 61, 61, 61, 61, 61, 61, 61, 61, 61, 61, 61, 61, 61, 61, 61, 61, 61, 61, 61, 61, 61, 61, 61, 61, 61, 61, 61, 61, 61, 61, 61, 61, 61, 61, 61, 61, 61, 61, 61, 61, 61, 61]⟩
def tbs : FuncId → Tbl
  | 3 => [(18, [0, 2, 3, 4, 6, 11])]
  | 12 => [(10, [1, 2, 3, 4]), (11, [2, 3])]
  | 14 => [(28, [0, 1, 5, 32, 33, 34]), (29, [0, 1, 5])]
  | 15 => [(22, [0, 1, 5, 6]), (23, [0, 1, 5])]
  | 16 => [(13, [0, 10, 11]), (14, [2, 3])]
  | 17 => [(13, [0, 4]), (14, [2, 3])]
  | 20 => [(13, [0, 1, 5]), (14, [4])]
  | 21 => [(16, [4, 14, 15, 16]), (17, [4])]
  | 24 => [(16, [2, 4, 5]), (17, [2, 4])]
  | 27 => [(27, [0, 4, 5])]
  | 30 => [(2, [30]), (13, [4, 5, 6]), (14, [4, 5, 6])]
  | 32 => [(16, [0, 2, 4, 5]), (17, [2, 4])]
  | 33 => [(13, [2, 3, 5]), (14, [4])]
  | 35 => [(19, [1, 5, 6]), (20, [5])]
  | 36 => [(19, [0, 1, 6, 7, 8]), (20, [0, 1, 4, 5, 6, 7]), (43, [0, 1, 6, 7, 11]), (44, [4, 5, 7]), (57, [0, 1, 6, 7, 11, 12])]
  | 38 => [(10, [2, 3, 26, 27, 28]), (11, [2, 3, 4])]
  | 43 => [(7, [0, 1, 5]), (8, [4])]
  | 46 => [(9, [1])]
  | 51 => [(2, [51]), (22, [3, 4, 5]), (23, [0, 3, 4, 5])]
  | 52 => [(22, [0, 1, 6, 7]), (23, [6])]
  | 53 => [(16, [1, 3, 21, 22, 23]), (17, [2])]
  | 54 => [(10, [0, 3, 4]), (11, [3]), (19, [0, 3, 4, 5]), (20, [0, 3, 4])]
  | 57 => [(7, [0, 1, 7, 8]), (8, [4])]
  | 59 => [(10, [0, 3, 6, 7]), (11, [3])]
  | 61 => [(16, [0, 3, 4]), (17, [3])]
  | 66 => [(10, [0, 1, 2, 7, 8]), (11, [1, 2, 7]), (28, [2, 7, 9]), (29, [7])]
  | 67 => [(19, [0, 3]), (20, [0])]
  | 71 => [(13, [0, 7, 8, 9]), (14, [4, 5, 6])]
  | 73 => [(13, [1, 3]), (14, [2])]
  | 75 => [(10, [0, 1, 6, 16, 17]), (11, [0, 1, 4, 5, 6]), (31, [0, 1, 6, 32, 33, 34]), (32, [4, 5, 6]), (45, [0, 1, 6, 10, 11, 32, 33, 34])]
  | 81 => [(7, [0, 1, 7, 8]), (8, [4])]
  | 87 => [(10, [1, 3, 7]), (11, [1, 3])]
  | 89 => [(4, [0, 6, 7, 8]), (5, [0])]
  | 92 => [(7, [0, 2, 4, 5]), (8, [])]
  | 96 => [(7, [0, 1, 5]), (8, [4])]
  | 100 => [(10, [3, 6, 7, 8]), (11, [3])]
  | 101 => [(24, [0, 1]), (33, [0, 6]), (90, [0, 7]), (105, [0, 7, 8]), (115, [7, 8, 9]), (116, [9])]
  | 104 => [(10, [0, 3, 4]), (11, [3]), (22, [0, 3, 4, 5]), (23, [0, 3, 4])]
  | 105 => [(4, [0, 1, 3]), (5, [])]
  | 106 => [(16, [0, 1, 7, 17]), (17, [4, 5, 6, 7])]
  | 114 => [(10, [0, 3, 6, 7]), (11, [3]), (22, [0, 3, 6, 7, 16]), (23, [0, 3, 6, 7])]
  | 123 => [(4, [0, 1]), (5, [0])]
  | 124 => [(4, [0, 1]), (5, [0])]
  | 125 => [(7, [0, 2, 4]), (8, [2, 3])]
  | 126 => [(4, [0, 1]), (5, [0])]
  | 127 => [(4, [0, 1]), (5, [0])]
  | 128 => [(4, [0, 1]), (5, [0])]
  | 129 => [(4, [0, 1]), (5, [0]), (15, [0, 1, 5, 6])]
  | 133 => [(31, [0, 4, 5, 6]), (32, [0, 4, 5]), (45, [0, 4, 5])]
  | 135 => [(16, [0, 7, 8, 9]), (17, [4]), (33, [0, 7, 8, 9]), (37, [0, 7, 8, 9, 12]), (38, [8, 9])]
  | _ => []
noncomputable def gv : Given := fun f => if f = 94 then some (plain (gCopy Tryz.prog [129])) else if f = 112 then some (plain (gGrow Tryz.prog [129] 5)) else if f = 87 then some (fun call n => runMid Tryz.prog call n (tbs 87) mText Tryz.f87) else if f = 14 then some (fun call n => runMid Tryz.prog call n (tbs 14) mCommit Tryz.f14) else none
noncomputable abbrev rn (k : Nat) : CallF := run Tryz.prog tbs gv k
theorem ranges : rangesB Tryz.prog tbs = true := by kernel_rfl
abbrev f3_T_J0 (s0 s2 s3 s4 s6 s11 : Value) : List Value := [s0, unk, s2, s3, s4, unk, s6, unk, unk, unk, unk, s11] ++ List.replicate 279 unk
@[irreducible] def f3_J0 (k : Nat) (s0 s2 s3 s4 s6 s11 : Value) (H : AH) : Option (Value × AH) := resume Tryz.prog (rn k) k (tbs 3) (bodyOf Tryz.f3) [1, 1, 1, 0] .normal (f3_T_J0 s0 s2 s3 s4 s6 s11) H (resK Tryz.prog Tryz.f3.results.toList)
theorem f3_J0_eq (k : Nat) (s0 s2 s3 s4 s6 s11 : Value) (H : AH) : f3_J0 k s0 s2 s3 s4 s6 s11 H =
(ld Tryz.prog 24 H s6).bind fun v7 =>
b2 (rn k 5 [v7] H) fun v8 h8 =>
(st Tryz.prog 24 h8 s6 v8).bind fun h9 =>
(bin Tryz.prog .rem 3 s0 (.int .i64 33)).bind fun v10 =>
(bin Tryz.prog .add 3 (.int .i64 8) v10).bind fun v11 =>
b2 (rn k 6 [v11] h9) fun v12 h12 =>
(ext v12 0).bind fun v13 =>
(ext v12 1).bind fun v14 =>
(bin Tryz.prog .eql 27 v13 (.pointer none)).bind fun v15 =>
b2 (gOp v15 false (some (v13, h12)) h12) fun v16 h16 =>
b2 (gOp v15 false ((nilChk v16).bind fun v => some (v, h16)) h16) fun v17 h17 =>
b2 (gOp v15 false ((fldA Tryz.prog 35 v17 2).bind fun v => some (v, h17)) h17) fun v18 h18 =>
b2 (gOp v15 false ((ld Tryz.prog 32 h18 v18).bind fun v => some (v, h18)) h18) fun v19 h19 =>
b2 (gOp v15 false ((bin Tryz.prog .eql 32 v19 (.pointer none)).bind fun v => some (v, h19)) h19) fun v20 h20 =>
(pickV v15 (.bool true) v20).bind fun v21 =>
b2 (gOp v21 false (some (v14, h20)) h20) fun v22 h22 =>
b2 (gOp v21 false ((un Tryz.prog .not v22).bind fun v => some (v, h22)) h22) fun v23 h23 =>
(pickV v21 (.bool true) v23).bind fun v24 =>
aIf v24
 (some ((.bool false), h23))
 ((nilChk v13).bind fun v25 =>
 (fldA Tryz.prog 35 v25 2).bind fun v26 =>
 (ld Tryz.prog 32 h23 v26).bind fun v27 =>
 b2 (rn k 7 [v27] h23) fun v28 h28 =>
 (ext v28 0).bind fun v29 =>
 (ext v28 1).bind fun v30 =>
 b2 (newV Tryz.prog 24 h28) fun v31 h31 =>
 (st Tryz.prog 24 h31 v31 v29).bind fun h32 =>
 (nilChk v13).bind fun v33 =>
 (fldA Tryz.prog 35 v33 3).bind fun v34 =>
 (ld Tryz.prog 33 h32 v34).bind fun v35 =>
 b2 (rn k 8 [v35] h32) fun v36 h36 =>
 (ext v36 0).bind fun v37 =>
 (ext v36 1).bind fun v38 =>
 b2 (newV Tryz.prog 41 h36) fun v39 h39 =>
 (st Tryz.prog 41 h39 v39 v37).bind fun h40 =>
 (ld Tryz.prog 24 h40 v31).bind fun v41 =>
 (ld Tryz.prog 41 h40 v39).bind fun v42 =>
 b2 (rn k 9 [v41, v42] h40) fun v43 h43 =>
 (nilChk v13).bind fun v44 =>
 (fldA Tryz.prog 35 v44 2).bind fun v45 =>
 (ld Tryz.prog 32 h43 v45).bind fun v46 =>
 (ld Tryz.prog 24 h43 s6).bind fun v47 =>
 b2 (rn k 10 [v46, v47] h43) fun v48 h48 =>
 (ext v48 0).bind fun v49 =>
 (ext v48 1).bind fun v50 =>
 (nilChk v13).bind fun v51 =>
 (fldA Tryz.prog 35 v51 3).bind fun v52 =>
 (ld Tryz.prog 33 h48 v52).bind fun v53 =>
 (ld Tryz.prog 24 h48 s6).bind fun v54 =>
 b2 (rn k 12 [v54] h48) fun v55 h55 =>
 aChk (ld Tryz.prog 33 h55 v52 = some v53) <|
 b2 (rn k 11 [v53, v55] h55) fun v56 h56 =>
 (ext v56 0).bind fun v57 =>
 (ext v56 1).bind fun v58 =>
 (nilChk v13).bind fun v59 =>
 (fldA Tryz.prog 35 v59 0).bind fun v60 =>
 (ld Tryz.prog 30 h56 v60).bind fun v61 =>
 b2 (rn k 13 [v61, s2] h56) fun v62 h62 =>
 (nilChk v13).bind fun v63 =>
 (fldA Tryz.prog 35 v63 1).bind fun v64 =>
 (ld Tryz.prog 31 h62 v64).bind fun v65 =>
 (nilChk v65).bind fun v66 =>
 (fldA Tryz.prog 54 v66 2).bind fun v67 =>
 (st Tryz.prog 3 h62 v67 s2).bind fun h68 =>
 (nilChk v13).bind fun v69 =>
 (fldA Tryz.prog 35 v69 2).bind fun v70 =>
 (ld Tryz.prog 32 h68 v70).bind fun v71 =>
 b2 (rn k 14 [v71, v49] h68) fun v72 h72 =>
 (nilChk v13).bind fun v73 =>
 (fldA Tryz.prog 35 v73 3).bind fun v74 =>
 (ld Tryz.prog 33 h72 v74).bind fun v75 =>
 b2 (rn k 15 [v75, v57] h72) fun v76 h76 =>
 (nilChk v13).bind fun v77 =>
 (fldA Tryz.prog 35 v77 2).bind fun v78 =>
 (ld Tryz.prog 32 h76 v78).bind fun v79 =>
 b2 (rn k 7 [v79] h76) fun v80 h80 =>
 (ext v80 0).bind fun v81 =>
 (ext v80 1).bind fun v82 =>
 b2 (newV Tryz.prog 24 h80) fun v83 h83 =>
 (st Tryz.prog 24 h83 v83 v81).bind fun h84 =>
 (nilChk v13).bind fun v85 =>
 (fldA Tryz.prog 35 v85 3).bind fun v86 =>
 (ld Tryz.prog 33 h84 v86).bind fun v87 =>
 b2 (rn k 8 [v87] h84) fun v88 h88 =>
 (ext v88 0).bind fun v89 =>
 (ext v88 1).bind fun v90 =>
 b2 (newV Tryz.prog 41 h88) fun v91 h91 =>
 (st Tryz.prog 41 h91 v91 v89).bind fun h92 =>
 (ld Tryz.prog 24 h92 v83).bind fun v93 =>
 (ld Tryz.prog 41 h92 v91).bind fun v94 =>
 b2 (rn k 9 [v93, v94] h92) fun v95 h95 =>
 (nilChk v13).bind fun v96 =>
 (fldA Tryz.prog 35 v96 2).bind fun v97 =>
 (ld Tryz.prog 32 h95 v97).bind fun v98 =>
 b2 (rn k 16 [v98] h95) fun v99 h99 =>
 (ext v99 0).bind fun v100 =>
 (ext v99 1).bind fun v101 =>
 (nilChk v13).bind fun v102 =>
 (fldA Tryz.prog 35 v102 3).bind fun v103 =>
 (ld Tryz.prog 33 h99 v103).bind fun v104 =>
 b2 (rn k 17 [v104] h99) fun v105 h105 =>
 (ext v105 0).bind fun v106 =>
 (ext v105 1).bind fun v107 =>
 (nilChk v13).bind fun v108 =>
 (fldA Tryz.prog 35 v108 2).bind fun v109 =>
 (ld Tryz.prog 32 h105 v109).bind fun v110 =>
 b2 (rn k 18 [v110, v100, s3, s4] h105) fun v111 h111 =>
 (nilChk v13).bind fun v112 =>
 (fldA Tryz.prog 35 v112 3).bind fun v113 =>
 (ld Tryz.prog 33 h111 v113).bind fun v114 =>
 b2 (rn k 19 [v114, v106, s3, s4] h111) fun v115 h115 =>
 (nilChk v13).bind fun v116 =>
 (fldA Tryz.prog 35 v116 2).bind fun v117 =>
 (ld Tryz.prog 32 h115 v117).bind fun v118 =>
 b2 (rn k 14 [v118, v100] h115) fun v119 h119 =>
 (nilChk v13).bind fun v120 =>
 (fldA Tryz.prog 35 v120 3).bind fun v121 =>
 (ld Tryz.prog 33 h119 v121).bind fun v122 =>
 b2 (rn k 15 [v122, v106] h119) fun v123 h123 =>
 (nilChk v13).bind fun v124 =>
 (fldA Tryz.prog 35 v124 2).bind fun v125 =>
 (ld Tryz.prog 32 h123 v125).bind fun v126 =>
 b2 (rn k 7 [v126] h123) fun v127 h127 =>
 (ext v127 0).bind fun v128 =>
 (ext v127 1).bind fun v129 =>
 b2 (newV Tryz.prog 24 h127) fun v130 h130 =>
 (st Tryz.prog 24 h130 v130 v128).bind fun h131 =>
 (nilChk v13).bind fun v132 =>
 (fldA Tryz.prog 35 v132 3).bind fun v133 =>
 (ld Tryz.prog 33 h131 v133).bind fun v134 =>
 b2 (rn k 8 [v134] h131) fun v135 h135 =>
 (ext v135 0).bind fun v136 =>
 (ext v135 1).bind fun v137 =>
 b2 (newV Tryz.prog 41 h135) fun v138 h138 =>
 (st Tryz.prog 41 h138 v138 v136).bind fun h139 =>
 (ld Tryz.prog 24 h139 v130).bind fun v140 =>
 (ld Tryz.prog 41 h139 v138).bind fun v141 =>
 b2 (rn k 9 [v140, v141] h139) fun v142 h142 =>
 (nilChk v13).bind fun v143 =>
 (fldA Tryz.prog 35 v143 0).bind fun v144 =>
 (ld Tryz.prog 30 h142 v144).bind fun v145 =>
 (nilChk v13).bind fun v146 =>
 (fldA Tryz.prog 35 v146 1).bind fun v147 =>
 (ld Tryz.prog 31 h142 v147).bind fun v148 =>
 b2 (rn k 20 [v145, v148] h142) fun v149 h149 =>
 b2 (gOp s11 true (some (v30, h149)) h149) fun v150 h150 =>
 b2 (gOp s11 true (some (v38, h150)) h150) fun v151 h151 =>
 b2 (gOp s11 true ((bin Tryz.prog .eql 3 v150 v151).bind fun v => some (v, h151)) h151) fun v152 h152 =>
 (pickV s11 v152 (.bool false)).bind fun v153 =>
 b2 (gOp v153 true (some (v43, h152)) h152) fun v154 h154 =>
 (pickV v153 v154 (.bool false)).bind fun v155 =>
 b2 (gOp v155 true (some (v49, h154)) h154) fun v156 h156 =>
 b2 (gOp v155 true (some (v57, h156)) h156) fun v157 h157 =>
 b2 (gOp v155 true ((bin Tryz.prog .eql 3 v156 v157).bind fun v => some (v, h157)) h157) fun v158 h158 =>
 (pickV v155 v158 (.bool false)).bind fun v159 =>
 b2 (gOp v159 true (some (v50, h158)) h158) fun v160 h160 =>
 b2 (gOp v159 true (some (v58, h160)) h160) fun v161 h161 =>
 b2 (gOp v159 true ((bin Tryz.prog .eql 3 v160 v161).bind fun v => some (v, h161)) h161) fun v162 h162 =>
 (pickV v159 v162 (.bool false)).bind fun v163 =>
 b2 (gOp v163 true (some (v72, h162)) h162) fun v164 h164 =>
 b2 (gOp v163 true (some (v76, h164)) h164) fun v165 h165 =>
 b2 (gOp v163 true ((bin Tryz.prog .eql 3 v164 v165).bind fun v => some (v, h165)) h165) fun v166 h166 =>
 (pickV v163 v166 (.bool false)).bind fun v167 =>
 b2 (gOp v167 true (some (v82, h166)) h166) fun v168 h168 =>
 b2 (gOp v167 true (some (v90, h168)) h168) fun v169 h169 =>
 b2 (gOp v167 true ((bin Tryz.prog .eql 3 v168 v169).bind fun v => some (v, h169)) h169) fun v170 h170 =>
 (pickV v167 v170 (.bool false)).bind fun v171 =>
 b2 (gOp v171 true (some (v95, h170)) h170) fun v172 h172 =>
 (pickV v171 v172 (.bool false)).bind fun v173 =>
 b2 (gOp v173 true (some (v100, h172)) h172) fun v174 h174 =>
 b2 (gOp v173 true (some (v106, h174)) h174) fun v175 h175 =>
 b2 (gOp v173 true ((bin Tryz.prog .eql 3 v174 v175).bind fun v => some (v, h175)) h175) fun v176 h176 =>
 (pickV v173 v176 (.bool false)).bind fun v177 =>
 b2 (gOp v177 true (some (v101, h176)) h176) fun v178 h178 =>
 b2 (gOp v177 true (some (v107, h178)) h178) fun v179 h179 =>
 b2 (gOp v177 true ((bin Tryz.prog .eql 3 v178 v179).bind fun v => some (v, h179)) h179) fun v180 h180 =>
 (pickV v177 v180 (.bool false)).bind fun v181 =>
 b2 (gOp v181 true (some (v111, h180)) h180) fun v182 h182 =>
 b2 (gOp v181 true (some (v115, h182)) h182) fun v183 h183 =>
 b2 (gOp v181 true ((bin Tryz.prog .eql 3 v182 v183).bind fun v => some (v, h183)) h183) fun v184 h184 =>
 (pickV v181 v184 (.bool false)).bind fun v185 =>
 b2 (gOp v185 true (some (v119, h184)) h184) fun v186 h186 =>
 b2 (gOp v185 true (some (v123, h186)) h186) fun v187 h187 =>
 b2 (gOp v185 true ((bin Tryz.prog .eql 3 v186 v187).bind fun v => some (v, h187)) h187) fun v188 h188 =>
 (pickV v185 v188 (.bool false)).bind fun v189 =>
 b2 (gOp v189 true (some (v129, h188)) h188) fun v190 h190 =>
 b2 (gOp v189 true (some (v137, h190)) h190) fun v191 h191 =>
 b2 (gOp v189 true ((bin Tryz.prog .eql 3 v190 v191).bind fun v => some (v, h191)) h191) fun v192 h192 =>
 (pickV v189 v192 (.bool false)).bind fun v193 =>
 b2 (gOp v193 true (some (v142, h192)) h192) fun v194 h194 =>
 (pickV v193 v194 (.bool false)).bind fun v195 =>
 b2 (gOp v195 true (some (v149, h194)) h194) fun v196 h196 =>
 (pickV v195 v196 (.bool false)).bind fun v197 =>
 some (v197, h196)) := by kernel_rfl
theorem f3_eq (k : Nat) (a0 a1 a2 a3 a4 : Value) (H : AH) : rn (k + 1) 3 [a0, a1, a2, a3, a4] H =
b2 (box 24 H a1) fun v1 h1 =>
b2 (rn k 4 [] h1) fun v2 h2 =>
(un Tryz.prog .not v2).bind fun v3 =>
aIf v3
 (some ((.bool false), h2))
 ((bin Tryz.prog .lss 3 a0 (.int .i64 0)).bind fun v4 =>
 aIf v4
  ((bin Tryz.prog .add 3 a0 (.int .i64 1)).bind fun v5 =>
  (un Tryz.prog .neg v5).bind fun v6 =>
  f3_J0 k v6 a2 a3 a4 v1 v2 h2)
  (f3_J0 k a0 a2 a3 a4 v1 v2 h2)) := by kernel_rfl
theorem f4_eq (k : Nat) (H : AH) : rn (k + 1) 4 [] H =
(build Tryz.prog 24 [(0, (.int .i64 1))]).bind fun v1 =>
b2 (rn k 21 [v1] H) fun v2 h2 =>
(ext v2 0).bind fun v3 =>
(ext v2 1).bind fun v4 =>
(build Tryz.prog 24 [(0, (.int .i64 5))]).bind fun v5 =>
b2 (rn k 22 [v5, (.int .i64 9)] h2) fun v6 h6 =>
(ext v6 0).bind fun v7 =>
(ext v6 1).bind fun v8 =>
b2 (newV Tryz.prog 24 h6) fun v9 h9 =>
(st Tryz.prog 24 h9 v9 v7).bind fun h10 =>
(ld Tryz.prog 24 h10 v9).bind fun v11 =>
b2 (rn k 23 [v11, (.int .i64 0)] h10) fun v12 h12 =>
(ext v12 0).bind fun v13 =>
(ext v12 1).bind fun v14 =>
b2 (rn k 24 [(.string ⟨#[]⟩)] h12) fun v15 h15 =>
(ext v15 0).bind fun v16 =>
(ext v15 1).bind fun v17 =>
b2 (newV Tryz.prog 24 h15) fun v18 h18 =>
(st Tryz.prog 24 h18 v18 v16).bind fun h19 =>
(bin Tryz.prog .eql 9 v3 (.string ⟨#[0, 0, 0, 1]⟩)).bind fun v20 =>
b2 (gOp v20 true (some (v4, h19)) h19) fun v21 h21 =>
b2 (gOp v20 true ((bin Tryz.prog .eql 36 v21 (.int .i64 0)).bind fun v => some (v, h21)) h21) fun v22 h22 =>
(pickV v20 v22 (.bool false)).bind fun v23 =>
b2 (gOp v23 true (some (v8, h22)) h22) fun v24 h24 =>
(pickV v23 v24 (.bool false)).bind fun v25 =>
b2 (gOp v25 true ((fldA Tryz.prog 24 v9 0).bind fun v => some (v, h24)) h24) fun v26 h26 =>
b2 (gOp v25 true ((ld Tryz.prog 3 h26 v26).bind fun v => some (v, h26)) h26) fun v27 h27 =>
b2 (gOp v25 true ((bin Tryz.prog .eql 3 v27 (.int .i64 6)).bind fun v => some (v, h27)) h27) fun v28 h28 =>
(pickV v25 v28 (.bool false)).bind fun v29 =>
b2 (gOp v29 true ((fldA Tryz.prog 24 v9 1).bind fun v => some (v, h28)) h28) fun v30 h30 =>
b2 (gOp v29 true ((ld Tryz.prog 22 h30 v30).bind fun v => some (v, h30)) h30) fun v31 h31 =>
b2 (gOp v29 true ((lenV Tryz.prog 22 v31).bind fun v => some (v, h31)) h31) fun v32 h32 =>
b2 (gOp v29 true ((bin Tryz.prog .eql 3 v32 (.int .i64 1)).bind fun v => some (v, h32)) h32) fun v33 h33 =>
(pickV v29 v33 (.bool false)).bind fun v34 =>
b2 (gOp v34 true ((fldA Tryz.prog 24 v9 1).bind fun v => some (v, h33)) h33) fun v35 h35 =>
b2 (gOp v34 true ((ld Tryz.prog 22 h35 v35).bind fun v => some (v, h35)) h35) fun v36 h36 =>
b2 (gOp v34 true ((ixA Tryz.prog 22 v36 (.int .i64 0)).bind fun v => some (v, h36)) h36) fun v37 h37 =>
b2 (gOp v34 true ((ld Tryz.prog 71 h37 v37).bind fun v => some (v, h37)) h37) fun v38 h38 =>
b2 (gOp v34 true ((build Tryz.prog 71 [(0, (.int .i64 5)), (1, (.int .i64 9))]).bind fun v => some (v, h38)) h38) fun v39 h39 =>
b2 (gOp v34 true ((bin Tryz.prog .eql 71 v38 v39).bind fun v => some (v, h39)) h39) fun v40 h40 =>
(pickV v34 v40 (.bool false)).bind fun v41 =>
b2 (gOp v41 true (some (v13, h40)) h40) fun v42 h42 =>
b2 (gOp v41 true ((bin Tryz.prog .eql 3 v42 (.int .i64 0)).bind fun v => some (v, h42)) h42) fun v43 h43 =>
(pickV v41 v43 (.bool false)).bind fun v44 =>
b2 (gOp v44 true (some (v14, h43)) h43) fun v45 h45 =>
(pickV v44 v45 (.bool false)).bind fun v46 =>
b2 (gOp v46 true (some (v17, h45)) h45) fun v47 h47 =>
b2 (gOp v46 true ((bin Tryz.prog .eql 36 v47 (.int .i64 2)).bind fun v => some (v, h47)) h47) fun v48 h48 =>
(pickV v46 v48 (.bool false)).bind fun v49 =>
some (v49, h48) := by kernel_rfl
theorem f5_eq (k : Nat) (a0 : Value) (H : AH) : rn (k + 1) 5 [a0] H =
b2 (box 24 H a0) fun v1 h1 =>
b2 (newV Tryz.prog 24 h1) fun v2 h2 =>
(fldA Tryz.prog 24 v1 1).bind fun v3 =>
(ld Tryz.prog 22 h2 v3).bind fun v4 =>
(fldA Tryz.prog 24 v1 1).bind fun v5 =>
(ld Tryz.prog 22 h2 v5).bind fun v6 =>
(lenV Tryz.prog 22 v6).bind fun v7 =>
(fold1 minV [v7, (.int .i64 15)]).bind fun v8 =>
(slc Tryz.prog 22 v4 none (some v8)).bind fun v9 =>
b2 (ap Tryz.prog 22 22 h2 (.slice none 0 0) v9) fun v10 h10 =>
(fldA Tryz.prog 24 v1 1).bind fun v11 =>
(st Tryz.prog 22 h10 v11 v10).bind fun h12 =>
(ld Tryz.prog 24 h12 v1).bind fun v13 =>
(st Tryz.prog 24 h12 v2 v13).bind fun h14 =>
((ld Tryz.prog 24 h14 v2).bind fun v15 => some (v15 :: [])).bind fun vs => some (oneOf vs, h14) := by kernel_rfl
theorem f6_eq (k : Nat) (a0 : Value) (H : AH) : rn (k + 1) 6 [a0] H =
(build Tryz.prog 35 []).bind fun v1 =>
b2 (box 35 H v1) fun v2 h2 =>
b2 (rn k 25 [a0] h2) fun v3 h3 =>
(ext v3 0).bind fun v4 =>
(ext v3 1).bind fun v5 =>
(ext v3 2).bind fun v6 =>
(nilChk v2).bind fun v7 =>
(fldA Tryz.prog 35 v7 0).bind fun v8 =>
(st Tryz.prog 30 h3 v8 v4).bind fun h9 =>
(nilChk v2).bind fun v10 =>
(fldA Tryz.prog 35 v10 1).bind fun v11 =>
(st Tryz.prog 31 h9 v11 v5).bind fun h12 =>
(un Tryz.prog .not v6).bind fun v13 =>
b2 (gOp v13 false (some (v2, h12)) h12) fun v14 h14 =>
b2 (gOp v13 false ((nilChk v14).bind fun v => some (v, h14)) h14) fun v15 h15 =>
b2 (gOp v13 false ((fldA Tryz.prog 35 v15 1).bind fun v => some (v, h15)) h15) fun v16 h16 =>
b2 (gOp v13 false ((ld Tryz.prog 31 h16 v16).bind fun v => some (v, h16)) h16) fun v17 h17 =>
b2 (gOp v13 false ((bin Tryz.prog .eql 31 v17 (.pointer none)).bind fun v => some (v, h17)) h17) fun v18 h18 =>
(pickV v13 (.bool true) v18).bind fun v19 =>
aIf v19
 ((un Tryz.prog .not v6).bind fun v20 =>
 b2 (gOp v20 true (some (v2, h18)) h18) fun v21 h21 =>
 b2 (gOp v20 true ((nilChk v21).bind fun v => some (v, h21)) h21) fun v22 h22 =>
 b2 (gOp v20 true ((fldA Tryz.prog 35 v22 1).bind fun v => some (v, h22)) h22) fun v23 h23 =>
 b2 (gOp v20 true ((ld Tryz.prog 31 h23 v23).bind fun v => some (v, h23)) h23) fun v24 h24 =>
 b2 (gOp v20 true ((bin Tryz.prog .eql 31 v24 (.pointer none)).bind fun v => some (v, h23)) h23) fun v25 h25 =>
 (pickV v20 v25 (.bool false)).bind fun v26 =>
 some ((.tuple #[(.pointer none), v26]), h25))
 ((nilChk v2).bind fun v27 =>
 (fldA Tryz.prog 35 v27 0).bind fun v28 =>
 (ld Tryz.prog 30 h18 v28).bind fun v29 =>
 b2 (rn k 26 [v29] h18) fun v30 h30 =>
 (ext v30 0).bind fun v31 =>
 (ext v30 1).bind fun v32 =>
 (nilChk v2).bind fun v33 =>
 (fldA Tryz.prog 35 v33 1).bind fun v34 =>
 (ld Tryz.prog 31 h30 v34).bind fun v35 =>
 b2 (rn k 27 [v35] h30) fun v36 h36 =>
 (ext v36 0).bind fun v37 =>
 (ext v36 1).bind fun v38 =>
 b2 (rn k 28 [v2, v31, v32, v37, v38] h36) fun v39 h39 =>
 some ((.tuple #[v2, v39]), h39)) := by kernel_rfl
theorem f7_eq (k : Nat) (a0 : Value) (H : AH) : rn (k + 1) 7 [a0] H =
b2 (newV Tryz.prog 24 H) fun v1 h1 =>
b2 (rn k 29 [a0] h1) fun v2 h2 =>
(bin Tryz.prog .eql 3 v2 (.int .i64 0)).bind fun v3 =>
aIf v3
 ((build Tryz.prog 24 [(0, (.int .i64 1))]).bind fun v4 =>
 (st Tryz.prog 24 h2 v1 v4).bind fun h5 =>
 ((ld Tryz.prog 24 h5 v1).bind fun v6 => some (v6 :: ((.int .i64 0) :: []))).bind fun vs => some (oneOf vs, h5))
 (b2 (rn k 29 [a0] h2) fun v7 h7 =>
 b2 (rn k 30 [a0, v7] h7) fun v8 h8 =>
 (ext v8 0).bind fun v9 =>
 (ext v8 1).bind fun v10 =>
 (bin Tryz.prog .neq 36 v10 (.int .i64 0)).bind fun v11 =>
 aIf v11
  ((build Tryz.prog 24 []).bind fun v12 =>
  (st Tryz.prog 24 h8 v1 v12).bind fun h13 =>
  ((ld Tryz.prog 24 h13 v1).bind fun v14 => some (v14 :: (v10 :: []))).bind fun vs => some (oneOf vs, h13))
  (b2 (rn k 24 [v9] h8) fun v15 h15 =>
  (ext v15 0).bind fun v16 =>
  (ext v15 1).bind fun v17 =>
  (st Tryz.prog 24 h15 v1 v16).bind fun h18 =>
  ((ld Tryz.prog 24 h18 v1).bind fun v19 => some (v19 :: (v17 :: []))).bind fun vs => some (oneOf vs, h18))) := by kernel_rfl
theorem f8_eq (k : Nat) (a0 : Value) (H : AH) : rn (k + 1) 8 [a0] H =
b2 (newV Tryz.prog 41 H) fun v1 h1 =>
(nilChk a0).bind fun v2 =>
(fldA Tryz.prog 84 v2 2).bind fun v3 =>
(ld Tryz.prog 3 h1 v3).bind fun v4 =>
(bin Tryz.prog .eql 3 v4 (.int .i64 0)).bind fun v5 =>
aIf v5
 ((build Tryz.prog 41 [(0, (.int .i64 1))]).bind fun v6 =>
 (st Tryz.prog 41 h1 v1 v6).bind fun h7 =>
 ((ld Tryz.prog 41 h7 v1).bind fun v8 => some (v8 :: ((.int .i64 0) :: []))).bind fun vs => some (oneOf vs, h7))
 ((nilChk a0).bind fun v9 =>
 (fldA Tryz.prog 84 v9 2).bind fun v10 =>
 (ld Tryz.prog 3 h1 v10).bind fun v11 =>
 b2 (rn k 31 [a0, v11] h1) fun v12 h12 =>
 (ext v12 0).bind fun v13 =>
 (ext v12 1).bind fun v14 =>
 (bin Tryz.prog .neq 3 v14 (.int .i64 0)).bind fun v15 =>
 aIf v15
  ((build Tryz.prog 41 []).bind fun v16 =>
  (st Tryz.prog 41 h12 v1 v16).bind fun h17 =>
  ((ld Tryz.prog 41 h17 v1).bind fun v18 => some (v18 :: (v14 :: []))).bind fun vs => some (oneOf vs, h17))
  (b2 (rn k 32 [v13] h12) fun v19 h19 =>
  (ext v19 0).bind fun v20 =>
  (ext v19 1).bind fun v21 =>
  b2 (newV Tryz.prog 41 h19) fun v22 h22 =>
  (st Tryz.prog 41 h22 v22 v20).bind fun h23 =>
  (un Tryz.prog .not v21).bind fun v24 =>
  aIf v24
   ((build Tryz.prog 41 []).bind fun v25 =>
   (st Tryz.prog 41 h23 v1 v25).bind fun h26 =>
   ((ld Tryz.prog 41 h26 v1).bind fun v27 => some (v27 :: ((.int .i64 2) :: []))).bind fun vs => some (oneOf vs, h26))
   ((ld Tryz.prog 41 h23 v22).bind fun v28 =>
   (st Tryz.prog 41 h23 v1 v28).bind fun h29 =>
   ((ld Tryz.prog 41 h29 v1).bind fun v30 => some (v30 :: ((.int .i64 0) :: []))).bind fun vs => some (oneOf vs, h29)))) := by kernel_rfl
theorem f9_eq (k : Nat) (a0 a1 : Value) (H : AH) : rn (k + 1) 9 [a0, a1] H =
b2 (box 24 H a0) fun v1 h1 =>
b2 (box 41 h1 a1) fun v2 h2 =>
(ld Tryz.prog 24 h2 v1).bind fun v3 =>
b2 (rn k 12 [v3] h2) fun v4 h4 =>
(ld Tryz.prog 41 h4 v2).bind fun v5 =>
aChk (ld Tryz.prog 41 h2 v2 = some v5) <|
b2 (rn k 33 [v4, v5] h4) fun v6 h6 =>
some (v6, h6) := by kernel_rfl
theorem f10_eq (k : Nat) (a0 a1 : Value) (H : AH) : rn (k + 1) 10 [a0, a1] H =
b2 (box 24 H a1) fun v1 h1 =>
(ld Tryz.prog 24 h1 v1).bind fun v2 =>
b2 (rn k 21 [v2] h1) fun v3 h3 =>
(ext v3 0).bind fun v4 =>
(ext v3 1).bind fun v5 =>
(bin Tryz.prog .neq 36 v5 (.int .i64 0)).bind fun v6 =>
aIf v6
 (some ((.tuple #[(.int .i64 0), v5]), h3))
 (b2 (rn k 34 [a0, v4] h3) fun v7 h7 =>
 (ext v7 0).bind fun v8 =>
 (ext v7 1).bind fun v9 =>
 some ((.tuple #[v8, v9]), h7)) := by kernel_rfl
theorem f11_eq (k : Nat) (a0 a1 : Value) (H : AH) : rn (k + 1) 11 [a0, a1] H =
b2 (box 41 H a1) fun v1 h1 =>
(ld Tryz.prog 41 h1 v1).bind fun v2 =>
b2 (rn k 35 [v2] h1) fun v3 h3 =>
(ext v3 0).bind fun v4 =>
(ext v3 1).bind fun v5 =>
(un Tryz.prog .not v5).bind fun v6 =>
aIf v6
 (some ((.tuple #[(.int .i64 0), (.int .i64 1)]), h3))
 (b2 (rn k 36 [a0, v4] h3) fun v7 h7 =>
 (ext v7 0).bind fun v8 =>
 (ext v7 1).bind fun v9 =>
 some ((.tuple #[v8, v9]), h7)) := by kernel_rfl
abbrev f12_T_L0 (s1 s2 s3 s4 : Value) : List Value := [unk, s1, s2, s3, s4] ++ List.replicate 29 unk
abbrev f12_X_L0 (s2 s3 : Value) : List Value := [unk, unk, s2, s3] ++ List.replicate 30 unk
@[irreducible] def f12_L0 (k : Nat) (s1 s2 s3 s4 : Value) (n : Nat) (H : AH) : Option Out := iterD (fun T H K => evalK Tryz.prog (rn k) k (tbs 12) (codeAt (bodyOf Tryz.f12) [1, 1, 0, 1, 0, 0]) T H K) (cutT (tbs 12) 10) (cutT (tbs 12) 11) n (f12_T_L0 s1 s2 s3 s4) H
@[irreducible] def f12_A0 (k : Nat) (e : EX) (T : List Value) (H : AH) : Option (Value × AH) := resume Tryz.prog (rn k) k (tbs 12) (bodyOf Tryz.f12) [1, 1, 0, 1, 0] e T H (resK Tryz.prog Tryz.f12.results.toList)
theorem f12_L0_succ (k : Nat) (s1 s2 s3 s4 : Value) (n : Nat) (H : AH) : f12_L0 k s1 s2 s3 s4 (n + 1) H =
(fldA Tryz.prog 24 s1 1).bind fun v8 =>
(ld Tryz.prog 22 H v8).bind fun v9 =>
(lenV Tryz.prog 22 v9).bind fun v10 =>
(bin Tryz.prog .lss 3 s4 v10).bind fun v11 =>
aIf v11
 ((fldA Tryz.prog 41 s3 1).bind fun v12 =>
 (ld Tryz.prog 39 H v12).bind fun v13 =>
 (fldA Tryz.prog 24 s1 1).bind fun v14 =>
 (ld Tryz.prog 22 H v14).bind fun v15 =>
 (ixA Tryz.prog 22 v15 s4).bind fun v16 =>
 (fldA Tryz.prog 71 v16 0).bind fun v17 =>
 (ld Tryz.prog 3 H v17).bind fun v18 =>
 (fldA Tryz.prog 24 s1 1).bind fun v19 =>
 (ld Tryz.prog 22 H v19).bind fun v20 =>
 (ixA Tryz.prog 22 v20 s4).bind fun v21 =>
 (fldA Tryz.prog 71 v21 1).bind fun v22 =>
 (ld Tryz.prog 3 H v22).bind fun v23 =>
 (build Tryz.prog 94 [(0, v18), (1, v23)]).bind fun v24 =>
 b2 (buildS Tryz.prog 39 H 1 [(0, v24)]) fun v25 h25 =>
 b2 (ap Tryz.prog 39 39 h25 v13 v25) fun v26 h26 =>
 (fldA Tryz.prog 41 s3 1).bind fun v27 =>
 (st Tryz.prog 39 h26 v27 v26).bind fun h28 =>
 (bin Tryz.prog .add 3 s4 (.int .i64 1)).bind fun v29 =>
 f12_L0 k s1 s2 s3 v29 n h28)
 (some ((.exit 0), (f12_X_L0 s2 s3), H)) := by kernel_rfl
theorem f12_A0_x0 (k : Nat) (s2 s3 : Value) (H : AH) : f12_A0 k (.exit 0) (f12_X_L0 s2 s3) H =
(ld Tryz.prog 41 H s3).bind fun v30 =>
(st Tryz.prog 41 H s2 v30).bind fun h31 =>
((ld Tryz.prog 41 h31 s2).bind fun v32 => some (v32 :: [])).bind fun vs => some (oneOf vs, h31) := by kernel_rfl
theorem f12_eq (k : Nat) (a0 : Value) (H : AH) : rn (k + 1) 12 [a0] H =
b2 (box 24 H a0) fun v1 h1 =>
b2 (newV Tryz.prog 41 h1) fun v2 h2 =>
(fldA Tryz.prog 24 v1 0).bind fun v3 =>
(ld Tryz.prog 3 h2 v3).bind fun v4 =>
(build Tryz.prog 41 [(0, v4)]).bind fun v5 =>
b2 (newV Tryz.prog 41 h2) fun v6 h6 =>
(st Tryz.prog 41 h6 v6 v5).bind fun h7 =>
(f12_L0 k v1 v2 v6 (.int .i64 0) k h7).bind fun p => f12_A0 k p.1 p.2.1 p.2.2 := by kernel_rfl
theorem f13_eq (k : Nat) (a0 a1 : Value) (H : AH) : rn (k + 1) 13 [a0, a1] H =
(fold1 maxV [a1, (.int .i64 (-1))]).bind fun v1 =>
(nilChk a0).bind fun v2 =>
(fldA Tryz.prog 98 v2 2).bind fun v3 =>
(st Tryz.prog 3 H v3 v1).bind fun h4 =>
some ((.tuple #[]), h4) := by kernel_rfl
abbrev f14_T_L0 (s0 s1 s5 s32 s33 s34 : Value) : List Value := [s0, s1, unk, unk, unk, s5] ++ List.replicate 26 unk ++ [s32, s33, s34] ++ List.replicate 14 unk
abbrev f14_X_L0 (s0 s1 s5 : Value) : List Value := [s0, s1, unk, unk, unk, s5] ++ List.replicate 43 unk
@[irreducible] def f14_L0 (k : Nat) (s0 s1 s5 s32 s33 s34 : Value) (n : Nat) (H : AH) : Option Out := iterD (fun T H K => evalK Tryz.prog (rn k) k (tbs 14) (codeAt (bodyOf Tryz.f14) [1, 1, 1, 1, 0, 1, 0, 0]) T H K) (cutT (tbs 14) 28) (cutT (tbs 14) 29) n (f14_T_L0 s0 s1 s5 s32 s33 s34) H
@[irreducible] def f14_A0 (k : Nat) (e : EX) (T : List Value) (H : AH) : Option (Value × AH) := resumeP Tryz.prog (rn k) k (tbs 14) mCommit (bodyOf Tryz.f14) [1, 1, 1, 1, 0, 1, 0] [1, 1, 1, 0] e T H (resK Tryz.prog Tryz.f14.results.toList)
theorem f14_L0_succ (k : Nat) (s0 s1 s5 s32 s33 s34 : Value) (n : Nat) (H : AH) : f14_L0 k s0 s1 s5 s32 s33 s34 (n + 1) H =
(bin Tryz.prog .lss 3 s34 s33).bind fun v13 =>
aIf v13
 ((ixA Tryz.prog 82 s32 s34).bind fun v14 =>
 (ld Tryz.prog 3 H v14).bind fun v15 =>
 (fldA Tryz.prog 101 s5 2).bind fun v16 =>
 (ld Tryz.prog 99 H v16).bind fun v17 =>
 (mpU Tryz.prog 99 H v17 v15 (.bool true)).bind fun h18 =>
 (bin Tryz.prog .add 3 s34 (.int .i64 1)).bind fun v19 =>
 f14_L0 k s0 s1 s5 s32 s33 v19 n h18)
 (some ((.exit 2), (f14_X_L0 s0 s1 s5), H)) := by kernel_rfl
theorem f14_A0_x2 (k : Nat) (s0 s1 s5 : Value) (H : AH) : f14_A0 k (.exit 2) (f14_X_L0 s0 s1 s5) H =
(ld Tryz.prog 101 H s5).bind fun v20 =>
b2 (rn k 37 [v20, s1] H) fun v21 h21 =>
(un Tryz.prog .not v21).bind fun v22 =>
aIf v22
 (some ((.int .i64 1), h21))
 ((ld Tryz.prog 101 h21 s5).bind fun v23 =>
 b2 (rn k 38 [s0, v23] h21) fun v24 h24 =>
 some (v24, h24)) := by kernel_rfl
theorem f14_eq (k : Nat) (a0 a1 : Value) (H : AH) : rn (k + 1) 14 [a0, a1] H =
(nilChk a0).bind fun v1 =>
(fldA Tryz.prog 103 v1 3).bind fun v2 =>
(ld Tryz.prog 4 H v2).bind fun v3 =>
aIf v3
 (some ((.int .i64 7), H))
 (b2 (mkM 99 H) fun v4 h4 =>
 (build Tryz.prog 101 [(1, a1), (2, v4)]).bind fun v5 =>
 b2 (newV Tryz.prog 101 h4) fun v6 h6 =>
 (st Tryz.prog 101 h6 v6 v5).bind fun h7 =>
 (gCommit [a0, v6] h7).bind fun h8 =>
 (nilChk a0).bind fun v9 =>
 (fldA Tryz.prog 103 v9 2).bind fun v10 =>
 (ld Tryz.prog 82 h8 v10).bind fun v11 =>
 (lenV Tryz.prog 82 v11).bind fun v12 =>
 (f14_L0 k a0 a1 v6 v11 v12 (.int .i64 0) k h8).bind fun p => f14_A0 k p.1 p.2.1 p.2.2) := by kernel_rfl
abbrev f15_T_L0 (s0 s1 s5 s6 : Value) : List Value := [s0, s1, unk, unk, unk, s5, s6] ++ List.replicate 35 unk
abbrev f15_X_L0 (s0 s1 s5 : Value) : List Value := [s0, s1, unk, unk, unk, s5] ++ List.replicate 36 unk
@[irreducible] def f15_L0 (k : Nat) (s0 s1 s5 s6 : Value) (n : Nat) (H : AH) : Option Out := iterD (fun T H K => evalK Tryz.prog (rn k) k (tbs 15) (codeAt (bodyOf Tryz.f15) [1, 1, 1, 1, 0, 1, 0, 0]) T H K) (cutT (tbs 15) 22) (cutT (tbs 15) 23) n (f15_T_L0 s0 s1 s5 s6) H
@[irreducible] def f15_A0 (k : Nat) (e : EX) (T : List Value) (H : AH) : Option (Value × AH) := resume Tryz.prog (rn k) k (tbs 15) (bodyOf Tryz.f15) [1, 1, 1, 1, 0, 1, 0] e T H (resK Tryz.prog Tryz.f15.results.toList)
theorem f15_L0_succ (k : Nat) (s0 s1 s5 s6 : Value) (n : Nat) (H : AH) : f15_L0 k s0 s1 s5 s6 (n + 1) H =
(nilChk s0).bind fun v10 =>
(fldA Tryz.prog 84 v10 4).bind fun v11 =>
(ld Tryz.prog 82 H v11).bind fun v12 =>
(lenV Tryz.prog 82 v12).bind fun v13 =>
(bin Tryz.prog .lss 3 s6 v13).bind fun v14 =>
aIf v14
 ((nilChk s0).bind fun v15 =>
 (fldA Tryz.prog 84 v15 4).bind fun v16 =>
 (ld Tryz.prog 82 H v16).bind fun v17 =>
 (ixA Tryz.prog 82 v17 s6).bind fun v18 =>
 (ld Tryz.prog 3 H v18).bind fun v19 =>
 (ixA Tryz.prog 81 s5 v19).bind fun v20 =>
 (st Tryz.prog 4 H v20 (.bool true)).bind fun h21 =>
 (bin Tryz.prog .add 3 s6 (.int .i64 1)).bind fun v22 =>
 f15_L0 k s0 s1 s5 v22 n h21)
 (some ((.exit 0), (f15_X_L0 s0 s1 s5), H)) := by kernel_rfl
theorem f15_A0_x0 (k : Nat) (s0 s1 s5 : Value) (H : AH) : f15_A0 k (.exit 0) (f15_X_L0 s0 s1 s5) H =
b2 (rn k 40 [s0, s1, s5] H) fun v23 h23 =>
some (v23, h23) := by kernel_rfl
theorem f15_eq (k : Nat) (a0 a1 : Value) (H : AH) : rn (k + 1) 15 [a0, a1] H =
(nilChk a0).bind fun v1 =>
(fldA Tryz.prog 84 v1 5).bind fun v2 =>
(ld Tryz.prog 4 H v2).bind fun v3 =>
aIf v3
 (some ((.int .i64 7), H))
 (b2 (rn k 39 [a0, a1] H) fun v4 h4 =>
 (un Tryz.prog .not v4).bind fun v5 =>
 aIf v5
  (some ((.int .i64 1), h4))
  ((nilChk a0).bind fun v6 =>
  (fldA Tryz.prog 84 v6 3).bind fun v7 =>
  (ld Tryz.prog 81 h4 v7).bind fun v8 =>
  b2 (ap Tryz.prog 81 81 h4 (.slice none 0 0) v8) fun v9 h9 =>
  (f15_L0 k a0 a1 v9 (.int .i64 0) k h9).bind fun p => f15_A0 k p.1 p.2.1 p.2.2)) := by kernel_rfl
abbrev f16_T_L0 (s0 s10 s11 : Value) : List Value := [s0] ++ List.replicate 9 unk ++ [s10, s11] ++ List.replicate 31 unk
abbrev f16_X_L0 (s2 s3 : Value) : List Value := [unk, unk, s2, s3] ++ List.replicate 39 unk
@[irreducible] def f16_L0 (k : Nat) (s0 s10 s11 : Value) (n : Nat) (H : AH) : Option Out := iterD (fun T H K => evalK Tryz.prog (rn k) k (tbs 16) (codeAt (bodyOf Tryz.f16) [1, 1, 0, 1, 0, 0]) T H K) (cutT (tbs 16) 13) (cutT (tbs 16) 14) n (f16_T_L0 s0 s10 s11) H
@[irreducible] def f16_A0 (k : Nat) (e : EX) (T : List Value) (H : AH) : Option (Value × AH) := resume Tryz.prog (rn k) k (tbs 16) (bodyOf Tryz.f16) [1, 1, 0, 1, 0] e T H (resK Tryz.prog Tryz.f16.results.toList)
theorem f16_L0_succ (k : Nat) (s0 s10 s11 : Value) (n : Nat) (H : AH) : f16_L0 k s0 s10 s11 (n + 1) H =
(bin Tryz.prog .lss 3 s11 s10).bind fun v5 =>
aIf v5
 ((nilChk s0).bind fun v6 =>
 (fldA Tryz.prog 103 v6 0).bind fun v7 =>
 (fldA Tryz.prog 101 v7 2).bind fun v8 =>
 (ld Tryz.prog 99 H v8).bind fun v9 =>
 (lkU Tryz.prog 99 H v9 s11 false).bind fun v10 =>
 (un Tryz.prog .not v10).bind fun v11 =>
 b2 (gOp v11 true (some (s0, H)) H) fun v12 h12 =>
 b2 (gOp v11 true ((nilChk v12).bind fun v => some (v, h12)) h12) fun v13 h13 =>
 b2 (gOp v11 true ((fldA Tryz.prog 103 v13 2).bind fun v => some (v, h13)) h13) fun v14 h14 =>
 b2 (gOp v11 true ((ld Tryz.prog 82 h14 v14).bind fun v => some (v, h14)) h14) fun v15 h15 =>
 b2 (gOp v11 true (some (s11, h15)) h15) fun v16 h16 =>
 b2 (gOp v11 true (b2 (rn k 42 [v15, v16] h16) fun v h => some (v, h)) h16) fun v17 h17 =>
 b2 (gOp v11 true ((un Tryz.prog .not v17).bind fun v => some (v, h17)) h17) fun v18 h18 =>
 (pickV v11 v18 (.bool false)).bind fun v19 =>
 aIf v19
  ((nilChk s0).bind fun v20 =>
  (fldA Tryz.prog 103 v20 2).bind fun v21 =>
  (ld Tryz.prog 82 h18 v21).bind fun v22 =>
  b2 (buildS Tryz.prog 82 h18 1 [(0, s11)]) fun v23 h23 =>
  b2 (ap Tryz.prog 82 82 h23 v22 v23) fun v24 h24 =>
  (nilChk s0).bind fun v25 =>
  (fldA Tryz.prog 103 v25 2).bind fun v26 =>
  (st Tryz.prog 82 h24 v26 v24).bind fun h27 =>
  some (.ret, (f16_X_L0 s11 (.int .i64 0)), h27))
  ((bin Tryz.prog .add 3 s11 (.int .i64 1)).bind fun v28 =>
  f16_L0 k s0 s10 v28 n h18))
 (some ((.exit 0), (f16_X_L0 unk unk), H)) := by kernel_rfl
theorem f16_A0_x0 (k : Nat) (s2 s3 : Value) (H : AH) : f16_A0 k (.exit 0) (f16_X_L0 s2 s3) H =
some ((.tuple #[(.int .i64 0), (.int .i64 6)]), H) := by kernel_rfl
theorem f16_A0_ret (k : Nat) (s2 s3 : Value) (H : AH) : f16_A0 k .ret (f16_X_L0 s2 s3) H =
some ((.tuple #[s2, s3]), H) := by kernel_rfl
theorem f16_eq (k : Nat) (a0 : Value) (H : AH) : rn (k + 1) 16 [a0] H =
(nilChk a0).bind fun v1 =>
(fldA Tryz.prog 103 v1 3).bind fun v2 =>
(ld Tryz.prog 4 H v2).bind fun v3 =>
aIf v3
 (some ((.tuple #[(.int .i64 0), (.int .i64 7)]), H))
 (b2 (rn k 41 [a0] H) fun v4 h4 =>
 (f16_L0 k a0 v4 (.int .i64 0) k h4).bind fun p => f16_A0 k p.1 p.2.1 p.2.2) := by kernel_rfl
abbrev f17_T_L0 (s0 s4 : Value) : List Value := [s0, unk, unk, unk, s4] ++ List.replicate 52 unk
abbrev f17_X_L0 (s2 s3 : Value) : List Value := [unk, unk, s2, s3] ++ List.replicate 53 unk
@[irreducible] def f17_L0 (k : Nat) (s0 s4 : Value) (n : Nat) (H : AH) : Option Out := iterD (fun T H K => evalK Tryz.prog (rn k) k (tbs 17) (codeAt (bodyOf Tryz.f17) [1, 1, 0, 1, 0, 0]) T H K) (cutT (tbs 17) 13) (cutT (tbs 17) 14) n (f17_T_L0 s0 s4) H
@[irreducible] def f17_A0 (k : Nat) (e : EX) (T : List Value) (H : AH) : Option (Value × AH) := resume Tryz.prog (rn k) k (tbs 17) (bodyOf Tryz.f17) [1, 1, 0, 1, 0] e T H (resK Tryz.prog Tryz.f17.results.toList)
theorem f17_L0_succ (k : Nat) (s0 s4 : Value) (n : Nat) (H : AH) : f17_L0 k s0 s4 (n + 1) H =
(nilChk s0).bind fun v4 =>
(fldA Tryz.prog 84 v4 3).bind fun v5 =>
(ld Tryz.prog 81 H v5).bind fun v6 =>
(lenV Tryz.prog 81 v6).bind fun v7 =>
(bin Tryz.prog .lss 3 s4 v7).bind fun v8 =>
aIf v8
 ((nilChk s0).bind fun v9 =>
 (fldA Tryz.prog 84 v9 3).bind fun v10 =>
 (ld Tryz.prog 81 H v10).bind fun v11 =>
 (ixA Tryz.prog 81 v11 s4).bind fun v12 =>
 (ld Tryz.prog 4 H v12).bind fun v13 =>
 (un Tryz.prog .not v13).bind fun v14 =>
 b2 (gOp v14 true (some (s0, H)) H) fun v15 h15 =>
 b2 (gOp v14 true ((nilChk v15).bind fun v => some (v, h15)) h15) fun v16 h16 =>
 b2 (gOp v14 true ((fldA Tryz.prog 84 v16 4).bind fun v => some (v, h16)) h16) fun v17 h17 =>
 b2 (gOp v14 true ((ld Tryz.prog 82 h17 v17).bind fun v => some (v, h17)) h17) fun v18 h18 =>
 b2 (gOp v14 true (some (s4, h18)) h18) fun v19 h19 =>
 b2 (gOp v14 true (b2 (rn k 43 [v18, v19] h19) fun v h => some (v, h)) h19) fun v20 h20 =>
 b2 (gOp v14 true ((un Tryz.prog .not v20).bind fun v => some (v, h20)) h20) fun v21 h21 =>
 (pickV v14 v21 (.bool false)).bind fun v22 =>
 aIf v22
  ((nilChk s0).bind fun v23 =>
  (fldA Tryz.prog 84 v23 4).bind fun v24 =>
  (ld Tryz.prog 82 h21 v24).bind fun v25 =>
  (nilChk s0).bind fun v26 =>
  (fldA Tryz.prog 84 v26 4).bind fun v27 =>
  (ld Tryz.prog 82 h21 v27).bind fun v28 =>
  (lenV Tryz.prog 82 v28).bind fun v29 =>
  (nilChk s0).bind fun v30 =>
  (fldA Tryz.prog 84 v30 4).bind fun v31 =>
  (ld Tryz.prog 82 h21 v31).bind fun v32 =>
  (lenV Tryz.prog 82 v32).bind fun v33 =>
  (slc3 Tryz.prog 82 h21 v25 none (some v29) v33).bind fun v34 =>
  b2 (buildS Tryz.prog 82 h21 1 [(0, s4)]) fun v35 h35 =>
  b2 (ap Tryz.prog 82 82 h35 v34 v35) fun v36 h36 =>
  (nilChk s0).bind fun v37 =>
  (fldA Tryz.prog 84 v37 4).bind fun v38 =>
  (st Tryz.prog 82 h36 v38 v36).bind fun h39 =>
  some (.ret, (f17_X_L0 s4 (.int .i64 0)), h39))
  ((bin Tryz.prog .add 3 s4 (.int .i64 1)).bind fun v40 =>
  f17_L0 k s0 v40 n h21))
 (some ((.exit 0), (f17_X_L0 unk unk), H)) := by kernel_rfl
theorem f17_A0_x0 (k : Nat) (s2 s3 : Value) (H : AH) : f17_A0 k (.exit 0) (f17_X_L0 s2 s3) H =
some ((.tuple #[(.int .i64 0), (.int .i64 6)]), H) := by kernel_rfl
theorem f17_A0_ret (k : Nat) (s2 s3 : Value) (H : AH) : f17_A0 k .ret (f17_X_L0 s2 s3) H =
some ((.tuple #[s2, s3]), H) := by kernel_rfl
theorem f17_eq (k : Nat) (a0 : Value) (H : AH) : rn (k + 1) 17 [a0] H =
(nilChk a0).bind fun v1 =>
(fldA Tryz.prog 84 v1 5).bind fun v2 =>
(ld Tryz.prog 4 H v2).bind fun v3 =>
aIf v3
 (some ((.tuple #[(.int .i64 0), (.int .i64 7)]), H))
 ((f17_L0 k a0 (.int .i64 0) k H).bind fun p => f17_A0 k p.1 p.2.1 p.2.2) := by kernel_rfl
theorem f18_eq (k : Nat) (a0 a1 a2 a3 : Value) (H : AH) : rn (k + 1) 18 [a0, a1, a2, a3] H =
(nilChk a0).bind fun v1 =>
(fldA Tryz.prog 103 v1 3).bind fun v2 =>
(ld Tryz.prog 4 H v2).bind fun v3 =>
aIf v3
 (some ((.int .i64 7), H))
 ((nilChk a0).bind fun v4 =>
 (fldA Tryz.prog 103 v4 2).bind fun v5 =>
 (ld Tryz.prog 82 H v5).bind fun v6 =>
 b2 (rn k 42 [v6, a1] H) fun v7 h7 =>
 (un Tryz.prog .not v7).bind fun v8 =>
 aIf v8
  (some ((.int .i64 8), h7))
  ((nilChk a0).bind fun v9 =>
  (fldA Tryz.prog 103 v9 1).bind fun v10 =>
  (ld Tryz.prog 30 h7 v10).bind fun v11 =>
  b2 (rn k 45 [v11, a1, a2, a3] h7) fun v12 h12 =>
  b2 (rn k 44 [a0, v12] h12) fun v13 h13 =>
  some (v13, h13))) := by kernel_rfl
theorem f19_eq (k : Nat) (a0 a1 a2 a3 : Value) (H : AH) : rn (k + 1) 19 [a0, a1, a2, a3] H =
(nilChk a0).bind fun v1 =>
(fldA Tryz.prog 84 v1 5).bind fun v2 =>
(ld Tryz.prog 4 H v2).bind fun v3 =>
aIf v3
 (some ((.int .i64 7), H))
 ((nilChk a0).bind fun v4 =>
 (fldA Tryz.prog 84 v4 4).bind fun v5 =>
 (ld Tryz.prog 82 H v5).bind fun v6 =>
 b2 (rn k 43 [v6, a1] H) fun v7 h7 =>
 (un Tryz.prog .not v7).bind fun v8 =>
 aIf v8
  (some ((.int .i64 8), h7))
  ((nilChk a0).bind fun v9 =>
  (fldA Tryz.prog 84 v9 0).bind fun v10 =>
  (ld Tryz.prog 31 h7 v10).bind fun v11 =>
  b2 (rn k 47 [v11, a1, a2, a3] h7) fun v12 h12 =>
  b2 (rn k 46 [a0, v12] h12) fun v13 h13 =>
  some (v13, h13))) := by kernel_rfl
abbrev f20_T_L0 (s0 s1 s5 : Value) : List Value := [s0, s1, unk, unk, unk, s5] ++ List.replicate 67 unk
abbrev f20_X_L0 (s4 : Value) : List Value := [unk, unk, unk, unk, s4] ++ List.replicate 68 unk
@[irreducible] def f20_L0 (k : Nat) (s0 s1 s5 : Value) (n : Nat) (H : AH) : Option Out := iterD (fun T H K => evalK Tryz.prog (rn k) k (tbs 20) (codeAt (bodyOf Tryz.f20) [1, 1, 0, 1, 0, 0]) T H K) (cutT (tbs 20) 13) (cutT (tbs 20) 14) n (f20_T_L0 s0 s1 s5) H
@[irreducible] def f20_A0 (k : Nat) (e : EX) (T : List Value) (H : AH) : Option (Value × AH) := resume Tryz.prog (rn k) k (tbs 20) (bodyOf Tryz.f20) [1, 1, 0, 1, 0] e T H (resK Tryz.prog Tryz.f20.results.toList)
theorem f20_L0_succ (k : Nat) (s0 s1 s5 : Value) (n : Nat) (H : AH) : f20_L0 k s0 s1 s5 (n + 1) H =
(nilChk s1).bind fun v24 =>
(fldA Tryz.prog 54 v24 0).bind fun v25 =>
(ld Tryz.prog 51 H v25).bind fun v26 =>
(lenV Tryz.prog 51 v26).bind fun v27 =>
(bin Tryz.prog .lss 3 s5 v27).bind fun v28 =>
b2 (gOp v28 true (some (s1, H)) H) fun v29 h29 =>
b2 (gOp v28 true ((nilChk v29).bind fun v => some (v, h29)) h29) fun v30 h30 =>
b2 (gOp v28 true ((fldA Tryz.prog 54 v30 3).bind fun v => some (v, h30)) h30) fun v31 h31 =>
b2 (gOp v28 true ((ld Tryz.prog 4 h31 v31).bind fun v => some (v, h31)) h31) fun v32 h32 =>
b2 (gOp v28 true ((un Tryz.prog .not v32).bind fun v => some (v, h32)) h32) fun v33 h33 =>
(pickV v28 v33 (.bool false)).bind fun v34 =>
aIf v34
 (b2 (rn k 51 [s0, s5] h33) fun v35 h35 =>
 (ext v35 0).bind fun v36 =>
 (ext v35 1).bind fun v37 =>
 b2 (rn k 52 [s1, s5] h35) fun v38 h38 =>
 (ext v38 0).bind fun v39 =>
 (ext v38 1).bind fun v40 =>
 (bin Tryz.prog .neq 9 v36 v39).bind fun v41 =>
 b2 (gOp v41 false (some (v37, h38)) h38) fun v42 h42 =>
 b2 (gOp v41 false (some (v40, h42)) h42) fun v43 h43 =>
 b2 (gOp v41 false ((bin Tryz.prog .neq 3 v42 v43).bind fun v => some (v, h43)) h43) fun v44 h44 =>
 (pickV v41 (.bool true) v44).bind fun v45 =>
 aIf v45
  (some (.ret, (f20_X_L0 (.bool false)), h44))
  ((bin Tryz.prog .add 3 s5 (.int .i64 1)).bind fun v46 =>
  f20_L0 k s0 s1 v46 n h44))
 (some ((.exit 0), (f20_X_L0 unk), h33)) := by kernel_rfl
theorem f20_A0_x0 (k : Nat) (s4 : Value) (H : AH) : f20_A0 k (.exit 0) (f20_X_L0 s4) H =
some ((.bool true), H) := by kernel_rfl
theorem f20_eq (k : Nat) (a0 a1 : Value) (H : AH) : rn (k + 1) 20 [a0, a1] H =
b2 (rn k 48 [a0] H) fun v1 h1 =>
(nilChk a1).bind fun v2 =>
(fldA Tryz.prog 54 v2 3).bind fun v3 =>
(ld Tryz.prog 4 h1 v3).bind fun v4 =>
aChk (ld Tryz.prog 4 H v3 = some v4) <|
(bin Tryz.prog .neq 4 v1 v4).bind fun v5 =>
b2 (gOp v5 false (some (a0, h1)) h1) fun v6 h6 =>
b2 (gOp v5 false (b2 (rn k 49 [v6] h6) fun v h => some (v, h)) h6) fun v7 h7 =>
b2 (gOp v5 false (some (a1, h7)) h7) fun v8 h8 =>
b2 (gOp v5 false ((nilChk v8).bind fun v => some (v, h8)) h8) fun v9 h9 =>
b2 (gOp v5 false ((fldA Tryz.prog 54 v9 0).bind fun v => some (v, h9)) h9) fun v10 h10 =>
b2 (gOp v5 false ((ld Tryz.prog 51 h10 v10).bind fun v => some (v, h10)) h10) fun v11 h11 =>
aChk (v5 = .bool false → ld Tryz.prog 51 h6 v10 = some v11) <|
b2 (gOp v5 false ((lenV Tryz.prog 51 v11).bind fun v => some (v, h10)) h10) fun v12 h12 =>
b2 (gOp v5 false ((bin Tryz.prog .neq 3 v7 v12).bind fun v => some (v, h12)) h12) fun v13 h13 =>
(pickV v5 (.bool true) v13).bind fun v14 =>
b2 (gOp v14 false (some (a0, h13)) h13) fun v15 h15 =>
b2 (gOp v14 false (b2 (rn k 50 [v15] h15) fun v h => some (v, h)) h15) fun v16 h16 =>
b2 (gOp v14 false (some (a1, h16)) h16) fun v17 h17 =>
b2 (gOp v14 false ((nilChk v17).bind fun v => some (v, h17)) h17) fun v18 h18 =>
b2 (gOp v14 false ((fldA Tryz.prog 54 v18 1).bind fun v => some (v, h18)) h18) fun v19 h19 =>
b2 (gOp v14 false ((ld Tryz.prog 52 h19 v19).bind fun v => some (v, h19)) h19) fun v20 h20 =>
aChk (v14 = .bool false → ld Tryz.prog 52 h15 v19 = some v20) <|
b2 (gOp v14 false ((lenV Tryz.prog 52 v20).bind fun v => some (v, h19)) h19) fun v21 h21 =>
b2 (gOp v14 false ((bin Tryz.prog .neq 3 v16 v21).bind fun v => some (v, h21)) h21) fun v22 h22 =>
(pickV v14 (.bool true) v22).bind fun v23 =>
aIf v23
 (some ((.bool false), h22))
 ((f20_L0 k a0 a1 (.int .i64 0) k h22).bind fun p => f20_A0 k p.1 p.2.1 p.2.2) := by kernel_rfl
abbrev f21_T_L0 (s4 s14 s15 s16 : Value) : List Value := [unk, unk, unk, unk, s4] ++ List.replicate 9 unk ++ [s14, s15, s16] ++ List.replicate 13 unk
abbrev f21_X_L0 (s4 : Value) : List Value := [unk, unk, unk, unk, s4] ++ List.replicate 25 unk
@[irreducible] def f21_L0 (k : Nat) (s4 s14 s15 s16 : Value) (n : Nat) (H : AH) : Option Out := iterD (fun T H K => evalK Tryz.prog (rn k) k (tbs 21) (codeAt (bodyOf Tryz.f21) [1, 1, 1, 0, 1, 0, 0]) T H K) (cutT (tbs 21) 16) (cutT (tbs 21) 17) n (f21_T_L0 s4 s14 s15 s16) H
@[irreducible] def f21_A0 (k : Nat) (e : EX) (T : List Value) (H : AH) : Option (Value × AH) := resume Tryz.prog (rn k) k (tbs 21) (bodyOf Tryz.f21) [1, 1, 1, 0, 1, 0] e T H (resK Tryz.prog Tryz.f21.results.toList)
theorem f21_L0_succ (k : Nat) (s4 s14 s15 s16 : Value) (n : Nat) (H : AH) : f21_L0 k s4 s14 s15 s16 (n + 1) H =
(bin Tryz.prog .lss 3 s16 s15).bind fun v11 =>
aIf v11
 ((ixA Tryz.prog 22 s14 s16).bind fun v12 =>
 (ld Tryz.prog 71 H v12).bind fun v13 =>
 b2 (newV Tryz.prog 71 H) fun v14 h14 =>
 (st Tryz.prog 71 h14 v14 v13).bind fun h15 =>
 (fldA Tryz.prog 71 v14 0).bind fun v16 =>
 (ld Tryz.prog 3 h15 v16).bind fun v17 =>
 (fldA Tryz.prog 71 v14 1).bind fun v18 =>
 (ld Tryz.prog 3 h15 v18).bind fun v19 =>
 b2 (buildS Tryz.prog 82 h15 4 [(0, (.int .i64 4)), (1, v17), (2, (.int .i64 2)), (3, v19)]) fun v20 h20 =>
 b2 (ap Tryz.prog 82 82 h20 s4 v20) fun v21 h21 =>
 (bin Tryz.prog .add 3 s16 (.int .i64 1)).bind fun v22 =>
 f21_L0 k v21 s14 s15 v22 n h21)
 (some ((.exit 0), (f21_X_L0 s4), H)) := by kernel_rfl
theorem f21_A0_x0 (k : Nat) (s4 : Value) (H : AH) : f21_A0 k (.exit 0) (f21_X_L0 s4) H =
b2 (rn k 54 [s4] H) fun v23 h23 =>
some ((.tuple #[v23, (.int .i64 0)]), h23) := by kernel_rfl
theorem f21_eq (k : Nat) (a0 : Value) (H : AH) : rn (k + 1) 21 [a0] H =
b2 (box 24 H a0) fun v1 h1 =>
(ld Tryz.prog 24 h1 v1).bind fun v2 =>
b2 (rn k 53 [v2] h1) fun v3 h3 =>
(un Tryz.prog .not v3).bind fun v4 =>
aIf v4
 (some ((.tuple #[(.string ⟨#[]⟩), (.int .i64 1)]), h3))
 ((fldA Tryz.prog 24 v1 0).bind fun v5 =>
 (ld Tryz.prog 3 h3 v5).bind fun v6 =>
 b2 (buildS Tryz.prog 82 h3 2 [(0, (.int .i64 4)), (1, v6)]) fun v7 h7 =>
 (fldA Tryz.prog 24 v1 1).bind fun v8 =>
 (ld Tryz.prog 22 h7 v8).bind fun v9 =>
 (lenV Tryz.prog 22 v9).bind fun v10 =>
 (f21_L0 k v7 v9 v10 (.int .i64 0) k h7).bind fun p => f21_A0 k p.1 p.2.1 p.2.2) := by kernel_rfl
theorem f22_eq (k : Nat) (a0 a1 : Value) (H : AH) : rn (k + 1) 22 [a0, a1] H =
b2 (box 24 H a0) fun v1 h1 =>
b2 (newV Tryz.prog 24 h1) fun v2 h2 =>
(ld Tryz.prog 24 h2 v1).bind fun v3 =>
b2 (rn k 53 [v3] h2) fun v4 h4 =>
(un Tryz.prog .not v4).bind fun v5 =>
b2 (gOp v5 false ((fldA Tryz.prog 24 v1 1).bind fun v => some (v, h4)) h4) fun v6 h6 =>
b2 (gOp v5 false ((ld Tryz.prog 22 h6 v6).bind fun v => some (v, h6)) h6) fun v7 h7 =>
b2 (gOp v5 false ((lenV Tryz.prog 22 v7).bind fun v => some (v, h7)) h7) fun v8 h8 =>
b2 (gOp v5 false ((bin Tryz.prog .eql 3 v8 (.int .i64 12)).bind fun v => some (v, h8)) h8) fun v9 h9 =>
(pickV v5 (.bool true) v9).bind fun v10 =>
b2 (gOp v10 false ((fldA Tryz.prog 24 v1 0).bind fun v => some (v, h9)) h9) fun v11 h11 =>
b2 (gOp v10 false ((ld Tryz.prog 3 h11 v11).bind fun v => some (v, h11)) h11) fun v12 h12 =>
b2 (gOp v10 false ((bin Tryz.prog .eql 3 v12 (.int .i64 16777216)).bind fun v => some (v, h12)) h12) fun v13 h13 =>
(pickV v10 (.bool true) v13).bind fun v14 =>
b2 (gOp v14 false (some (a1, h13)) h13) fun v15 h15 =>
b2 (gOp v14 false (b2 (rn k 55 [v15] h15) fun v h => some (v, h)) h15) fun v16 h16 =>
b2 (gOp v14 false ((un Tryz.prog .not v16).bind fun v => some (v, h16)) h16) fun v17 h17 =>
(pickV v14 (.bool true) v17).bind fun v18 =>
aIf v18
 ((build Tryz.prog 24 []).bind fun v19 =>
 (st Tryz.prog 24 h17 v2 v19).bind fun h20 =>
 ((ld Tryz.prog 24 h20 v2).bind fun v21 => some (v21 :: ((.bool false) :: []))).bind fun vs => some (oneOf vs, h20))
 ((fldA Tryz.prog 24 v1 0).bind fun v22 =>
 (ld Tryz.prog 3 h17 v22).bind fun v23 =>
 (bin Tryz.prog .add 3 v23 (.int .i64 1)).bind fun v24 =>
 (fldA Tryz.prog 24 v1 1).bind fun v25 =>
 (ld Tryz.prog 22 h17 v25).bind fun v26 =>
 b2 (rn k 56 [v26] h17) fun v27 h27 =>
 aChk (ld Tryz.prog 3 h27 v22 = some v23) <|
 (fldA Tryz.prog 24 v1 0).bind fun v28 =>
 (ld Tryz.prog 3 h27 v28).bind fun v29 =>
 aChk (ld Tryz.prog 3 h17 v28 = some v29) <|
 (build Tryz.prog 71 [(0, v29), (1, a1)]).bind fun v30 =>
 b2 (buildS Tryz.prog 22 h27 1 [(0, v30)]) fun v31 h31 =>
 b2 (ap Tryz.prog 22 22 h31 v27 v31) fun v32 h32 =>
 aChk (ld Tryz.prog 3 h32 v22 = some v23) <|
 (build Tryz.prog 24 [(0, v24), (1, v32)]).bind fun v33 =>
 (st Tryz.prog 24 h32 v2 v33).bind fun h34 =>
 ((ld Tryz.prog 24 h34 v2).bind fun v35 => some (v35 :: ((.bool true) :: []))).bind fun vs => some (oneOf vs, h34)) := by kernel_rfl
theorem f23_eq (k : Nat) (a0 a1 : Value) (H : AH) : rn (k + 1) 23 [a0, a1] H =
b2 (box 24 H a0) fun v1 h1 =>
b2 (box 3 h1 a1) fun v2 h2 =>
(ld Tryz.prog 3 h2 v2).bind fun v3 =>
(bin Tryz.prog .eql 3 v3 (.int .i64 0)).bind fun v4 =>
aIf v4
 ((fldA Tryz.prog 24 v1 1).bind fun v5 =>
 (ld Tryz.prog 22 h2 v5).bind fun v6 =>
 (lenV Tryz.prog 22 v6).bind fun v7 =>
 (bin Tryz.prog .sub 3 v7 (.int .i64 1)).bind fun v8 =>
 (fold1 maxV [v8, (.int .i64 0)]).bind fun v9 =>
 (fldA Tryz.prog 24 v1 1).bind fun v10 =>
 (ld Tryz.prog 22 h2 v10).bind fun v11 =>
 (lenV Tryz.prog 22 v11).bind fun v12 =>
 (bin Tryz.prog .gtr 3 v12 (.int .i64 0)).bind fun v13 =>
 some ((.tuple #[v9, v13]), h2))
 ((fldA Tryz.prog 24 v1 1).bind fun v14 =>
 (ld Tryz.prog 22 h2 v14).bind fun v15 =>
 b2 (rn k 57 [v15, (.func (.func 58) #[] #[v2])] h2) fun v16 h16 =>
 (fold1 maxV [v16, (.int .i64 0)]).bind fun v17 =>
 (bin Tryz.prog .geq 3 v16 (.int .i64 0)).bind fun v18 =>
 some ((.tuple #[v17, v18]), h16)) := by kernel_rfl
abbrev f24_T_L0 (s2 s4 s5 : Value) : List Value := [unk, unk, s2, unk, s4, s5] ++ List.replicate 38 unk
abbrev f24_X_L0 (s2 s4 : Value) : List Value := [unk, unk, s2, unk, s4] ++ List.replicate 39 unk
@[irreducible] def f24_L0 (k : Nat) (s2 s4 s5 : Value) (n : Nat) (H : AH) : Option Out := iterD (fun T H K => evalK Tryz.prog (rn k) k (tbs 24) (codeAt (bodyOf Tryz.f24) [1, 1, 1, 0, 1, 0, 0]) T H K) (cutT (tbs 24) 16) (cutT (tbs 24) 17) n (f24_T_L0 s2 s4 s5) H
@[irreducible] def f24_A0 (k : Nat) (e : EX) (T : List Value) (H : AH) : Option (Value × AH) := resume Tryz.prog (rn k) k (tbs 24) (bodyOf Tryz.f24) [1, 1, 1, 0, 1, 0] e T H (resK Tryz.prog Tryz.f24.results.toList)
theorem f24_L0_succ (k : Nat) (s2 s4 s5 : Value) (n : Nat) (H : AH) : f24_L0 k s2 s4 s5 (n + 1) H =
(bin Tryz.prog .neq 9 s5 (.string ⟨#[]⟩)).bind fun v19 =>
aIf v19
 ((fldA Tryz.prog 24 s4 1).bind fun v20 =>
 (ld Tryz.prog 22 H v20).bind fun v21 =>
 (slc Tryz.prog 9 s5 none (some (.int .i64 4))).bind fun v22 =>
 b2 (rn k 59 [v22] H) fun v23 h23 =>
 aChk (ld Tryz.prog 22 h23 v20 = some v21) <|
 (slc Tryz.prog 9 s5 (some (.int .i64 4)) (some (.int .i64 6))).bind fun v24 =>
 b2 (rn k 59 [v24] h23) fun v25 h25 =>
 aChk (ld Tryz.prog 22 h25 v20 = some v21) <|
 (build Tryz.prog 71 [(0, v23), (1, v25)]).bind fun v26 =>
 b2 (buildS Tryz.prog 22 h25 1 [(0, v26)]) fun v27 h27 =>
 b2 (ap Tryz.prog 22 22 h27 v21 v27) fun v28 h28 =>
 (fldA Tryz.prog 24 s4 1).bind fun v29 =>
 (st Tryz.prog 22 h28 v29 v28).bind fun h30 =>
 (slc Tryz.prog 9 s5 (some (.int .i64 6)) none).bind fun v31 =>
 f24_L0 k s2 s4 v31 n h30)
 (some ((.exit 0), (f24_X_L0 s2 s4), H)) := by kernel_rfl
theorem f24_A0_x0 (k : Nat) (s2 s4 : Value) (H : AH) : f24_A0 k (.exit 0) (f24_X_L0 s2 s4) H =
(ld Tryz.prog 24 H s4).bind fun v32 =>
b2 (rn k 53 [v32] H) fun v33 h33 =>
(un Tryz.prog .not v33).bind fun v34 =>
aIf v34
 ((build Tryz.prog 24 []).bind fun v35 =>
 (st Tryz.prog 24 h33 s2 v35).bind fun h36 =>
 ((ld Tryz.prog 24 h36 s2).bind fun v37 => some (v37 :: ((.int .i64 2) :: []))).bind fun vs => some (oneOf vs, h36))
 ((ld Tryz.prog 24 h33 s4).bind fun v38 =>
 (st Tryz.prog 24 h33 s2 v38).bind fun h39 =>
 ((ld Tryz.prog 24 h39 s2).bind fun v40 => some (v40 :: ((.int .i64 0) :: []))).bind fun vs => some (oneOf vs, h39)) := by kernel_rfl
theorem f24_eq (k : Nat) (a0 : Value) (H : AH) : rn (k + 1) 24 [a0] H =
b2 (newV Tryz.prog 24 H) fun v1 h1 =>
(lenV Tryz.prog 9 a0).bind fun v2 =>
(bin Tryz.prog .lss 3 v2 (.int .i64 4)).bind fun v3 =>
b2 (gOp v3 false (some (a0, h1)) h1) fun v4 h4 =>
b2 (gOp v3 false ((lenV Tryz.prog 9 v4).bind fun v => some (v, h4)) h4) fun v5 h5 =>
b2 (gOp v3 false ((bin Tryz.prog .sub 3 v5 (.int .i64 4)).bind fun v => some (v, h5)) h5) fun v6 h6 =>
b2 (gOp v3 false ((bin Tryz.prog .rem 3 v6 (.int .i64 6)).bind fun v => some (v, h6)) h6) fun v7 h7 =>
b2 (gOp v3 false ((bin Tryz.prog .neq 3 v7 (.int .i64 0)).bind fun v => some (v, h7)) h7) fun v8 h8 =>
(pickV v3 (.bool true) v8).bind fun v9 =>
aIf v9
 ((build Tryz.prog 24 []).bind fun v10 =>
 (st Tryz.prog 24 h8 v1 v10).bind fun h11 =>
 ((ld Tryz.prog 24 h11 v1).bind fun v12 => some (v12 :: ((.int .i64 2) :: []))).bind fun vs => some (oneOf vs, h11))
 ((slc Tryz.prog 9 a0 none (some (.int .i64 4))).bind fun v13 =>
 b2 (rn k 59 [v13] h8) fun v14 h14 =>
 (build Tryz.prog 24 [(0, v14)]).bind fun v15 =>
 b2 (newV Tryz.prog 24 h14) fun v16 h16 =>
 (st Tryz.prog 24 h16 v16 v15).bind fun h17 =>
 (slc Tryz.prog 9 a0 (some (.int .i64 4)) none).bind fun v18 =>
 (f24_L0 k v1 v16 v18 k h17).bind fun p => f24_A0 k p.1 p.2.1 p.2.2) := by kernel_rfl
theorem f25_eq (k : Nat) (a0 : Value) (H : AH) : rn (k + 1) 25 [a0] H =
b2 (rn k 60 [a0] H) fun v1 h1 =>
(ext v1 0).bind fun v2 =>
(ext v1 1).bind fun v3 =>
b2 (rn k 61 [a0] h1) fun v4 h4 =>
(bin Tryz.prog .neq 30 v2 (.pointer none)).bind fun v5 =>
b2 (gOp v5 true (some (v3, h4)) h4) fun v6 h6 =>
b2 (gOp v5 true ((bin Tryz.prog .eql 36 v6 (.int .i64 0)).bind fun v => some (v, h6)) h6) fun v7 h7 =>
(pickV v5 v7 (.bool false)).bind fun v8 =>
some ((.tuple #[v2, v4, v8]), h7) := by kernel_rfl
theorem f26_eq (k : Nat) (a0 : Value) (H : AH) : rn (k + 1) 26 [a0] H =
b2 (rn k 62 [a0] H) fun v1 h1 =>
(bin Tryz.prog .lss 3 v1 (.int .i64 4)).bind fun v2 =>
aIf v2
 (some ((.tuple #[(.pointer none), (.int .i64 1)]), h1))
 (b2 (mkM 99 h1) fun v3 h3 =>
 (mpU Tryz.prog 99 h3 v3 (.int .i64 0) (.bool true)).bind fun h4 =>
 (mpU Tryz.prog 99 h4 v3 (.int .i64 1) (.bool true)).bind fun h5 =>
 (build Tryz.prog 101 [(0, (.int .i64 1)), (2, v3)]).bind fun v6 =>
 (build Tryz.prog 103 [(1, a0), (0, v6)]).bind fun v7 =>
 b2 (box 103 h5 v7) fun v8 h8 =>
 (nilChk v8).bind fun v9 =>
 (fldA Tryz.prog 103 v9 0).bind fun v10 =>
 (ld Tryz.prog 101 h8 v10).bind fun v11 =>
 b2 (rn k 63 [v11, a0] h8) fun v12 h12 =>
 (bin Tryz.prog .neq 36 v12 (.int .i64 0)).bind fun v13 =>
 aIf v13
  (some ((.tuple #[(.pointer none), v12]), h12))
  (b2 (rn k 64 [a0] h12) fun v14 h14 =>
  (bin Tryz.prog .neq 36 v14 (.int .i64 0)).bind fun v15 =>
  aIf v15
   (some ((.tuple #[(.pointer none), v14]), h14))
   (some ((.tuple #[v8, (.int .i64 0)]), h14)))) := by kernel_rfl
abbrev f27_T_J0 (s0 s4 s5 : Value) : List Value := [s0, unk, unk, unk, s4, s5] ++ List.replicate 25 unk
@[irreducible] def f27_J0 (k : Nat) (s0 s4 s5 : Value) (H : AH) : Option (Value × AH) := resume Tryz.prog (rn k) k (tbs 27) (bodyOf Tryz.f27) [1, 1, 1, 1, 1, 1, 0] .normal (f27_T_J0 s0 s4 s5) H (resK Tryz.prog Tryz.f27.results.toList)
theorem f27_J0_eq (k : Nat) (s0 s4 s5 : Value) (H : AH) : f27_J0 k s0 s4 s5 H =
(bin Tryz.prog .neq 3 s5 (.int .i64 0)).bind fun v13 =>
aIf v13
 (some ((.tuple #[(.pointer none), s5]), H))
 ((build Tryz.prog 84 [(0, s0), (1, (.int .i64 1)), (3, s4)]).bind fun v14 =>
 b2 (box 84 H v14) fun v15 h15 =>
 some ((.tuple #[v15, (.int .i64 0)]), h15)) := by kernel_rfl
theorem f27_eq (k : Nat) (a0 : Value) (H : AH) : rn (k + 1) 27 [a0] H =
b2 (rn k 65 [a0] H) fun v1 h1 =>
(bin Tryz.prog .lss 3 v1 (.int .i64 4)).bind fun v2 =>
aIf v2
 (some ((.tuple #[(.pointer none), (.int .i64 1)]), h1))
 (b2 (rn k 65 [a0] h1) fun v3 h3 =>
 b2 (mkS Tryz.prog 81 h3 v3 v3) fun v4 h4 =>
 (ixA Tryz.prog 81 v4 (.int .i64 0)).bind fun v5 =>
 (st Tryz.prog 4 h4 v5 (.bool true)).bind fun h6 =>
 (ixA Tryz.prog 81 v4 (.int .i64 1)).bind fun v7 =>
 (st Tryz.prog 4 h6 v7 (.bool true)).bind fun h8 =>
 b2 (rn k 66 [(.int .i64 1), (.int .i64 0), v4] h8) fun v9 h9 =>
 b2 (rn k 47 [a0, (.int .i64 1), (.int .i64 1), v9] h9) fun v10 h10 =>
 (bin Tryz.prog .eql 3 v10 (.int .i64 0)).bind fun v11 =>
 aIf v11
  (b2 (rn k 67 [a0] h10) fun v12 h12 =>
  f27_J0 k a0 v4 v12 h12)
  (f27_J0 k a0 v4 v10 h10)) := by kernel_rfl
theorem f28_eq (k : Nat) (a0 a1 a2 a3 a4 : Value) (H : AH) : rn (k + 1) 28 [a0, a1, a2, a3, a4] H =
(nilChk a0).bind fun v1 =>
(fldA Tryz.prog 35 v1 2).bind fun v2 =>
(st Tryz.prog 32 H v2 a1).bind fun h3 =>
(nilChk a0).bind fun v4 =>
(fldA Tryz.prog 35 v4 3).bind fun v5 =>
(st Tryz.prog 33 h3 v5 a3).bind fun h6 =>
(bin Tryz.prog .eql 32 a1 (.pointer none)).bind fun v7 =>
(bin Tryz.prog .eql 33 a3 (.pointer none)).bind fun v8 =>
(bin Tryz.prog .eql 4 v7 v8).bind fun v9 =>
b2 (gOp v9 true (some (a2, h6)) h6) fun v10 h10 =>
b2 (gOp v9 true (some (a4, h10)) h10) fun v11 h11 =>
b2 (gOp v9 true ((bin Tryz.prog .eql 3 v10 v11).bind fun v => some (v, h11)) h11) fun v12 h12 =>
(pickV v9 v12 (.bool false)).bind fun v13 =>
some (v13, h12) := by kernel_rfl
theorem f29_eq (k : Nat) (a0 : Value) (H : AH) : rn (k + 1) 29 [a0] H =
(nilChk a0).bind fun v1 =>
(fldA Tryz.prog 103 v1 0).bind fun v2 =>
(fldA Tryz.prog 101 v2 1).bind fun v3 =>
(ld Tryz.prog 3 H v3).bind fun v4 =>
some (v4, H) := by kernel_rfl
abbrev f30_T_R0 (s4 s5 s6 : Value) : List Value := [unk, unk, unk, unk, s4, s5, s6, unk, unk, unk, unk, unk, unk, unk, unk, unk, unk, unk, unk, unk, unk]
abbrev f30_X_R0 (s4 s5 s6 : Value) : List Value := [unk, unk, unk, unk, s4, s5, s6] ++ List.replicate 14 unk
@[irreducible] def f30_B0 (k : Nat) (s4 s5 s6 : Value) (e : EX) (H : AH) : Option (Value × AH) := resume Tryz.prog (rn k) k (tbs 30) (bodyOf Tryz.f30) [1, 1, 0, 1, 0] e (f30_X_R0 s4 s5 s6) H (resK Tryz.prog Tryz.f30.results.toList)
theorem f30_B0_normal (k : Nat) (s4 s5 s6 : Value) (H : AH) : f30_B0 k s4 s5 s6 .normal H =
b2 (rn k 70 [s6] H) fun v5 h5 =>
(st Tryz.prog 9 h5 s4 v5).bind fun h6 =>
(st Tryz.prog 36 h6 s5 (.int .i64 0)).bind fun h7 =>
((ld Tryz.prog 9 h7 s4).bind fun v8 => ((ld Tryz.prog 36 h7 s5).bind fun v9 => some (v9 :: [])).bind fun vs => some (v8 :: vs)).bind fun vs => some (oneOf vs, h7) := by kernel_rfl
theorem f30_B0_ret (k : Nat) (s4 s5 s6 : Value) (H : AH) : f30_B0 k s4 s5 s6 .ret H =
((ld Tryz.prog 9 H s4).bind fun v10 => ((ld Tryz.prog 36 H s5).bind fun v11 => some (v11 :: [])).bind fun vs => some (v10 :: vs)).bind fun vs => some (oneOf vs, H) := by kernel_rfl
theorem f30_Y0_eq (k : Nat) (s4 s5 s6 : Value) (x0 : Value) (b : Nat) (H : AH) (hb : blk H b = some ⟨.int .i64 0 :: f30_T_R0 s4 s5 s6, 4, .loop 30 4⟩) : rn (k + 1) (yOff + b) [x0] H =
b2 (newV Tryz.prog 134 H) fun v12 h12 =>
(st Tryz.prog 134 h12 v12 x0).bind fun h13 =>
(setSt h13 b 0 1).bind fun h0 =>
(fldA Tryz.prog 134 v12 2).bind fun v14 =>
(ld Tryz.prog 36 h0 v14).bind fun v15 =>
(bin Tryz.prog .neq 36 v15 (.int .i64 0)).bind fun v16 =>
aIf v16
 ((fldA Tryz.prog 134 v12 2).bind fun v17 =>
 (ld Tryz.prog 36 h0 v17).bind fun v18 =>
 (st Tryz.prog 9 h0 s4 (.string ⟨#[]⟩)).bind fun h19 =>
 aChk (ld Tryz.prog 36 h19 v17 = some v18) <|
 (st Tryz.prog 36 h19 s5 v18).bind fun h20 =>
 (setSt h20 b 1 2).bind fun h => some (.bool false, h))
 ((fldA Tryz.prog 134 v12 1).bind fun v21 =>
 (ld Tryz.prog 9 h0 v21).bind fun v22 =>
 b2 (rn k 69 [s6, v22] h0) fun v23 h23 =>
 (setSt h23 b 1 0).bind fun h => some (.bool true, h)) := (run_round hb).trans (by kernel_rfl)
theorem f30_eq (k : Nat) (a0 a1 : Value) (H : AH) : rn (k + 1) 30 [a0, a1] H =
b2 (newV Tryz.prog 9 H) fun v1 h1 =>
b2 (newV Tryz.prog 36 h1) fun v2 h2 =>
b2 (newV Tryz.prog 129 h2) fun v3 h3 =>
b2 (rn k 68 [a0, a1] h3) fun v4 h4 =>
b2 (callV (rn k) v4 [(.func (.yield (List.length h4)) #[] #[])] (mkB h4 (.int .i64 0 :: (f30_T_R0 v1 v2 v3)) 4 (.loop 30 4))) fun v h => rgBack (List.length h4) h fun e h => f30_B0 k v1 v2 v3 e h := by kernel_rfl
theorem f31_eq (k : Nat) (a0 a1 : Value) (H : AH) : rn (k + 1) 31 [a0, a1] H =
b2 (rn k 71 [a0, a1] H) fun v1 h1 =>
(ext v1 0).bind fun v2 =>
(ext v1 1).bind fun v3 =>
(ext v1 2).bind fun v4 =>
some ((.tuple #[v3, v4]), h1) := by kernel_rfl
abbrev f32_T_L0 (s0 s2 s4 s5 : Value) : List Value := [s0, unk, s2, unk, s4, s5] ++ List.replicate 49 unk
abbrev f32_X_L0 (s2 s4 : Value) : List Value := [unk, unk, s2, unk, s4] ++ List.replicate 50 unk
@[irreducible] def f32_L0 (k : Nat) (s0 s2 s4 s5 : Value) (n : Nat) (H : AH) : Option Out := iterD (fun T H K => evalK Tryz.prog (rn k) k (tbs 32) (codeAt (bodyOf Tryz.f32) [1, 1, 1, 0, 1, 0, 0]) T H K) (cutT (tbs 32) 16) (cutT (tbs 32) 17) n (f32_T_L0 s0 s2 s4 s5) H
@[irreducible] def f32_A0 (k : Nat) (e : EX) (T : List Value) (H : AH) : Option (Value × AH) := resume Tryz.prog (rn k) k (tbs 32) (bodyOf Tryz.f32) [1, 1, 1, 0, 1, 0] e T H (resK Tryz.prog Tryz.f32.results.toList)
theorem f32_L0_succ (k : Nat) (s0 s2 s4 s5 : Value) (n : Nat) (H : AH) : f32_L0 k s0 s2 s4 s5 (n + 1) H =
(lenV Tryz.prog 9 s0).bind fun v17 =>
(bin Tryz.prog .lss 3 s5 v17).bind fun v18 =>
aIf v18
 ((fldA Tryz.prog 41 s4 1).bind fun v19 =>
 (ld Tryz.prog 39 H v19).bind fun v20 =>
 (slc Tryz.prog 9 s0 (some s5) none).bind fun v21 =>
 b2 (rn k 72 [v21] H) fun v22 h22 =>
 aChk (ld Tryz.prog 39 h22 v19 = some v20) <|
 (bin Tryz.prog .add 3 s5 (.int .i64 4)).bind fun v23 =>
 (ix Tryz.prog 9 s0 v23).bind fun v24 =>
 (cv Tryz.prog 5 3 v24).bind fun v25 =>
 (bin Tryz.prog .shl 3 v25 (.int .u64 8)).bind fun v26 =>
 (bin Tryz.prog .add 3 s5 (.int .i64 5)).bind fun v27 =>
 (ix Tryz.prog 9 s0 v27).bind fun v28 =>
 (cv Tryz.prog 5 3 v28).bind fun v29 =>
 (bin Tryz.prog .or 3 v26 v29).bind fun v30 =>
 (build Tryz.prog 94 [(0, v22), (1, v30)]).bind fun v31 =>
 b2 (buildS Tryz.prog 39 h22 1 [(0, v31)]) fun v32 h32 =>
 b2 (ap Tryz.prog 39 39 h32 v20 v32) fun v33 h33 =>
 (fldA Tryz.prog 41 s4 1).bind fun v34 =>
 (st Tryz.prog 39 h33 v34 v33).bind fun h35 =>
 (bin Tryz.prog .add 3 s5 (.int .i64 6)).bind fun v36 =>
 f32_L0 k s0 s2 s4 v36 n h35)
 (some ((.exit 0), (f32_X_L0 s2 s4), H)) := by kernel_rfl
theorem f32_A0_x0 (k : Nat) (s2 s4 : Value) (H : AH) : f32_A0 k (.exit 0) (f32_X_L0 s2 s4) H =
(ld Tryz.prog 41 H s4).bind fun v37 =>
b2 (rn k 73 [v37] H) fun v38 h38 =>
(un Tryz.prog .not v38).bind fun v39 =>
aIf v39
 ((build Tryz.prog 41 []).bind fun v40 =>
 (st Tryz.prog 41 h38 s2 v40).bind fun h41 =>
 ((ld Tryz.prog 41 h41 s2).bind fun v42 => some (v42 :: ((.bool false) :: []))).bind fun vs => some (oneOf vs, h41))
 ((ld Tryz.prog 41 h38 s4).bind fun v43 =>
 (st Tryz.prog 41 h38 s2 v43).bind fun h44 =>
 ((ld Tryz.prog 41 h44 s2).bind fun v45 => some (v45 :: ((.bool true) :: []))).bind fun vs => some (oneOf vs, h44)) := by kernel_rfl
theorem f32_eq (k : Nat) (a0 : Value) (H : AH) : rn (k + 1) 32 [a0] H =
b2 (newV Tryz.prog 41 H) fun v1 h1 =>
(lenV Tryz.prog 9 a0).bind fun v2 =>
(bin Tryz.prog .lss 3 v2 (.int .i64 4)).bind fun v3 =>
b2 (gOp v3 false (some (a0, h1)) h1) fun v4 h4 =>
b2 (gOp v3 false ((lenV Tryz.prog 9 v4).bind fun v => some (v, h4)) h4) fun v5 h5 =>
b2 (gOp v3 false ((bin Tryz.prog .sub 3 v5 (.int .i64 4)).bind fun v => some (v, h5)) h5) fun v6 h6 =>
b2 (gOp v3 false ((bin Tryz.prog .rem 3 v6 (.int .i64 6)).bind fun v => some (v, h6)) h6) fun v7 h7 =>
b2 (gOp v3 false ((bin Tryz.prog .neq 3 v7 (.int .i64 0)).bind fun v => some (v, h7)) h7) fun v8 h8 =>
(pickV v3 (.bool true) v8).bind fun v9 =>
aIf v9
 ((build Tryz.prog 41 []).bind fun v10 =>
 (st Tryz.prog 41 h8 v1 v10).bind fun h11 =>
 ((ld Tryz.prog 41 h11 v1).bind fun v12 => some (v12 :: ((.bool false) :: []))).bind fun vs => some (oneOf vs, h11))
 (b2 (rn k 72 [a0] h8) fun v13 h13 =>
 (build Tryz.prog 41 [(0, v13)]).bind fun v14 =>
 b2 (newV Tryz.prog 41 h13) fun v15 h15 =>
 (st Tryz.prog 41 h15 v15 v14).bind fun h16 =>
 (f32_L0 k a0 v1 v15 (.int .i64 4) k h16).bind fun p => f32_A0 k p.1 p.2.1 p.2.2) := by kernel_rfl
abbrev f33_T_L0 (s2 s3 s5 : Value) : List Value := [unk, unk, s2, s3, unk, s5] ++ List.replicate 32 unk
abbrev f33_X_L0 (s4 : Value) : List Value := [unk, unk, unk, unk, s4] ++ List.replicate 33 unk
@[irreducible] def f33_L0 (k : Nat) (s2 s3 s5 : Value) (n : Nat) (H : AH) : Option Out := iterD (fun T H K => evalK Tryz.prog (rn k) k (tbs 33) (codeAt (bodyOf Tryz.f33) [1, 1, 0, 1, 0, 0]) T H K) (cutT (tbs 33) 13) (cutT (tbs 33) 14) n (f33_T_L0 s2 s3 s5) H
@[irreducible] def f33_A0 (k : Nat) (e : EX) (T : List Value) (H : AH) : Option (Value × AH) := resume Tryz.prog (rn k) k (tbs 33) (bodyOf Tryz.f33) [1, 1, 0, 1, 0] e T H (resK Tryz.prog Tryz.f33.results.toList)
theorem f33_L0_succ (k : Nat) (s2 s3 s5 : Value) (n : Nat) (H : AH) : f33_L0 k s2 s3 s5 (n + 1) H =
(fldA Tryz.prog 41 s2 1).bind fun v16 =>
(ld Tryz.prog 39 H v16).bind fun v17 =>
(lenV Tryz.prog 39 v17).bind fun v18 =>
(bin Tryz.prog .lss 3 s5 v18).bind fun v19 =>
aIf v19
 ((fldA Tryz.prog 41 s2 1).bind fun v20 =>
 (ld Tryz.prog 39 H v20).bind fun v21 =>
 (ixA Tryz.prog 39 v21 s5).bind fun v22 =>
 (ld Tryz.prog 94 H v22).bind fun v23 =>
 (fldA Tryz.prog 41 s3 1).bind fun v24 =>
 (ld Tryz.prog 39 H v24).bind fun v25 =>
 (ixA Tryz.prog 39 v25 s5).bind fun v26 =>
 (ld Tryz.prog 94 H v26).bind fun v27 =>
 (bin Tryz.prog .neq 94 v23 v27).bind fun v28 =>
 aIf v28
  (some (.ret, (f33_X_L0 (.bool false)), H))
  ((bin Tryz.prog .add 3 s5 (.int .i64 1)).bind fun v29 =>
  f33_L0 k s2 s3 v29 n H))
 (some ((.exit 0), (f33_X_L0 unk), H)) := by kernel_rfl
theorem f33_A0_x0 (k : Nat) (s4 : Value) (H : AH) : f33_A0 k (.exit 0) (f33_X_L0 s4) H =
some ((.bool true), H) := by kernel_rfl
theorem f33_A0_ret (k : Nat) (s4 : Value) (H : AH) : f33_A0 k .ret (f33_X_L0 s4) H =
some (s4, H) := by kernel_rfl
theorem f33_eq (k : Nat) (a0 a1 : Value) (H : AH) : rn (k + 1) 33 [a0, a1] H =
b2 (box 41 H a0) fun v1 h1 =>
b2 (box 41 h1 a1) fun v2 h2 =>
(fldA Tryz.prog 41 v1 0).bind fun v3 =>
(ld Tryz.prog 3 h2 v3).bind fun v4 =>
(fldA Tryz.prog 41 v2 0).bind fun v5 =>
(ld Tryz.prog 3 h2 v5).bind fun v6 =>
(bin Tryz.prog .neq 3 v4 v6).bind fun v7 =>
b2 (gOp v7 false ((fldA Tryz.prog 41 v1 1).bind fun v => some (v, h2)) h2) fun v8 h8 =>
b2 (gOp v7 false ((ld Tryz.prog 39 h8 v8).bind fun v => some (v, h8)) h8) fun v9 h9 =>
b2 (gOp v7 false ((lenV Tryz.prog 39 v9).bind fun v => some (v, h9)) h9) fun v10 h10 =>
b2 (gOp v7 false ((fldA Tryz.prog 41 v2 1).bind fun v => some (v, h10)) h10) fun v11 h11 =>
b2 (gOp v7 false ((ld Tryz.prog 39 h11 v11).bind fun v => some (v, h11)) h11) fun v12 h12 =>
b2 (gOp v7 false ((lenV Tryz.prog 39 v12).bind fun v => some (v, h12)) h12) fun v13 h13 =>
b2 (gOp v7 false ((bin Tryz.prog .neq 3 v10 v13).bind fun v => some (v, h13)) h13) fun v14 h14 =>
(pickV v7 (.bool true) v14).bind fun v15 =>
aIf v15
 (some ((.bool false), h14))
 ((f33_L0 k v1 v2 (.int .i64 0) k h14).bind fun p => f33_A0 k p.1 p.2.1 p.2.2) := by kernel_rfl
theorem f34_eq (k : Nat) (a0 a1 : Value) (H : AH) : rn (k + 1) 34 [a0, a1] H =
(lenV Tryz.prog 9 a1).bind fun v1 =>
(bin Tryz.prog .gtr 3 v1 (.int .i64 60000)).bind fun v2 =>
aIf v2
 (some ((.tuple #[(.int .i64 0), (.int .i64 1)]), H))
 (b2 (rn k 74 [a0] H) fun v3 h3 =>
 (lenV Tryz.prog 82 v3).bind fun v4 =>
 b2 (rn k 75 [a0, a1] h3) fun v5 h5 =>
 (ext v5 0).bind fun v6 =>
 (ext v5 1).bind fun v7 =>
 (bin Tryz.prog .neq 36 v7 (.int .i64 0)).bind fun v8 =>
 aIf v8
  (b2 (rn k 76 [a0, v4] h5) fun v9 h9 =>
  some ((.tuple #[(.int .i64 0), v7]), h9))
  ((ixA Tryz.prog 82 v6 (.int .i64 0)).bind fun v10 =>
  (ld Tryz.prog 3 h5 v10).bind fun v11 =>
  some ((.tuple #[v11, (.int .i64 0)]), h5))) := by kernel_rfl
abbrev f35_T_L0 (s1 s5 s6 : Value) : List Value := [unk, s1, unk, unk, unk, s5, s6] ++ List.replicate 42 unk
abbrev f35_X_L0 (s5 : Value) : List Value := [unk, unk, unk, unk, unk, s5] ++ List.replicate 43 unk
@[irreducible] def f35_L0 (k : Nat) (s1 s5 s6 : Value) (n : Nat) (H : AH) : Option Out := iterD (fun T H K => evalK Tryz.prog (rn k) k (tbs 35) (codeAt (bodyOf Tryz.f35) [1, 1, 1, 1, 0, 1, 0, 0]) T H K) (cutT (tbs 35) 19) (cutT (tbs 35) 20) n (f35_T_L0 s1 s5 s6) H
@[irreducible] def f35_A0 (k : Nat) (e : EX) (T : List Value) (H : AH) : Option (Value × AH) := resume Tryz.prog (rn k) k (tbs 35) (bodyOf Tryz.f35) [1, 1, 1, 1, 0, 1, 0] e T H (resK Tryz.prog Tryz.f35.results.toList)
theorem f35_L0_succ (k : Nat) (s1 s5 s6 : Value) (n : Nat) (H : AH) : f35_L0 k s1 s5 s6 (n + 1) H =
(fldA Tryz.prog 41 s1 1).bind fun v8 =>
(ld Tryz.prog 39 H v8).bind fun v9 =>
(lenV Tryz.prog 39 v9).bind fun v10 =>
(bin Tryz.prog .lss 3 s6 v10).bind fun v11 =>
aIf v11
 ((fldA Tryz.prog 41 s1 1).bind fun v12 =>
 (ld Tryz.prog 39 H v12).bind fun v13 =>
 (ixA Tryz.prog 39 v13 s6).bind fun v14 =>
 (fldA Tryz.prog 94 v14 0).bind fun v15 =>
 (ld Tryz.prog 3 H v15).bind fun v16 =>
 b2 (rn k 77 [v16] H) fun v17 h17 =>
 (bin Tryz.prog .add 9 s5 v17).bind fun v18 =>
 (fldA Tryz.prog 41 s1 1).bind fun v19 =>
 (ld Tryz.prog 39 h17 v19).bind fun v20 =>
 aChk (ld Tryz.prog 39 H v19 = some v20) <|
 (ixA Tryz.prog 39 v20 s6).bind fun v21 =>
 (fldA Tryz.prog 94 v21 1).bind fun v22 =>
 (ld Tryz.prog 3 h17 v22).bind fun v23 =>
 aChk (ld Tryz.prog 3 H v22 = some v23) <|
 (bin Tryz.prog .shr 3 v23 (.int .u64 8)).bind fun v24 =>
 (cv Tryz.prog 3 5 v24).bind fun v25 =>
 (fldA Tryz.prog 41 s1 1).bind fun v26 =>
 (ld Tryz.prog 39 h17 v26).bind fun v27 =>
 aChk (ld Tryz.prog 39 H v26 = some v27) <|
 (ixA Tryz.prog 39 v27 s6).bind fun v28 =>
 (fldA Tryz.prog 94 v28 1).bind fun v29 =>
 (ld Tryz.prog 3 h17 v29).bind fun v30 =>
 aChk (ld Tryz.prog 3 H v29 = some v30) <|
 (cv Tryz.prog 3 5 v30).bind fun v31 =>
 b2 (buildS Tryz.prog 95 h17 2 [(0, v25), (1, v31)]) fun v32 h32 =>
 (cvS Tryz.prog 95 9 h32 v32).bind fun v33 =>
 aChk (cvS Tryz.prog 95 9 (extH H h17 h32) v32 = some v33) <|
 (bin Tryz.prog .add 9 v18 v33).bind fun v34 =>
 (bin Tryz.prog .add 3 s6 (.int .i64 1)).bind fun v35 =>
 f35_L0 k s1 v34 v35 n h32)
 (some ((.exit 0), (f35_X_L0 s5), H)) := by kernel_rfl
theorem f35_A0_x0 (k : Nat) (s5 : Value) (H : AH) : f35_A0 k (.exit 0) (f35_X_L0 s5) H =
some ((.tuple #[s5, (.bool true)]), H) := by kernel_rfl
theorem f35_eq (k : Nat) (a0 : Value) (H : AH) : rn (k + 1) 35 [a0] H =
b2 (box 41 H a0) fun v1 h1 =>
(ld Tryz.prog 41 h1 v1).bind fun v2 =>
b2 (rn k 73 [v2] h1) fun v3 h3 =>
(un Tryz.prog .not v3).bind fun v4 =>
aIf v4
 (some ((.tuple #[(.string ⟨#[]⟩), (.bool false)]), h3))
 ((fldA Tryz.prog 41 v1 0).bind fun v5 =>
 (ld Tryz.prog 3 h3 v5).bind fun v6 =>
 b2 (rn k 77 [v6] h3) fun v7 h7 =>
 (f35_L0 k v1 v7 (.int .i64 0) k h7).bind fun p => f35_A0 k p.1 p.2.1 p.2.2) := by kernel_rfl
abbrev f36_T_L0 (s0 s1 s6 s7 s8 : Value) : List Value := [s0, s1, unk, unk, unk, unk, s6, s7, s8] ++ List.replicate 86 unk
abbrev f36_X_L0 (s0 s1 s4 s5 s6 s7 : Value) : List Value := [s0, s1, unk, unk, s4, s5, s6, s7] ++ List.replicate 87 unk
abbrev f36_T_L1 (s0 s1 s6 s7 s11 : Value) : List Value := [s0, s1, unk, unk, unk, unk, s6, s7, unk, unk, unk, s11] ++ List.replicate 83 unk
abbrev f36_X_L1 (s4 s5 s7 : Value) : List Value := [unk, unk, unk, unk, s4, s5, unk, s7] ++ List.replicate 87 unk
abbrev f36_T_J0 (s0 s1 s6 s7 s11 s12 : Value) : List Value := [s0, s1, unk, unk, unk, unk, s6, s7, unk, unk, unk, s11, s12] ++ List.replicate 82 unk
@[irreducible] def f36_L0 (k : Nat) (s0 s1 s6 s7 s8 : Value) (n : Nat) (H : AH) : Option Out := iterD (fun T H K => evalK Tryz.prog (rn k) k (tbs 36) (codeAt (bodyOf Tryz.f36) [1, 1, 1, 1, 0, 1, 0, 0]) T H K) (cutT (tbs 36) 19) (cutT (tbs 36) 20) n (f36_T_L0 s0 s1 s6 s7 s8) H
@[irreducible] def f36_A0 (k : Nat) (e : EX) (T : List Value) (H : AH) : Option (Value × AH) := resume Tryz.prog (rn k) k (tbs 36) (bodyOf Tryz.f36) [1, 1, 1, 1, 0, 1, 0] e T H (resK Tryz.prog Tryz.f36.results.toList)
@[irreducible] def f36_L1 (k : Nat) (s0 s1 s6 s7 s11 : Value) (n : Nat) (H : AH) : Option Out := iterD (fun T H K => evalK Tryz.prog (rn k) k (tbs 36) (codeAt (bodyOf Tryz.f36) [1, 1, 1, 1, 1, 0, 1, 0, 0]) T H K) (cutT (tbs 36) 43) (cutT (tbs 36) 44) n (f36_T_L1 s0 s1 s6 s7 s11) H
@[irreducible] def f36_A1 (k : Nat) (e : EX) (T : List Value) (H : AH) : Option (Value × AH) := resume Tryz.prog (rn k) k (tbs 36) (bodyOf Tryz.f36) [1, 1, 1, 1, 1, 0, 1, 0] e T H (resK Tryz.prog Tryz.f36.results.toList)
@[irreducible] def f36_J0 (k : Nat) (n : Nat) (s0 s1 s6 s7 s11 s12 : Value) (H : AH) : Option Out := resume Tryz.prog (rn k) k (tbs 36) (codeAt (bodyOf Tryz.f36) [1, 1, 1, 1, 1, 0, 1, 0, 0]) [1, 0, 0, 1, 0] .normal (f36_T_J0 s0 s1 s6 s7 s11 s12) H (loopK (iterD (fun T H K => evalK Tryz.prog (rn k) k (tbs 36) (codeAt (bodyOf Tryz.f36) [1, 1, 1, 1, 1, 0, 1, 0, 0]) T H K) (cutT (tbs 36) 43) (cutT (tbs 36) 44) n) (cutT (tbs 36) 43) (cutT (tbs 36) 44))
theorem f36_L0_succ (k : Nat) (s0 s1 s6 s7 s8 : Value) (n : Nat) (H : AH) : f36_L0 k s0 s1 s6 s7 s8 (n + 1) H =
(lenV Tryz.prog 9 s1).bind fun v7 =>
b2 (rn k 78 [v7] H) fun v8 h8 =>
(bin Tryz.prog .lss 3 s8 v8).bind fun v9 =>
aIf v9
 (b2 (rn k 17 [s0] h8) fun v10 h10 =>
 (ext v10 0).bind fun v11 =>
 (ext v10 1).bind fun v12 =>
 (bin Tryz.prog .neq 3 v12 (.int .i64 0)).bind fun v13 =>
 aIf v13
  (b2 (rn k 79 [s0, s6] h10) fun v14 h14 =>
  some (.ret, (f36_X_L0 s0 s1 (.int .i64 0) v12 s6 s7), h14))
  (b2 (buildS Tryz.prog 82 h10 1 [(0, v11)]) fun v15 h15 =>
  b2 (ap Tryz.prog 82 82 h15 s7 v15) fun v16 h16 =>
  (bin Tryz.prog .add 3 s8 (.int .i64 1)).bind fun v17 =>
  f36_L0 k s0 s1 s6 v16 v17 n h16))
 (some ((.exit 0), (f36_X_L0 s0 s1 unk unk s6 s7), h8)) := by kernel_rfl
theorem f36_A0_x0 (k : Nat) (s0 s1 s4 s5 s6 s7 : Value) (H : AH) : f36_A0 k (.exit 0) (f36_X_L0 s0 s1 s4 s5 s6 s7) H =
(f36_L1 k s0 s1 s6 s7 (.int .i64 0) k H).bind fun p => f36_A1 k p.1 p.2.1 p.2.2 := by kernel_rfl
theorem f36_A0_ret (k : Nat) (s0 s1 s4 s5 s6 s7 : Value) (H : AH) : f36_A0 k .ret (f36_X_L0 s0 s1 s4 s5 s6 s7) H =
some ((.tuple #[s4, s5]), H) := by kernel_rfl
theorem f36_L1_succ (k : Nat) (s0 s1 s6 s7 s11 : Value) (n : Nat) (H : AH) : f36_L1 k s0 s1 s6 s7 s11 (n + 1) H =
(lenV Tryz.prog 82 s7).bind fun v18 =>
(bin Tryz.prog .lss 3 s11 v18).bind fun v19 =>
aIf v19
 ((bin Tryz.prog .add 3 s11 (.int .i64 1)).bind fun v20 =>
 (lenV Tryz.prog 82 s7).bind fun v21 =>
 (bin Tryz.prog .lss 3 v20 v21).bind fun v22 =>
 aIf v22
  ((bin Tryz.prog .add 3 s11 (.int .i64 1)).bind fun v23 =>
  (ixA Tryz.prog 82 s7 v23).bind fun v24 =>
  (ld Tryz.prog 3 H v24).bind fun v25 =>
  f36_J0 k n s0 s1 s6 s7 s11 v25 H)
  (f36_J0 k n s0 s1 s6 s7 s11 (.int .i64 0) H))
 (some ((.exit 2), (f36_X_L1 unk unk s7), H)) := by kernel_rfl
theorem f36_A1_x2 (k : Nat) (s4 s5 s7 : Value) (H : AH) : f36_A1 k (.exit 2) (f36_X_L1 s4 s5 s7) H =
(ixA Tryz.prog 82 s7 (.int .i64 0)).bind fun v26 =>
(ld Tryz.prog 3 H v26).bind fun v27 =>
some ((.tuple #[v27, (.int .i64 0)]), H) := by kernel_rfl
theorem f36_A1_ret (k : Nat) (s4 s5 s7 : Value) (H : AH) : f36_A1 k .ret (f36_X_L1 s4 s5 s7) H =
some ((.tuple #[s4, s5]), H) := by kernel_rfl
theorem f36_J0_eq (k : Nat) (n : Nat) (s0 s1 s6 s7 s11 s12 : Value) (H : AH) : f36_J0 k n s0 s1 s6 s7 s11 s12 H =
(bin Tryz.prog .mul 3 (.int .i64 118) s11).bind fun v28 =>
(lenV Tryz.prog 9 s1).bind fun v29 =>
(bin Tryz.prog .add 3 s11 (.int .i64 1)).bind fun v30 =>
(bin Tryz.prog .mul 3 (.int .i64 118) v30).bind fun v31 =>
(fold1 minV [v29, v31]).bind fun v32 =>
(slc Tryz.prog 9 s1 (some v28) (some v32)).bind fun v33 =>
(ixA Tryz.prog 82 s7 s11).bind fun v34 =>
(ld Tryz.prog 3 H v34).bind fun v35 =>
(bin Tryz.prog .shr 3 s12 (.int .u64 8)).bind fun v36 =>
(cv Tryz.prog 3 5 v36).bind fun v37 =>
(cv Tryz.prog 3 5 s12).bind fun v38 =>
b2 (buildS Tryz.prog 95 H 2 [(0, v37), (1, v38)]) fun v39 h39 =>
(cvS Tryz.prog 95 9 h39 v39).bind fun v40 =>
(bin Tryz.prog .add 9 v40 v33).bind fun v41 =>
b2 (rn k 19 [s0, v35, (.int .i64 2), v41] h39) fun v42 h42 =>
(bin Tryz.prog .neq 3 v42 (.int .i64 0)).bind fun v43 =>
aIf v43
 (b2 (rn k 79 [s0, s6] h42) fun v44 h44 =>
 some (.ret, (f36_X_L1 (.int .i64 0) v42 s7), h44))
 ((bin Tryz.prog .add 3 s11 (.int .i64 1)).bind fun v45 =>
 f36_L1 k s0 s1 s6 s7 v45 n h42) := by kernel_rfl
theorem f36_eq (k : Nat) (a0 a1 : Value) (H : AH) : rn (k + 1) 36 [a0, a1] H =
(lenV Tryz.prog 9 a1).bind fun v1 =>
(bin Tryz.prog .gtr 3 v1 (.int .i64 60000)).bind fun v2 =>
aIf v2
 (some ((.tuple #[(.int .i64 0), (.int .i64 1)]), H))
 ((nilChk a0).bind fun v3 =>
 (fldA Tryz.prog 84 v3 4).bind fun v4 =>
 (ld Tryz.prog 82 H v4).bind fun v5 =>
 (lenV Tryz.prog 82 v5).bind fun v6 =>
 (f36_L0 k a0 a1 v6 (.slice none 0 0) (.int .i64 0) k H).bind fun p => f36_A0 k p.1 p.2.1 p.2.2) := by kernel_rfl
theorem f37_eq (k : Nat) (a0 a1 : Value) (H : AH) : rn (k + 1) 37 [a0, a1] H =
b2 (box 101 H a0) fun v1 h1 =>
(bin Tryz.prog .eql 3 a1 (.int .i64 0)).bind fun v2 =>
b2 (gOp v2 false (some (a1, h1)) h1) fun v3 h3 =>
b2 (gOp v2 false ((bin Tryz.prog .geq 3 v3 (.int .i64 2)).bind fun v => some (v, h3)) h3) fun v4 h4 =>
b2 (gOp v2 false (some (v4, h4)) h4) fun v5 h5 =>
b2 (gOp v5 true ((fldA Tryz.prog 101 v1 2).bind fun v => some (v, h5)) h5) fun v6 h6 =>
b2 (gOp v5 true ((ld Tryz.prog 99 h6 v6).bind fun v => some (v, h6)) h6) fun v7 h7 =>
b2 (gOp v5 true (some (a1, h7)) h7) fun v8 h8 =>
b2 (gOp v5 true ((lkU Tryz.prog 99 h8 v7 v8 false).bind fun v => some (v, h8)) h8) fun v9 h9 =>
b2 (gOp v2 false ((pickV v5 v9 (.bool false)).bind fun v => some (v, h9)) h9) fun v10 h10 =>
(pickV v2 (.bool true) v10).bind fun v11 =>
some (v11, h10) := by kernel_rfl
abbrev f38_T_L0 (s2 s3 s26 s27 s28 : Value) : List Value := [unk, unk, s2, s3] ++ List.replicate 22 unk ++ [s26, s27, s28] ++ List.replicate 18 unk
abbrev f38_X_L0 (s2 s3 s4 : Value) : List Value := [unk, unk, s2, s3, s4] ++ List.replicate 42 unk
@[irreducible] def f38_L0 (k : Nat) (s2 s3 s26 s27 s28 : Value) (n : Nat) (H : AH) : Option Out := iterD (fun T H K => evalK Tryz.prog (rn k) k (tbs 38) (codeAt (bodyOf Tryz.f38) [1, 1, 0, 1, 0, 0]) T H K) (cutT (tbs 38) 10) (cutT (tbs 38) 11) n (f38_T_L0 s2 s3 s26 s27 s28) H
@[irreducible] def f38_A0 (k : Nat) (e : EX) (T : List Value) (H : AH) : Option (Value × AH) := resume Tryz.prog (rn k) k (tbs 38) (bodyOf Tryz.f38) [1, 1, 0, 1, 0] e T H (resK Tryz.prog Tryz.f38.results.toList)
theorem f38_L0_succ (k : Nat) (s2 s3 s26 s27 s28 : Value) (n : Nat) (H : AH) : f38_L0 k s2 s3 s26 s27 s28 (n + 1) H =
(bin Tryz.prog .lss 3 s28 s27).bind fun v21 =>
aIf v21
 ((ixA Tryz.prog 148 s26 s28).bind fun v22 =>
 (ld Tryz.prog 124 H v22).bind fun v23 =>
 (ld Tryz.prog 32 H s2).bind fun v24 =>
 b2 (callV (rn k) v23 [] H) fun v25 h25 =>
 aChk (ld Tryz.prog 32 h25 s2 = some v24) <|
 b2 (rn k 44 [v24, v25] h25) fun v26 h26 =>
 (bin Tryz.prog .neq 36 v26 (.int .i64 0)).bind fun v27 =>
 aIf v27
  (some (.ret, (f38_X_L0 s2 s3 v26), h26))
  ((bin Tryz.prog .add 3 s28 (.int .i64 1)).bind fun v28 =>
  f38_L0 k s2 s3 s26 s27 v28 n h26))
 (some ((.exit 0), (f38_X_L0 s2 s3 unk), H)) := by kernel_rfl
theorem f38_A0_x0 (k : Nat) (s2 s3 s4 : Value) (H : AH) : f38_A0 k (.exit 0) (f38_X_L0 s2 s3 s4) H =
(ld Tryz.prog 32 H s2).bind fun v29 =>
(ld Tryz.prog 32 H s2).bind fun v30 =>
(ld Tryz.prog 101 H s3).bind fun v31 =>
(nilChk v29).bind fun v32 =>
(fldA Tryz.prog 103 v32 0).bind fun v33 =>
(st Tryz.prog 101 H v33 v31).bind fun h34 =>
aChk (ld Tryz.prog 32 h34 s2 = some v30) <|
(nilChk v30).bind fun v35 =>
(fldA Tryz.prog 103 v35 2).bind fun v36 =>
(st Tryz.prog 82 h34 v36 (.slice none 0 0)).bind fun h37 =>
some ((.int .i64 0), h37) := by kernel_rfl
theorem f38_A0_ret (k : Nat) (s2 s3 s4 : Value) (H : AH) : f38_A0 k .ret (f38_X_L0 s2 s3 s4) H =
some (s4, H) := by kernel_rfl
theorem f38_eq (k : Nat) (a0 a1 : Value) (H : AH) : rn (k + 1) 38 [a0, a1] H =
b2 (box 32 H a0) fun v1 h1 =>
b2 (box 101 h1 a1) fun v2 h2 =>
(ld Tryz.prog 32 h2 v1).bind fun v3 =>
(nilChk v3).bind fun v4 =>
(fldA Tryz.prog 103 v4 0).bind fun v5 =>
(fldA Tryz.prog 101 v5 0).bind fun v6 =>
(ld Tryz.prog 3 h2 v6).bind fun v7 =>
(bin Tryz.prog .add 3 v7 (.int .i64 1)).bind fun v8 =>
(fldA Tryz.prog 101 v2 0).bind fun v9 =>
(st Tryz.prog 3 h2 v9 v8).bind fun h10 =>
(ld Tryz.prog 32 h10 v1).bind fun v11 =>
(nilChk v11).bind fun v12 =>
(fldA Tryz.prog 103 v12 1).bind fun v13 =>
(ld Tryz.prog 30 h10 v13).bind fun v14 =>
(ld Tryz.prog 32 h10 v1).bind fun v15 =>
(nilChk v15).bind fun v16 =>
(fldA Tryz.prog 103 v16 1).bind fun v17 =>
(ld Tryz.prog 30 h10 v17).bind fun v18 =>
b2 (buildS Tryz.prog 148 h10 3 [(0, (.func (.func 64) #[v14] #[])), (1, (.func (.func 80) #[] #[v2, v1])), (2, (.func (.func 64) #[v18] #[]))]) fun v19 h19 =>
(lenV Tryz.prog 148 v19).bind fun v20 =>
(f38_L0 k v1 v2 v19 v20 (.int .i64 0) k h19).bind fun p => f38_A0 k p.1 p.2.1 p.2.2 := by kernel_rfl
theorem f39_eq (k : Nat) (a0 a1 : Value) (H : AH) : rn (k + 1) 39 [a0, a1] H =
(bin Tryz.prog .eql 3 a1 (.int .i64 0)).bind fun v1 =>
b2 (gOp v1 false (some (a1, H)) H) fun v2 h2 =>
b2 (gOp v1 false ((bin Tryz.prog .gtr 3 v2 (.int .i64 1)).bind fun v => some (v, h2)) h2) fun v3 h3 =>
b2 (gOp v1 false (some (v3, h3)) h3) fun v4 h4 =>
b2 (gOp v4 true (some (a1, h4)) h4) fun v5 h5 =>
b2 (gOp v4 true (some (a0, h5)) h5) fun v6 h6 =>
b2 (gOp v4 true ((nilChk v6).bind fun v => some (v, h6)) h6) fun v7 h7 =>
b2 (gOp v4 true ((fldA Tryz.prog 84 v7 3).bind fun v => some (v, h7)) h7) fun v8 h8 =>
b2 (gOp v4 true ((ld Tryz.prog 81 h8 v8).bind fun v => some (v, h8)) h8) fun v9 h9 =>
b2 (gOp v4 true ((lenV Tryz.prog 81 v9).bind fun v => some (v, h9)) h9) fun v10 h10 =>
b2 (gOp v4 true ((bin Tryz.prog .lss 3 v5 v10).bind fun v => some (v, h10)) h10) fun v11 h11 =>
b2 (gOp v1 false ((pickV v4 v11 (.bool false)).bind fun v => some (v, h11)) h11) fun v12 h12 =>
b2 (gOp v1 false (some (v12, h12)) h12) fun v13 h13 =>
b2 (gOp v13 true (some (a0, h13)) h13) fun v14 h14 =>
b2 (gOp v13 true ((nilChk v14).bind fun v => some (v, h14)) h14) fun v15 h15 =>
b2 (gOp v13 true ((fldA Tryz.prog 84 v15 3).bind fun v => some (v, h15)) h15) fun v16 h16 =>
b2 (gOp v13 true ((ld Tryz.prog 81 h16 v16).bind fun v => some (v, h16)) h16) fun v17 h17 =>
b2 (gOp v13 true (some (a1, h17)) h17) fun v18 h18 =>
b2 (gOp v13 true ((ixA Tryz.prog 81 v17 v18).bind fun v => some (v, h18)) h18) fun v19 h19 =>
b2 (gOp v13 true ((ld Tryz.prog 4 h19 v19).bind fun v => some (v, h19)) h19) fun v20 h20 =>
b2 (gOp v13 true (some (v20, h20)) h20) fun v21 h21 =>
b2 (gOp v21 false (some (a0, h21)) h21) fun v22 h22 =>
b2 (gOp v21 false ((nilChk v22).bind fun v => some (v, h22)) h22) fun v23 h23 =>
b2 (gOp v21 false ((fldA Tryz.prog 84 v23 4).bind fun v => some (v, h23)) h23) fun v24 h24 =>
b2 (gOp v21 false ((ld Tryz.prog 82 h24 v24).bind fun v => some (v, h24)) h24) fun v25 h25 =>
b2 (gOp v21 false (some (a1, h25)) h25) fun v26 h26 =>
b2 (gOp v21 false (b2 (rn k 43 [v25, v26] h26) fun v h => some (v, h)) h26) fun v27 h27 =>
b2 (gOp v13 true ((pickV v21 (.bool true) v27).bind fun v => some (v, h27)) h27) fun v28 h28 =>
b2 (gOp v1 false ((pickV v13 v28 (.bool false)).bind fun v => some (v, h28)) h28) fun v29 h29 =>
(pickV v1 (.bool true) v29).bind fun v30 =>
some (v30, h29) := by kernel_rfl
theorem f40_eq (k : Nat) (a0 a1 a2 : Value) (H : AH) : rn (k + 1) 40 [a0, a1, a2] H =
(nilChk a0).bind fun v1 =>
(fldA Tryz.prog 84 v1 0).bind fun v2 =>
(ld Tryz.prog 31 H v2).bind fun v3 =>
b2 (rn k 67 [v3] H) fun v4 h4 =>
b2 (rn k 46 [a0, v4] h4) fun v5 h5 =>
(bin Tryz.prog .neq 3 v5 (.int .i64 0)).bind fun v6 =>
aIf v6
 (some (v5, h5))
 ((nilChk a0).bind fun v7 =>
 (fldA Tryz.prog 84 v7 0).bind fun v8 =>
 (ld Tryz.prog 31 h5 v8).bind fun v9 =>
 (nilChk a0).bind fun v10 =>
 (fldA Tryz.prog 84 v10 1).bind fun v11 =>
 (ld Tryz.prog 3 h5 v11).bind fun v12 =>
 (bin Tryz.prog .add 3 v12 (.int .i64 1)).bind fun v13 =>
 (bin Tryz.prog .rem 3 v13 (.int .i64 2)).bind fun v14 =>
 (nilChk a0).bind fun v15 =>
 (fldA Tryz.prog 84 v15 1).bind fun v16 =>
 (ld Tryz.prog 3 h5 v16).bind fun v17 =>
 (bin Tryz.prog .add 3 v17 (.int .i64 1)).bind fun v18 =>
 b2 (rn k 66 [v18, a1, a2] h5) fun v19 h19 =>
 aChk (ld Tryz.prog 3 h19 v11 = some v12) <|
 aChk (ld Tryz.prog 31 h19 v8 = some v9) <|
 b2 (rn k 47 [v9, v14, (.int .i64 1), v19] h19) fun v20 h20 =>
 b2 (rn k 46 [a0, v20] h20) fun v21 h21 =>
 (bin Tryz.prog .neq 3 v21 (.int .i64 0)).bind fun v22 =>
 aIf v22
  (some (v21, h21))
  ((nilChk a0).bind fun v23 =>
  (fldA Tryz.prog 84 v23 0).bind fun v24 =>
  (ld Tryz.prog 31 h21 v24).bind fun v25 =>
  b2 (rn k 67 [v25] h21) fun v26 h26 =>
  b2 (rn k 46 [a0, v26] h26) fun v27 h27 =>
  (bin Tryz.prog .neq 3 v27 (.int .i64 0)).bind fun v28 =>
  aIf v28
   (some (v27, h27))
   ((nilChk a0).bind fun v29 =>
   (fldA Tryz.prog 84 v29 1).bind fun v30 =>
   (ld Tryz.prog 3 h27 v30).bind fun v31 =>
   (bin Tryz.prog .add 3 v31 (.int .i64 1)).bind fun v32 =>
   (nilChk a0).bind fun v33 =>
   (fldA Tryz.prog 84 v33 1).bind fun v34 =>
   (st Tryz.prog 3 h27 v34 v32).bind fun h35 =>
   (nilChk a0).bind fun v36 =>
   (fldA Tryz.prog 84 v36 2).bind fun v37 =>
   (st Tryz.prog 3 h35 v37 a1).bind fun h38 =>
   (nilChk a0).bind fun v39 =>
   (fldA Tryz.prog 84 v39 3).bind fun v40 =>
   (st Tryz.prog 81 h38 v40 a2).bind fun h41 =>
   (nilChk a0).bind fun v42 =>
   (fldA Tryz.prog 84 v42 4).bind fun v43 =>
   (st Tryz.prog 82 h41 v43 (.slice none 0 0)).bind fun h44 =>
   some ((.int .i64 0), h44)))) := by kernel_rfl
theorem f41_eq (k : Nat) (a0 : Value) (H : AH) : rn (k + 1) 41 [a0] H =
(nilChk a0).bind fun v1 =>
(fldA Tryz.prog 103 v1 1).bind fun v2 =>
(ld Tryz.prog 30 H v2).bind fun v3 =>
b2 (rn k 62 [v3] H) fun v4 h4 =>
some (v4, h4) := by kernel_rfl
theorem f42_eq (k : Nat) (a0 a1 : Value) (H : AH) : rn (k + 1) 42 [a0, a1] H =
b2 (rn k 81 [a0, a1] H) fun v1 h1 =>
(bin Tryz.prog .geq 3 v1 (.int .i64 0)).bind fun v2 =>
some (v2, h1) := by kernel_rfl
abbrev f43_T_L0 (s0 s1 s5 : Value) : List Value := [s0, s1, unk, unk, unk, s5] ++ List.replicate 12 unk
abbrev f43_X_L0 (s4 : Value) : List Value := [unk, unk, unk, unk, s4] ++ List.replicate 13 unk
@[irreducible] def f43_L0 (k : Nat) (s0 s1 s5 : Value) (n : Nat) (H : AH) : Option Out := iterD (fun T H K => evalK Tryz.prog (rn k) k (tbs 43) (codeAt (bodyOf Tryz.f43) [1, 0, 1, 0, 0]) T H K) (cutT (tbs 43) 7) (cutT (tbs 43) 8) n (f43_T_L0 s0 s1 s5) H
@[irreducible] def f43_A0 (k : Nat) (e : EX) (T : List Value) (H : AH) : Option (Value × AH) := resume Tryz.prog (rn k) k (tbs 43) (bodyOf Tryz.f43) [1, 0, 1, 0] e T H (resK Tryz.prog Tryz.f43.results.toList)
theorem f43_L0_succ (k : Nat) (s0 s1 s5 : Value) (n : Nat) (H : AH) : f43_L0 k s0 s1 s5 (n + 1) H =
(lenV Tryz.prog 82 s0).bind fun v1 =>
(bin Tryz.prog .lss 3 s5 v1).bind fun v2 =>
aIf v2
 ((ixA Tryz.prog 82 s0 s5).bind fun v3 =>
 (ld Tryz.prog 3 H v3).bind fun v4 =>
 (bin Tryz.prog .eql 3 v4 s1).bind fun v5 =>
 aIf v5
  (some (.ret, (f43_X_L0 (.bool true)), H))
  ((bin Tryz.prog .add 3 s5 (.int .i64 1)).bind fun v6 =>
  f43_L0 k s0 s1 v6 n H))
 (some ((.exit 0), (f43_X_L0 unk), H)) := by kernel_rfl
theorem f43_A0_x0 (k : Nat) (s4 : Value) (H : AH) : f43_A0 k (.exit 0) (f43_X_L0 s4) H =
some ((.bool false), H) := by kernel_rfl
theorem f43_A0_ret (k : Nat) (s4 : Value) (H : AH) : f43_A0 k .ret (f43_X_L0 s4) H =
some (s4, H) := by kernel_rfl
theorem f43_eq (k : Nat) (a0 a1 : Value) (H : AH) : rn (k + 1) 43 [a0, a1] H =
(f43_L0 k a0 a1 (.int .i64 0) k H).bind fun p => f43_A0 k p.1 p.2.1 p.2.2 := by kernel_rfl
theorem f44_eq (k : Nat) (a0 a1 : Value) (H : AH) : rn (k + 1) 44 [a0, a1] H =
(nilChk a0).bind fun v1 =>
(fldA Tryz.prog 103 v1 3).bind fun v2 =>
(ld Tryz.prog 4 H v2).bind fun v3 =>
b2 (gOp v3 false (some (a1, H)) H) fun v4 h4 =>
b2 (gOp v3 false ((bin Tryz.prog .eql 36 v4 (.int .i64 7)).bind fun v => some (v, h4)) h4) fun v5 h5 =>
(pickV v3 (.bool true) v5).bind fun v6 =>
(nilChk a0).bind fun v7 =>
(fldA Tryz.prog 103 v7 3).bind fun v8 =>
(st Tryz.prog 4 h5 v8 v6).bind fun h9 =>
some (a1, h9) := by kernel_rfl
theorem f45_eq (k : Nat) (a0 a1 a2 a3 : Value) (H : AH) : rn (k + 1) 45 [a0, a1, a2, a3] H =
b2 (rn k 82 [a2, a3] H) fun v1 h1 =>
(ext v1 0).bind fun v2 =>
(ext v1 1).bind fun v3 =>
(bin Tryz.prog .neq 36 v3 (.int .i64 0)).bind fun v4 =>
b2 (gOp v4 false (some (a1, h1)) h1) fun v5 h5 =>
b2 (gOp v4 false ((bin Tryz.prog .lss 3 v5 (.int .i64 0)).bind fun v => some (v, h5)) h5) fun v6 h6 =>
(pickV v4 (.bool true) v6).bind fun v7 =>
b2 (gOp v7 false (some (a1, h6)) h6) fun v8 h8 =>
b2 (gOp v7 false ((bin Tryz.prog .gtr 3 v8 (.int .i64 1048576)).bind fun v => some (v, h8)) h8) fun v9 h9 =>
(pickV v7 (.bool true) v9).bind fun v10 =>
aIf v10
 (some ((.int .i64 1), h9))
 ((bin Tryz.prog .mul 3 (.int .i64 2) a1).bind fun v11 =>
 (slc Tryz.prog 9 v2 none (some (.int .i64 64))).bind fun v12 =>
 b2 (rn k 83 [a0, v11, v12] h9) fun v13 h13 =>
 (bin Tryz.prog .neq 36 v13 (.int .i64 0)).bind fun v14 =>
 aIf v14
  (some (v13, h13))
  ((bin Tryz.prog .mul 3 (.int .i64 2) a1).bind fun v15 =>
  (bin Tryz.prog .add 3 v15 (.int .i64 1)).bind fun v16 =>
  (slc Tryz.prog 9 v2 (some (.int .i64 64)) none).bind fun v17 =>
  b2 (rn k 83 [a0, v16, v17] h13) fun v18 h18 =>
  some (v18, h18))) := by kernel_rfl
abbrev f46_T_J0 (s1 : Value) : List Value := [unk, s1] ++ List.replicate 9 unk
@[irreducible] def f46_J0 (k : Nat) (s1 : Value) (H : AH) : Option (Value × AH) := resume Tryz.prog (rn k) k (tbs 46) (bodyOf Tryz.f46) [1, 0] .normal (f46_T_J0 s1) H (resK Tryz.prog Tryz.f46.results.toList)
theorem f46_J0_eq (k : Nat) (s1 : Value) (H : AH) : f46_J0 k s1 H =
some (s1, H) := by kernel_rfl
theorem f46_eq (k : Nat) (a0 a1 : Value) (H : AH) : rn (k + 1) 46 [a0, a1] H =
(bin Tryz.prog .eql 3 a1 (.int .i64 7)).bind fun v1 =>
aIf v1
 ((nilChk a0).bind fun v2 =>
 (fldA Tryz.prog 84 v2 5).bind fun v3 =>
 (st Tryz.prog 4 H v3 (.bool true)).bind fun h4 =>
 f46_J0 k a1 h4)
 (f46_J0 k a1 H) := by kernel_rfl
theorem f47_eq (k : Nat) (a0 a1 a2 a3 : Value) (H : AH) : rn (k + 1) 47 [a0, a1, a2, a3] H =
b2 (rn k 84 [a2, a3] H) fun v1 h1 =>
(ext v1 0).bind fun v2 =>
(ext v1 1).bind fun v3 =>
(un Tryz.prog .not v3).bind fun v4 =>
b2 (gOp v4 false (some (a1, h1)) h1) fun v5 h5 =>
b2 (gOp v4 false ((bin Tryz.prog .lss 3 v5 (.int .i64 0)).bind fun v => some (v, h5)) h5) fun v6 h6 =>
(pickV v4 (.bool true) v6).bind fun v7 =>
b2 (gOp v7 false (some (a1, h6)) h6) fun v8 h8 =>
b2 (gOp v7 false ((bin Tryz.prog .gtr 3 v8 (.int .i64 1048576)).bind fun v => some (v, h8)) h8) fun v9 h9 =>
(pickV v7 (.bool true) v9).bind fun v10 =>
aIf v10
 (some ((.int .i64 1), h9))
 ((bin Tryz.prog .mul 3 (.int .i64 2) a1).bind fun v11 =>
 (slc Tryz.prog 9 v2 none (some (.int .i64 64))).bind fun v12 =>
 b2 (rn k 85 [a0, v11, v12] h9) fun v13 h13 =>
 (bin Tryz.prog .neq 3 v13 (.int .i64 0)).bind fun v14 =>
 aIf v14
  (some (v13, h13))
  ((bin Tryz.prog .mul 3 (.int .i64 2) a1).bind fun v15 =>
  (bin Tryz.prog .add 3 v15 (.int .i64 1)).bind fun v16 =>
  (slc Tryz.prog 9 v2 (some (.int .i64 64)) none).bind fun v17 =>
  b2 (rn k 85 [a0, v16, v17] h13) fun v18 h18 =>
  some (v18, h18))) := by kernel_rfl
theorem f48_eq (k : Nat) (a0 : Value) (H : AH) : rn (k + 1) 48 [a0] H =
(nilChk a0).bind fun v1 =>
(fldA Tryz.prog 98 v1 3).bind fun v2 =>
(ld Tryz.prog 4 H v2).bind fun v3 =>
some (v3, H) := by kernel_rfl
theorem f49_eq (k : Nat) (a0 : Value) (H : AH) : rn (k + 1) 49 [a0] H =
(nilChk a0).bind fun v1 =>
(fldA Tryz.prog 98 v1 0).bind fun v2 =>
(ld Tryz.prog 95 H v2).bind fun v3 =>
(lenV Tryz.prog 95 v3).bind fun v4 =>
(bin Tryz.prog .quo 3 v4 (.int .i64 64)).bind fun v5 =>
some (v5, H) := by kernel_rfl
theorem f50_eq (k : Nat) (a0 : Value) (H : AH) : rn (k + 1) 50 [a0] H =
(nilChk a0).bind fun v1 =>
(fldA Tryz.prog 98 v1 1).bind fun v2 =>
(ld Tryz.prog 96 H v2).bind fun v3 =>
(lenV Tryz.prog 96 v3).bind fun v4 =>
some (v4, H) := by kernel_rfl
abbrev f51_T_R0 (s3 s4 s5 : Value) : List Value := [unk, unk, unk, s3, s4, s5, unk, unk, unk, unk, unk, unk, unk, unk, unk, unk, unk, unk, unk, unk, unk, unk, unk, unk, unk, unk, unk, unk, unk, unk, unk, unk, unk, unk, unk, unk, unk, unk, unk, unk, unk, unk, unk, unk, unk, unk]
abbrev f51_X_R0 (s0 s3 s4 s5 : Value) : List Value := [s0, unk, unk, s3, s4, s5] ++ List.replicate 40 unk
@[irreducible] def f51_B0 (k : Nat) (s0 s3 s4 s5 : Value) (e : EX) (H : AH) : Option (Value × AH) := resume Tryz.prog (rn k) k (tbs 51) (bodyOf Tryz.f51) [1, 1, 0, 1, 0] e (f51_X_R0 s0 s3 s4 s5) H (resK Tryz.prog Tryz.f51.results.toList)
theorem f51_B0_normal (k : Nat) (s0 s3 s4 s5 : Value) (H : AH) : f51_B0 k s0 s3 s4 s5 .normal H =
(nilChk s0).bind fun v26 =>
(fldA Tryz.prog 98 v26 0).bind fun v27 =>
(ld Tryz.prog 95 H v27).bind fun v28 =>
(ld Tryz.prog 3 H s3).bind fun v29 =>
(bin Tryz.prog .mul 3 v29 (.int .i64 64)).bind fun v30 =>
(ld Tryz.prog 3 H s3).bind fun v31 =>
(bin Tryz.prog .add 3 v31 (.int .i64 1)).bind fun v32 =>
(bin Tryz.prog .mul 3 v32 (.int .i64 64)).bind fun v33 =>
(slc Tryz.prog 95 v28 (some v30) (some v33)).bind fun v34 =>
(cvS Tryz.prog 95 9 H v34).bind fun v35 =>
(st Tryz.prog 9 H s4 v35).bind fun h36 =>
(st Tryz.prog 36 h36 s5 (.int .i64 0)).bind fun h37 =>
((ld Tryz.prog 9 h37 s4).bind fun v38 => ((ld Tryz.prog 36 h37 s5).bind fun v39 => some (v39 :: [])).bind fun vs => some (v38 :: vs)).bind fun vs => some (oneOf vs, h37) := by kernel_rfl
theorem f51_B0_ret (k : Nat) (s0 s3 s4 s5 : Value) (H : AH) : f51_B0 k s0 s3 s4 s5 .ret H =
((ld Tryz.prog 9 H s4).bind fun v40 => ((ld Tryz.prog 36 H s5).bind fun v41 => some (v41 :: [])).bind fun vs => some (v40 :: vs)).bind fun vs => some (oneOf vs, H) := by kernel_rfl
theorem f51_Y0_eq (k : Nat) (s3 s4 s5 : Value) (x0 x1 : Value) (b : Nat) (H : AH) (hb : blk H b = some ⟨.int .i64 0 :: f51_T_R0 s3 s4 s5, 7, .loop 51 7⟩) : rn (k + 1) (yOff + b) [x0, x1] H =
b2 (newV Tryz.prog 158 H) fun v42 h42 =>
(st Tryz.prog 158 h42 v42 x1).bind fun h43 =>
(setSt h43 b 0 1).bind fun h0 =>
(fldA Tryz.prog 158 v42 0).bind fun v44 =>
(ld Tryz.prog 3 h0 v44).bind fun v45 =>
(ld Tryz.prog 3 h0 s3).bind fun v46 =>
(bin Tryz.prog .eql 3 v45 v46).bind fun v47 =>
aIf v47
 ((fldA Tryz.prog 158 v42 1).bind fun v48 =>
 (ld Tryz.prog 9 h0 v48).bind fun v49 =>
 (st Tryz.prog 9 h0 s4 v49).bind fun h50 =>
 (st Tryz.prog 36 h50 s5 (.int .i64 0)).bind fun h51 =>
 (setSt h51 b 1 2).bind fun h => some (.bool false, h))
 ((setSt h0 b 1 0).bind fun h => some (.bool true, h)) := (run_round hb).trans (by kernel_rfl)
theorem f51_eq (k : Nat) (a0 a1 : Value) (H : AH) : rn (k + 1) 51 [a0, a1] H =
b2 (box 3 H a1) fun v1 h1 =>
b2 (newV Tryz.prog 9 h1) fun v2 h2 =>
b2 (newV Tryz.prog 36 h2) fun v3 h3 =>
(nilChk a0).bind fun v4 =>
(fldA Tryz.prog 98 v4 3).bind fun v5 =>
(ld Tryz.prog 4 h3 v5).bind fun v6 =>
aIf v6
 ((st Tryz.prog 9 h3 v2 (.string ⟨#[]⟩)).bind fun h7 =>
 (st Tryz.prog 36 h7 v3 (.int .i64 7)).bind fun h8 =>
 ((ld Tryz.prog 9 h8 v2).bind fun v9 => ((ld Tryz.prog 36 h8 v3).bind fun v10 => some (v10 :: [])).bind fun vs => some (v9 :: vs)).bind fun vs => some (oneOf vs, h8))
 ((ld Tryz.prog 3 h3 v1).bind fun v11 =>
 (bin Tryz.prog .lss 3 v11 (.int .i64 0)).bind fun v12 =>
 b2 (gOp v12 false ((ld Tryz.prog 3 h3 v1).bind fun v => some (v, h3)) h3) fun v13 h13 =>
 b2 (gOp v12 false (some (a0, h3)) h3) fun v14 h14 =>
 b2 (gOp v12 false (b2 (rn k 49 [v14] h14) fun v h => some (v, h)) h14) fun v15 h15 =>
 aChk (v12 = .bool false → ld Tryz.prog 3 h15 v1 = some v13) <|
 b2 (gOp v12 false ((bin Tryz.prog .geq 3 v13 v15).bind fun v => some (v, h15)) h15) fun v16 h16 =>
 (pickV v12 (.bool true) v16).bind fun v17 =>
 aIf v17
  ((st Tryz.prog 9 h16 v2 (.string ⟨#[]⟩)).bind fun h18 =>
  (st Tryz.prog 36 h18 v3 (.int .i64 1)).bind fun h19 =>
  ((ld Tryz.prog 9 h19 v2).bind fun v20 => ((ld Tryz.prog 36 h19 v3).bind fun v21 => some (v21 :: [])).bind fun vs => some (v20 :: vs)).bind fun vs => some (oneOf vs, h19))
  ((nilChk a0).bind fun v22 =>
  (fldA Tryz.prog 98 v22 1).bind fun v23 =>
  (ld Tryz.prog 96 h16 v23).bind fun v24 =>
  b2 (rn k 86 [v24] h16) fun v25 h25 =>
  b2 (callV (rn k) v25 [(.func (.yield (List.length h25)) #[] #[])] (mkB h25 (.int .i64 0 :: (f51_T_R0 v1 v2 v3)) 7 (.loop 51 7))) fun v h => rgBack (List.length h25) h fun e h => f51_B0 k a0 v1 v2 v3 e h)) := by kernel_rfl
abbrev f52_T_L0 (s0 s1 s6 s7 : Value) : List Value := [s0, s1, unk, unk, unk, unk, s6, s7] ++ List.replicate 52 unk
abbrev f52_X_L0 (s6 : Value) : List Value := [unk, unk, unk, unk, unk, unk, s6] ++ List.replicate 53 unk
@[irreducible] def f52_L0 (k : Nat) (s0 s1 s6 s7 : Value) (n : Nat) (H : AH) : Option Out := iterD (fun T H K => evalK Tryz.prog (rn k) k (tbs 52) (codeAt (bodyOf Tryz.f52) [1, 1, 1, 0, 1, 0, 0]) T H K) (cutT (tbs 52) 22) (cutT (tbs 52) 23) n (f52_T_L0 s0 s1 s6 s7) H
@[irreducible] def f52_A0 (k : Nat) (e : EX) (T : List Value) (H : AH) : Option (Value × AH) := resume Tryz.prog (rn k) k (tbs 52) (bodyOf Tryz.f52) [1, 1, 1, 0, 1, 0] e T H (resK Tryz.prog Tryz.f52.results.toList)
theorem f52_L0_succ (k : Nat) (s0 s1 s6 s7 : Value) (n : Nat) (H : AH) : f52_L0 k s0 s1 s6 s7 (n + 1) H =
(nilChk s0).bind fun v18 =>
(fldA Tryz.prog 54 v18 1).bind fun v19 =>
(ld Tryz.prog 52 H v19).bind fun v20 =>
(lenV Tryz.prog 52 v20).bind fun v21 =>
(bin Tryz.prog .lss 3 s7 v21).bind fun v22 =>
aIf v22
 ((nilChk s0).bind fun v23 =>
 (fldA Tryz.prog 54 v23 1).bind fun v24 =>
 (ld Tryz.prog 52 H v24).bind fun v25 =>
 (ixA Tryz.prog 52 v25 s7).bind fun v26 =>
 (fldA Tryz.prog 160 v26 0).bind fun v27 =>
 (ld Tryz.prog 3 H v27).bind fun v28 =>
 (bin Tryz.prog .eql 3 v28 s1).bind fun v29 =>
 aIf v29
  ((nilChk s0).bind fun v30 =>
  (fldA Tryz.prog 54 v30 1).bind fun v31 =>
  (ld Tryz.prog 52 H v31).bind fun v32 =>
  (ixA Tryz.prog 52 v32 s7).bind fun v33 =>
  (fldA Tryz.prog 160 v33 1).bind fun v34 =>
  (ld Tryz.prog 9 H v34).bind fun v35 =>
  (bin Tryz.prog .add 3 s7 (.int .i64 1)).bind fun v36 =>
  f52_L0 k s0 s1 v35 v36 n H)
  ((bin Tryz.prog .add 3 s7 (.int .i64 1)).bind fun v37 =>
  f52_L0 k s0 s1 s6 v37 n H))
 (some ((.exit 1), (f52_X_L0 s6), H)) := by kernel_rfl
theorem f52_A0_x1 (k : Nat) (s6 : Value) (H : AH) : f52_A0 k (.exit 1) (f52_X_L0 s6) H =
some ((.tuple #[s6, (.int .i64 0)]), H) := by kernel_rfl
theorem f52_eq (k : Nat) (a0 a1 : Value) (H : AH) : rn (k + 1) 52 [a0, a1] H =
(nilChk a0).bind fun v1 =>
(fldA Tryz.prog 54 v1 3).bind fun v2 =>
(ld Tryz.prog 4 H v2).bind fun v3 =>
aIf v3
 (some ((.tuple #[(.string ⟨#[]⟩), (.int .i64 7)]), H))
 ((bin Tryz.prog .lss 3 a1 (.int .i64 0)).bind fun v4 =>
 b2 (gOp v4 false (some (a1, H)) H) fun v5 h5 =>
 b2 (gOp v4 false (some (a0, h5)) h5) fun v6 h6 =>
 b2 (gOp v4 false ((nilChk v6).bind fun v => some (v, h6)) h6) fun v7 h7 =>
 b2 (gOp v4 false ((fldA Tryz.prog 54 v7 0).bind fun v => some (v, h7)) h7) fun v8 h8 =>
 b2 (gOp v4 false ((ld Tryz.prog 51 h8 v8).bind fun v => some (v, h8)) h8) fun v9 h9 =>
 b2 (gOp v4 false ((lenV Tryz.prog 51 v9).bind fun v => some (v, h9)) h9) fun v10 h10 =>
 b2 (gOp v4 false ((bin Tryz.prog .geq 3 v5 v10).bind fun v => some (v, h10)) h10) fun v11 h11 =>
 (pickV v4 (.bool true) v11).bind fun v12 =>
 aIf v12
  (some ((.tuple #[(.string ⟨#[]⟩), (.int .i64 1)]), h11))
  ((nilChk a0).bind fun v13 =>
  (fldA Tryz.prog 54 v13 0).bind fun v14 =>
  (ld Tryz.prog 51 h11 v14).bind fun v15 =>
  (ixA Tryz.prog 51 v15 a1).bind fun v16 =>
  (ld Tryz.prog 9 h11 v16).bind fun v17 =>
  (f52_L0 k a0 a1 v17 (.int .i64 0) k h11).bind fun p => f52_A0 k p.1 p.2.1 p.2.2)) := by kernel_rfl
abbrev f53_T_L0 (s1 s3 s21 s22 s23 : Value) : List Value := [unk, s1, unk, s3] ++ List.replicate 17 unk ++ [s21, s22, s23] ++ List.replicate 23 unk
abbrev f53_X_L0 (s2 : Value) : List Value := [unk, unk, s2] ++ List.replicate 44 unk
@[irreducible] def f53_L0 (k : Nat) (s1 s3 s21 s22 s23 : Value) (n : Nat) (H : AH) : Option Out := iterD (fun T H K => evalK Tryz.prog (rn k) k (tbs 53) (codeAt (bodyOf Tryz.f53) [1, 1, 1, 0, 1, 0, 0]) T H K) (cutT (tbs 53) 16) (cutT (tbs 53) 17) n (f53_T_L0 s1 s3 s21 s22 s23) H
@[irreducible] def f53_A0 (k : Nat) (e : EX) (T : List Value) (H : AH) : Option (Value × AH) := resume Tryz.prog (rn k) k (tbs 53) (bodyOf Tryz.f53) [1, 1, 1, 0, 1, 0] e T H (resK Tryz.prog Tryz.f53.results.toList)
theorem f53_L0_succ (k : Nat) (s1 s3 s21 s22 s23 : Value) (n : Nat) (H : AH) : f53_L0 k s1 s3 s21 s22 s23 (n + 1) H =
(bin Tryz.prog .lss 3 s23 s22).bind fun v17 =>
aIf v17
 ((ixA Tryz.prog 22 s21 s23).bind fun v18 =>
 (ld Tryz.prog 71 H v18).bind fun v19 =>
 b2 (newV Tryz.prog 71 H) fun v20 h20 =>
 (st Tryz.prog 71 h20 v20 v19).bind fun h21 =>
 (fldA Tryz.prog 71 v20 0).bind fun v22 =>
 (ld Tryz.prog 3 h21 v22).bind fun v23 =>
 (bin Tryz.prog .leq 3 v23 s3).bind fun v24 =>
 b2 (gOp v24 false ((fldA Tryz.prog 71 v20 0).bind fun v => some (v, h21)) h21) fun v25 h25 =>
 b2 (gOp v24 false ((ld Tryz.prog 3 h25 v25).bind fun v => some (v, h25)) h25) fun v26 h26 =>
 b2 (gOp v24 false ((fldA Tryz.prog 24 s1 0).bind fun v => some (v, h26)) h26) fun v27 h27 =>
 b2 (gOp v24 false ((ld Tryz.prog 3 h27 v27).bind fun v => some (v, h27)) h27) fun v28 h28 =>
 b2 (gOp v24 false ((bin Tryz.prog .geq 3 v26 v28).bind fun v => some (v, h28)) h28) fun v29 h29 =>
 (pickV v24 (.bool true) v29).bind fun v30 =>
 b2 (gOp v30 false ((fldA Tryz.prog 71 v20 1).bind fun v => some (v, h29)) h29) fun v31 h31 =>
 b2 (gOp v30 false ((ld Tryz.prog 3 h31 v31).bind fun v => some (v, h31)) h31) fun v32 h32 =>
 b2 (gOp v30 false (b2 (rn k 55 [v32] h32) fun v h => some (v, h)) h32) fun v33 h33 =>
 b2 (gOp v30 false ((un Tryz.prog .not v33).bind fun v => some (v, h33)) h33) fun v34 h34 =>
 (pickV v30 (.bool true) v34).bind fun v35 =>
 aIf v35
  (some (.ret, (f53_X_L0 (.bool false)), h34))
  ((fldA Tryz.prog 71 v20 0).bind fun v36 =>
  (ld Tryz.prog 3 h34 v36).bind fun v37 =>
  (bin Tryz.prog .add 3 s23 (.int .i64 1)).bind fun v38 =>
  f53_L0 k s1 v37 s21 s22 v38 n h34))
 (some ((.exit 0), (f53_X_L0 unk), H)) := by kernel_rfl
theorem f53_A0_x0 (k : Nat) (s2 : Value) (H : AH) : f53_A0 k (.exit 0) (f53_X_L0 s2) H =
some ((.bool true), H) := by kernel_rfl
theorem f53_A0_ret (k : Nat) (s2 : Value) (H : AH) : f53_A0 k .ret (f53_X_L0 s2) H =
some (s2, H) := by kernel_rfl
theorem f53_eq (k : Nat) (a0 : Value) (H : AH) : rn (k + 1) 53 [a0] H =
b2 (box 24 H a0) fun v1 h1 =>
(fldA Tryz.prog 24 v1 0).bind fun v2 =>
(ld Tryz.prog 3 h1 v2).bind fun v3 =>
(bin Tryz.prog .lss 3 v3 (.int .i64 1)).bind fun v4 =>
b2 (gOp v4 false ((fldA Tryz.prog 24 v1 0).bind fun v => some (v, h1)) h1) fun v5 h5 =>
b2 (gOp v4 false ((ld Tryz.prog 3 h5 v5).bind fun v => some (v, h5)) h5) fun v6 h6 =>
b2 (gOp v4 false ((bin Tryz.prog .gtr 3 v6 (.int .i64 16777216)).bind fun v => some (v, h6)) h6) fun v7 h7 =>
(pickV v4 (.bool true) v7).bind fun v8 =>
b2 (gOp v8 false ((fldA Tryz.prog 24 v1 1).bind fun v => some (v, h7)) h7) fun v9 h9 =>
b2 (gOp v8 false ((ld Tryz.prog 22 h9 v9).bind fun v => some (v, h9)) h9) fun v10 h10 =>
b2 (gOp v8 false ((lenV Tryz.prog 22 v10).bind fun v => some (v, h10)) h10) fun v11 h11 =>
b2 (gOp v8 false ((bin Tryz.prog .gtr 3 v11 (.int .i64 12)).bind fun v => some (v, h11)) h11) fun v12 h12 =>
(pickV v8 (.bool true) v12).bind fun v13 =>
aIf v13
 (some ((.bool false), h12))
 ((fldA Tryz.prog 24 v1 1).bind fun v14 =>
 (ld Tryz.prog 22 h12 v14).bind fun v15 =>
 (lenV Tryz.prog 22 v15).bind fun v16 =>
 (f53_L0 k v1 (.int .i64 0) v15 v16 (.int .i64 0) k h12).bind fun p => f53_A0 k p.1 p.2.1 p.2.2) := by kernel_rfl
abbrev f54_T_L0 (s0 s3 s4 : Value) : List Value := [s0, unk, unk, s3, s4] ++ List.replicate 31 unk
abbrev f54_X_L0 (s3 : Value) : List Value := [unk, unk, unk, s3] ++ List.replicate 32 unk
abbrev f54_T_L1 (s0 s3 s4 s5 : Value) : List Value := [s0, unk, unk, s3, s4, s5] ++ List.replicate 30 unk
abbrev f54_X_L1 (s0 s3 s4 : Value) : List Value := [s0, unk, unk, s3, s4] ++ List.replicate 31 unk
@[irreducible] def f54_L0 (k : Nat) (s0 s3 s4 : Value) (n : Nat) (H : AH) : Option Out := iterD (fun T H K => evalK Tryz.prog (rn k) k (tbs 54) (codeAt (bodyOf Tryz.f54) [1, 1, 0, 1, 0, 0]) T H K) (cutT (tbs 54) 10) (cutT (tbs 54) 11) n (f54_T_L0 s0 s3 s4) H
@[irreducible] def f54_A0 (k : Nat) (e : EX) (T : List Value) (H : AH) : Option (Value × AH) := resume Tryz.prog (rn k) k (tbs 54) (bodyOf Tryz.f54) [1, 1, 0, 1, 0] e T H (resK Tryz.prog Tryz.f54.results.toList)
@[irreducible] def f54_L1 (k : Nat) (s0 s3 s4 s5 : Value) (n : Nat) (H : AH) : Option Out := iterD (fun T H K => evalK Tryz.prog (rn k) k (tbs 54) (codeAt (bodyOf Tryz.f54) [1, 1, 0, 1, 0, 0, 1, 0, 0, 1, 0, 0]) T H K) (cutT (tbs 54) 19) (cutT (tbs 54) 20) n (f54_T_L1 s0 s3 s4 s5) H
@[irreducible] def f54_A1 (k : Nat) (n : Nat) (e : EX) (T : List Value) (H : AH) : Option Out := resume Tryz.prog (rn k) k (tbs 54) (codeAt (bodyOf Tryz.f54) [1, 1, 0, 1, 0, 0]) [1, 0, 0, 1, 0] e T H (loopK (iterD (fun T H K => evalK Tryz.prog (rn k) k (tbs 54) (codeAt (bodyOf Tryz.f54) [1, 1, 0, 1, 0, 0]) T H K) (cutT (tbs 54) 10) (cutT (tbs 54) 11) n) (cutT (tbs 54) 10) (cutT (tbs 54) 11))
theorem f54_L0_succ (k : Nat) (s0 s3 s4 : Value) (n : Nat) (H : AH) : f54_L0 k s0 s3 s4 (n + 1) H =
(bin Tryz.prog .add 3 s4 (.int .i64 1)).bind fun v1 =>
(lenV Tryz.prog 82 s0).bind fun v2 =>
(bin Tryz.prog .lss 3 v1 v2).bind fun v3 =>
aIf v3
 ((ixA Tryz.prog 82 s0 s4).bind fun v4 =>
 (ld Tryz.prog 3 H v4).bind fun v5 =>
 (bin Tryz.prog .sub 3 v5 (.int .i64 1)).bind fun v6 =>
 (f54_L1 k s0 s3 s4 v6 k H).bind fun p => f54_A1 k n p.1 p.2.1 p.2.2)
 (some ((.exit 0), (f54_X_L0 s3), H)) := by kernel_rfl
theorem f54_A0_x0 (k : Nat) (s3 : Value) (H : AH) : f54_A0 k (.exit 0) (f54_X_L0 s3) H =
(cvS Tryz.prog 95 9 H s3).bind fun v7 =>
some (v7, H) := by kernel_rfl
theorem f54_L1_succ (k : Nat) (s0 s3 s4 s5 : Value) (n : Nat) (H : AH) : f54_L1 k s0 s3 s4 s5 (n + 1) H =
(bin Tryz.prog .geq 3 s5 (.int .i64 0)).bind fun v8 =>
aIf v8
 ((bin Tryz.prog .add 3 s4 (.int .i64 1)).bind fun v9 =>
 (ixA Tryz.prog 82 s0 v9).bind fun v10 =>
 (ld Tryz.prog 3 H v10).bind fun v11 =>
 (bin Tryz.prog .mul 3 (.int .i64 8) s5).bind fun v12 =>
 (bin Tryz.prog .shr 3 v11 v12).bind fun v13 =>
 (cv Tryz.prog 3 5 v13).bind fun v14 =>
 b2 (buildS Tryz.prog 95 H 1 [(0, v14)]) fun v15 h15 =>
 b2 (ap Tryz.prog 95 95 h15 s3 v15) fun v16 h16 =>
 (bin Tryz.prog .sub 3 s5 (.int .i64 1)).bind fun v17 =>
 f54_L1 k s0 v16 s4 v17 n h16)
 (some ((.exit 2), (f54_X_L1 s0 s3 s4), H)) := by kernel_rfl
theorem f54_A1_x2 (k : Nat) (n : Nat) (s0 s3 s4 : Value) (H : AH) : f54_A1 k n (.exit 2) (f54_X_L1 s0 s3 s4) H =
(bin Tryz.prog .add 3 s4 (.int .i64 2)).bind fun v18 =>
f54_L0 k s0 s3 v18 n H := by kernel_rfl
theorem f54_eq (k : Nat) (a0 : Value) (H : AH) : rn (k + 1) 54 [a0] H =
(f54_L0 k a0 (.slice none 0 0) (.int .i64 0) k H).bind fun p => f54_A0 k p.1 p.2.1 p.2.2 := by kernel_rfl
theorem f55_eq (k : Nat) (a0 : Value) (H : AH) : rn (k + 1) 55 [a0] H =
(bin Tryz.prog .eql 3 a0 (.int .i64 0)).bind fun v1 =>
b2 (gOp v1 false (some (a0, H)) H) fun v2 h2 =>
b2 (gOp v1 false ((bin Tryz.prog .geq 3 v2 (.int .i64 2)).bind fun v => some (v, h2)) h2) fun v3 h3 =>
b2 (gOp v1 false (some (v3, h3)) h3) fun v4 h4 =>
b2 (gOp v4 true (some (a0, h4)) h4) fun v5 h5 =>
b2 (gOp v4 true ((bin Tryz.prog .leq 3 v5 (.int .i64 511)).bind fun v => some (v, h5)) h5) fun v6 h6 =>
b2 (gOp v1 false ((pickV v4 v6 (.bool false)).bind fun v => some (v, h6)) h6) fun v7 h7 =>
(pickV v1 (.bool true) v7).bind fun v8 =>
some (v8, h7) := by kernel_rfl
theorem f56_eq (k : Nat) (a0 : Value) (H : AH) : rn (k + 1) 56 [a0] H =
(bin Tryz.prog .eql 22 a0 (.slice none 0 0)).bind fun v1 =>
aIf v1
 (some ((.slice none 0 0), H))
 (b2 (buildS Tryz.prog 22 H 0 []) fun v2 h2 =>
 b2 (ap Tryz.prog 22 22 h2 v2 a0) fun v3 h3 =>
 some (v3, h3)) := by kernel_rfl
abbrev f59_T_L0 (s0 s3 s6 s7 : Value) : List Value := [s0, unk, unk, s3, unk, unk, s6, s7] ++ List.replicate 11 unk
abbrev f59_X_L0 (s3 : Value) : List Value := [unk, unk, unk, s3] ++ List.replicate 15 unk
@[irreducible] def f59_L0 (k : Nat) (s0 s3 s6 s7 : Value) (n : Nat) (H : AH) : Option Out := iterD (fun T H K => evalK Tryz.prog (rn k) k (tbs 59) (codeAt (bodyOf Tryz.f59) [1, 1, 0, 1, 0, 0]) T H K) (cutT (tbs 59) 10) (cutT (tbs 59) 11) n (f59_T_L0 s0 s3 s6 s7) H
@[irreducible] def f59_A0 (k : Nat) (e : EX) (T : List Value) (H : AH) : Option (Value × AH) := resume Tryz.prog (rn k) k (tbs 59) (bodyOf Tryz.f59) [1, 1, 0, 1, 0] e T H (resK Tryz.prog Tryz.f59.results.toList)
theorem f59_L0_succ (k : Nat) (s0 s3 s6 s7 : Value) (n : Nat) (H : AH) : f59_L0 k s0 s3 s6 s7 (n + 1) H =
(bin Tryz.prog .lss 3 s7 s6).bind fun v2 =>
aIf v2
 ((bin Tryz.prog .shl 3 s3 (.int .u64 8)).bind fun v3 =>
 (ix Tryz.prog 9 s0 s7).bind fun v4 =>
 (cv Tryz.prog 5 3 v4).bind fun v5 =>
 (bin Tryz.prog .or 3 v3 v5).bind fun v6 =>
 (bin Tryz.prog .add 3 s7 (.int .i64 1)).bind fun v7 =>
 f59_L0 k s0 v6 s6 v7 n H)
 (some ((.exit 0), (f59_X_L0 s3), H)) := by kernel_rfl
theorem f59_A0_x0 (k : Nat) (s3 : Value) (H : AH) : f59_A0 k (.exit 0) (f59_X_L0 s3) H =
some (s3, H) := by kernel_rfl
theorem f59_eq (k : Nat) (a0 : Value) (H : AH) : rn (k + 1) 59 [a0] H =
(lenV Tryz.prog 9 a0).bind fun v1 =>
(f59_L0 k a0 (.int .i64 0) v1 (.int .i64 0) k H).bind fun p => f59_A0 k p.1 p.2.1 p.2.2 := by kernel_rfl
theorem f60_eq (k : Nat) (a0 : Value) (H : AH) : rn (k + 1) 60 [a0] H =
(bin Tryz.prog .lss 3 a0 (.int .i64 1)).bind fun v1 =>
b2 (gOp v1 false (some (a0, H)) H) fun v2 h2 =>
b2 (gOp v1 false ((bin Tryz.prog .gtr 3 v2 (.int .i64 1024)).bind fun v => some (v, h2)) h2) fun v3 h3 =>
(pickV v1 (.bool true) v3).bind fun v4 =>
aIf v4
 (some ((.tuple #[(.pointer none), (.int .i64 1)]), h3))
 ((bin Tryz.prog .mul 3 a0 (.int .i64 64)).bind fun v5 =>
 b2 (mkS Tryz.prog 95 h3 v5 v5) fun v6 h6 =>
 (build Tryz.prog 98 [(0, v6), (2, (.int .i64 (-1)))]).bind fun v7 =>
 b2 (box 98 h6 v7) fun v8 h8 =>
 some ((.tuple #[v8, (.int .i64 0)]), h8)) := by kernel_rfl
abbrev f61_T_L0 (s0 s3 s4 : Value) : List Value := [s0, unk, unk, s3, s4] ++ List.replicate 25 unk
abbrev f61_X_L0 (s3 : Value) : List Value := [unk, unk, unk, s3] ++ List.replicate 26 unk
@[irreducible] def f61_L0 (k : Nat) (s0 s3 s4 : Value) (n : Nat) (H : AH) : Option Out := iterD (fun T H K => evalK Tryz.prog (rn k) k (tbs 61) (codeAt (bodyOf Tryz.f61) [1, 1, 1, 0, 1, 0, 0]) T H K) (cutT (tbs 61) 16) (cutT (tbs 61) 17) n (f61_T_L0 s0 s3 s4) H
@[irreducible] def f61_A0 (k : Nat) (e : EX) (T : List Value) (H : AH) : Option (Value × AH) := resume Tryz.prog (rn k) k (tbs 61) (bodyOf Tryz.f61) [1, 1, 1, 0, 1, 0] e T H (resK Tryz.prog Tryz.f61.results.toList)
theorem f61_L0_succ (k : Nat) (s0 s3 s4 : Value) (n : Nat) (H : AH) : f61_L0 k s0 s3 s4 (n + 1) H =
(bin Tryz.prog .lss 3 s4 s0).bind fun v7 =>
aIf v7
 ((nilChk s3).bind fun v8 =>
 (fldA Tryz.prog 54 v8 0).bind fun v9 =>
 (ld Tryz.prog 51 H v9).bind fun v10 =>
 b2 (mkS Tryz.prog 95 H (.int .i64 64) (.int .i64 64)) fun v11 h11 =>
 (cvS Tryz.prog 95 9 h11 v11).bind fun v12 =>
 b2 (buildS Tryz.prog 51 h11 1 [(0, v12)]) fun v13 h13 =>
 b2 (ap Tryz.prog 51 51 h13 v10 v13) fun v14 h14 =>
 (nilChk s3).bind fun v15 =>
 (fldA Tryz.prog 54 v15 0).bind fun v16 =>
 (st Tryz.prog 51 h14 v16 v14).bind fun h17 =>
 (bin Tryz.prog .add 3 s4 (.int .i64 1)).bind fun v18 =>
 f61_L0 k s0 s3 v18 n h17)
 (some ((.exit 0), (f61_X_L0 s3), H)) := by kernel_rfl
theorem f61_A0_x0 (k : Nat) (s3 : Value) (H : AH) : f61_A0 k (.exit 0) (f61_X_L0 s3) H =
some (s3, H) := by kernel_rfl
theorem f61_eq (k : Nat) (a0 : Value) (H : AH) : rn (k + 1) 61 [a0] H =
(bin Tryz.prog .lss 3 a0 (.int .i64 1)).bind fun v1 =>
b2 (gOp v1 false (some (a0, H)) H) fun v2 h2 =>
b2 (gOp v1 false ((bin Tryz.prog .gtr 3 v2 (.int .i64 1024)).bind fun v => some (v, h2)) h2) fun v3 h3 =>
(pickV v1 (.bool true) v3).bind fun v4 =>
aIf v4
 (some ((.pointer none), h3))
 ((build Tryz.prog 54 [(2, (.int .i64 (-1)))]).bind fun v5 =>
 b2 (box 54 h3 v5) fun v6 h6 =>
 (f61_L0 k a0 v6 (.int .i64 0) k h6).bind fun p => f61_A0 k p.1 p.2.1 p.2.2) := by kernel_rfl
theorem f62_eq (k : Nat) (a0 : Value) (H : AH) : rn (k + 1) 62 [a0] H =
b2 (rn k 49 [a0] H) fun v1 h1 =>
(bin Tryz.prog .quo 3 v1 (.int .i64 2)).bind fun v2 =>
some (v2, h1) := by kernel_rfl
theorem f63_eq (k : Nat) (a0 a1 : Value) (H : AH) : rn (k + 1) 63 [a0, a1] H =
b2 (box 101 H a0) fun v1 h1 =>
(fldA Tryz.prog 101 v1 0).bind fun v2 =>
(ld Tryz.prog 3 h1 v2).bind fun v3 =>
(bin Tryz.prog .rem 3 v3 (.int .i64 2)).bind fun v4 =>
(ld Tryz.prog 101 h1 v1).bind fun v5 =>
b2 (rn k 87 [v5] h1) fun v6 h6 =>
aChk (ld Tryz.prog 3 h6 v2 = some v3) <|
b2 (rn k 45 [a1, v4, (.int .i64 1), v6] h6) fun v7 h7 =>
some (v7, h7) := by kernel_rfl
theorem f64_eq (k : Nat) (a0 : Value) (H : AH) : rn (k + 1) 64 [a0] H =
b2 (box 30 H a0) fun v1 h1 =>
(ld Tryz.prog 30 h1 v1).bind fun v2 =>
(nilChk v2).bind fun v3 =>
(fldA Tryz.prog 98 v3 3).bind fun v4 =>
(ld Tryz.prog 4 h1 v4).bind fun v5 =>
aIf v5
 (some ((.int .i64 7), h1))
 ((ld Tryz.prog 30 h1 v1).bind fun v6 =>
 b2 (rn k 88 [v6, (.func (.func 89) #[] #[v1])] h1) fun v7 h7 =>
 some (v7, h7)) := by kernel_rfl
theorem f65_eq (k : Nat) (a0 : Value) (H : AH) : rn (k + 1) 65 [a0] H =
(nilChk a0).bind fun v1 =>
(fldA Tryz.prog 54 v1 0).bind fun v2 =>
(ld Tryz.prog 51 H v2).bind fun v3 =>
(lenV Tryz.prog 51 v3).bind fun v4 =>
(bin Tryz.prog .quo 3 v4 (.int .i64 2)).bind fun v5 =>
some (v5, H) := by kernel_rfl
abbrev f66_T_L0 (s0 s1 s2 s7 s8 : Value) : List Value := [s0, s1, s2, unk, unk, unk, unk, s7, s8] ++ List.replicate 51 unk
abbrev f66_X_L0 (s1 s2 s7 : Value) : List Value := [unk, s1, s2, unk, unk, unk, unk, s7] ++ List.replicate 52 unk
abbrev f66_T_L1 (s2 s7 s9 : Value) : List Value := [unk, unk, s2, unk, unk, unk, unk, s7, unk, s9] ++ List.replicate 50 unk
abbrev f66_X_L1 (s7 : Value) : List Value := [unk, unk, unk, unk, unk, unk, unk, s7] ++ List.replicate 52 unk
@[irreducible] def f66_L0 (k : Nat) (s0 s1 s2 s7 s8 : Value) (n : Nat) (H : AH) : Option Out := iterD (fun T H K => evalK Tryz.prog (rn k) k (tbs 66) (codeAt (bodyOf Tryz.f66) [1, 1, 0, 1, 0, 0]) T H K) (cutT (tbs 66) 10) (cutT (tbs 66) 11) n (f66_T_L0 s0 s1 s2 s7 s8) H
@[irreducible] def f66_A0 (k : Nat) (e : EX) (T : List Value) (H : AH) : Option (Value × AH) := resume Tryz.prog (rn k) k (tbs 66) (bodyOf Tryz.f66) [1, 1, 0, 1, 0] e T H (resK Tryz.prog Tryz.f66.results.toList)
@[irreducible] def f66_L1 (k : Nat) (s2 s7 s9 : Value) (n : Nat) (H : AH) : Option Out := iterD (fun T H K => evalK Tryz.prog (rn k) k (tbs 66) (codeAt (bodyOf Tryz.f66) [1, 1, 1, 1, 1, 0, 1, 0, 0]) T H K) (cutT (tbs 66) 28) (cutT (tbs 66) 29) n (f66_T_L1 s2 s7 s9) H
@[irreducible] def f66_A1 (k : Nat) (e : EX) (T : List Value) (H : AH) : Option (Value × AH) := resume Tryz.prog (rn k) k (tbs 66) (bodyOf Tryz.f66) [1, 1, 1, 1, 1, 0, 1, 0] e T H (resK Tryz.prog Tryz.f66.results.toList)
theorem f66_L0_succ (k : Nat) (s0 s1 s2 s7 s8 : Value) (n : Nat) (H : AH) : f66_L0 k s0 s1 s2 s7 s8 (n + 1) H =
(bin Tryz.prog .lss 3 s8 (.int .i64 6)).bind fun v2 =>
aIf v2
 ((bin Tryz.prog .sub 3 (.int .i64 5) s8).bind fun v3 =>
 (bin Tryz.prog .mul 3 (.int .i64 8) s8).bind fun v4 =>
 (bin Tryz.prog .shr 3 s0 v4).bind fun v5 =>
 (cv Tryz.prog 3 5 v5).bind fun v6 =>
 (ixA Tryz.prog 95 s7 v3).bind fun v7 =>
 (st Tryz.prog 5 H v7 v6).bind fun h8 =>
 (bin Tryz.prog .add 3 s8 (.int .i64 1)).bind fun v9 =>
 f66_L0 k s0 s1 s2 s7 v9 n h8)
 (some ((.exit 0), (f66_X_L0 s1 s2 s7), H)) := by kernel_rfl
theorem f66_A0_x0 (k : Nat) (s1 s2 s7 : Value) (H : AH) : f66_A0 k (.exit 0) (f66_X_L0 s1 s2 s7) H =
(bin Tryz.prog .shr 3 s1 (.int .u64 8)).bind fun v10 =>
(cv Tryz.prog 3 5 v10).bind fun v11 =>
(ixA Tryz.prog 95 s7 (.int .i64 6)).bind fun v12 =>
(st Tryz.prog 5 H v12 v11).bind fun h13 =>
(cv Tryz.prog 3 5 s1).bind fun v14 =>
(ixA Tryz.prog 95 s7 (.int .i64 7)).bind fun v15 =>
(st Tryz.prog 5 h13 v15 v14).bind fun h16 =>
(f66_L1 k s2 s7 (.int .i64 0) k h16).bind fun p => f66_A1 k p.1 p.2.1 p.2.2 := by kernel_rfl
theorem f66_L1_succ (k : Nat) (s2 s7 s9 : Value) (n : Nat) (H : AH) : f66_L1 k s2 s7 s9 (n + 1) H =
(lenV Tryz.prog 81 s2).bind fun v17 =>
(bin Tryz.prog .lss 3 s9 v17).bind fun v18 =>
aIf v18
 ((ixA Tryz.prog 81 s2 s9).bind fun v19 =>
 (ld Tryz.prog 4 H v19).bind fun v20 =>
 aIf v20
  ((bin Tryz.prog .quo 3 s9 (.int .i64 8)).bind fun v21 =>
  (bin Tryz.prog .add 3 (.int .i64 8) v21).bind fun v22 =>
  (bin Tryz.prog .quo 3 s9 (.int .i64 8)).bind fun v23 =>
  (bin Tryz.prog .add 3 (.int .i64 8) v23).bind fun v24 =>
  (ixA Tryz.prog 95 s7 v24).bind fun v25 =>
  (ld Tryz.prog 5 H v25).bind fun v26 =>
  (bin Tryz.prog .rem 3 s9 (.int .i64 8)).bind fun v27 =>
  (bin Tryz.prog .shl 5 (.int .u8 1) v27).bind fun v28 =>
  (bin Tryz.prog .or 5 v26 v28).bind fun v29 =>
  (ixA Tryz.prog 95 s7 v22).bind fun v30 =>
  (st Tryz.prog 5 H v30 v29).bind fun h31 =>
  (bin Tryz.prog .add 3 s9 (.int .i64 1)).bind fun v32 =>
  f66_L1 k s2 s7 v32 n h31)
  ((bin Tryz.prog .add 3 s9 (.int .i64 1)).bind fun v33 =>
  f66_L1 k s2 s7 v33 n H))
 (some ((.exit 2), (f66_X_L1 s7), H)) := by kernel_rfl
theorem f66_A1_x2 (k : Nat) (s7 : Value) (H : AH) : f66_A1 k (.exit 2) (f66_X_L1 s7) H =
(cvS Tryz.prog 95 9 H s7).bind fun v34 =>
some (v34, H) := by kernel_rfl
theorem f66_eq (k : Nat) (a0 a1 a2 : Value) (H : AH) : rn (k + 1) 66 [a0, a1, a2] H =
b2 (mkS Tryz.prog 95 H (.int .i64 72) (.int .i64 72)) fun v1 h1 =>
(f66_L0 k a0 a1 a2 v1 (.int .i64 0) k h1).bind fun p => f66_A0 k p.1 p.2.1 p.2.2 := by kernel_rfl
abbrev f67_T_L0 (s0 s3 : Value) : List Value := [s0, unk, unk, s3] ++ List.replicate 42 unk
abbrev f67_X_L0 (s0 : Value) : List Value := [s0] ++ List.replicate 45 unk
@[irreducible] def f67_L0 (k : Nat) (s0 s3 : Value) (n : Nat) (H : AH) : Option Out := iterD (fun T H K => evalK Tryz.prog (rn k) k (tbs 67) (codeAt (bodyOf Tryz.f67) [1, 1, 0, 1, 0, 0]) T H K) (cutT (tbs 67) 19) (cutT (tbs 67) 20) n (f67_T_L0 s0 s3) H
@[irreducible] def f67_A0 (k : Nat) (e : EX) (T : List Value) (H : AH) : Option (Value × AH) := resume Tryz.prog (rn k) k (tbs 67) (bodyOf Tryz.f67) [1, 1, 0, 1, 0] e T H (resK Tryz.prog Tryz.f67.results.toList)
theorem f67_L0_succ (k : Nat) (s0 s3 : Value) (n : Nat) (H : AH) : f67_L0 k s0 s3 (n + 1) H =
(nilChk s0).bind fun v6 =>
(fldA Tryz.prog 54 v6 1).bind fun v7 =>
(ld Tryz.prog 52 H v7).bind fun v8 =>
(lenV Tryz.prog 52 v8).bind fun v9 =>
(bin Tryz.prog .lss 3 s3 v9).bind fun v10 =>
aIf v10
 ((nilChk s0).bind fun v11 =>
 (fldA Tryz.prog 54 v11 0).bind fun v12 =>
 (ld Tryz.prog 51 H v12).bind fun v13 =>
 (nilChk s0).bind fun v14 =>
 (fldA Tryz.prog 54 v14 1).bind fun v15 =>
 (ld Tryz.prog 52 H v15).bind fun v16 =>
 (ixA Tryz.prog 52 v16 s3).bind fun v17 =>
 (fldA Tryz.prog 160 v17 0).bind fun v18 =>
 (ld Tryz.prog 3 H v18).bind fun v19 =>
 (nilChk s0).bind fun v20 =>
 (fldA Tryz.prog 54 v20 1).bind fun v21 =>
 (ld Tryz.prog 52 H v21).bind fun v22 =>
 (ixA Tryz.prog 52 v22 s3).bind fun v23 =>
 (fldA Tryz.prog 160 v23 1).bind fun v24 =>
 (ld Tryz.prog 9 H v24).bind fun v25 =>
 (ixA Tryz.prog 51 v13 v19).bind fun v26 =>
 (st Tryz.prog 9 H v26 v25).bind fun h27 =>
 (bin Tryz.prog .add 3 s3 (.int .i64 1)).bind fun v28 =>
 f67_L0 k s0 v28 n h27)
 (some ((.exit 1), (f67_X_L0 s0), H)) := by kernel_rfl
theorem f67_A0_x1 (k : Nat) (s0 : Value) (H : AH) : f67_A0 k (.exit 1) (f67_X_L0 s0) H =
(nilChk s0).bind fun v29 =>
(fldA Tryz.prog 54 v29 1).bind fun v30 =>
(st Tryz.prog 52 H v30 (.slice none 0 0)).bind fun h31 =>
some ((.int .i64 0), h31) := by kernel_rfl
theorem f67_eq (k : Nat) (a0 : Value) (H : AH) : rn (k + 1) 67 [a0] H =
(nilChk a0).bind fun v1 =>
(fldA Tryz.prog 54 v1 3).bind fun v2 =>
(ld Tryz.prog 4 H v2).bind fun v3 =>
aIf v3
 (some ((.int .i64 7), H))
 (b2 (rn k 91 [a0] H) fun v4 h4 =>
 (un Tryz.prog .not v4).bind fun v5 =>
 aIf v5
  (some ((.int .i64 7), h4))
  ((f67_L0 k a0 (.int .i64 0) k h4).bind fun p => f67_A0 k p.1 p.2.1 p.2.2)) := by kernel_rfl
theorem f68_eq (k : Nat) (a0 a1 : Value) (H : AH) : rn (k + 1) 68 [a0, a1] H =
b2 (box 32 H a0) fun v1 h1 =>
b2 (box 3 h1 a1) fun v2 h2 =>
some ((.func (.func 92) #[] #[v2, v1]), h2) := by kernel_rfl
theorem f69_eq (k : Nat) (a0 a1 : Value) (H : AH) : rn (k + 1) 69 [a0, a1] H =
b2 (rn k 94 [a0] H) fun v1 h1 =>
(nilChk a0).bind fun v2 =>
(fldA Tryz.prog 129 v2 1).bind fun v3 =>
(ld Tryz.prog 95 h1 v3).bind fun v4 =>
b2 (ap Tryz.prog 95 9 h1 v4 a1) fun v5 h5 =>
(nilChk a0).bind fun v6 =>
(fldA Tryz.prog 129 v6 1).bind fun v7 =>
(st Tryz.prog 95 h5 v7 v5).bind fun h8 =>
(lenV Tryz.prog 9 a1).bind fun v9 =>
some ((.tuple #[v9, .nilIface]), h8) := by kernel_rfl
theorem f70_eq (k : Nat) (a0 : Value) (H : AH) : rn (k + 1) 70 [a0] H =
(nilChk a0).bind fun v1 =>
(fldA Tryz.prog 129 v1 1).bind fun v2 =>
(ld Tryz.prog 95 H v2).bind fun v3 =>
(sdV v3).bind fun v4 =>
(nilChk a0).bind fun v5 =>
(fldA Tryz.prog 129 v5 1).bind fun v6 =>
(ld Tryz.prog 95 H v6).bind fun v7 =>
(lenV Tryz.prog 95 v7).bind fun v8 =>
b2 (usV Tryz.prog 166 H v4 v8) fun v9 h9 =>
some (v9, h9) := by kernel_rfl
abbrev f71_T_L0 (s0 s7 s8 s9 : Value) : List Value := [s0, unk, unk, unk, unk, unk, unk, s7, s8, s9] ++ List.replicate 64 unk
abbrev f71_X_L0 (s4 s5 s6 : Value) : List Value := [unk, unk, unk, unk, s4, s5, s6] ++ List.replicate 67 unk
@[irreducible] def f71_L0 (k : Nat) (s0 s7 s8 s9 : Value) (n : Nat) (H : AH) : Option Out := iterD (fun T H K => evalK Tryz.prog (rn k) k (tbs 71) (codeAt (bodyOf Tryz.f71) [1, 1, 1, 1, 0, 0]) T H K) (cutT (tbs 71) 13) (cutT (tbs 71) 14) n (f71_T_L0 s0 s7 s8 s9) H
@[irreducible] def f71_A0 (k : Nat) (e : EX) (T : List Value) (H : AH) : Option (Value × AH) := resume Tryz.prog (rn k) k (tbs 71) (bodyOf Tryz.f71) [1, 1, 1, 1, 0] e T H (resK Tryz.prog Tryz.f71.results.toList)
theorem f71_L0_succ (k : Nat) (s0 s7 s8 s9 : Value) (n : Nat) (H : AH) : f71_L0 k s0 s7 s8 s9 (n + 1) H =
b2 (rn k 95 [s0, s9] H) fun v1 h1 =>
(ext v1 0).bind fun v2 =>
(ext v1 1).bind fun v3 =>
(ext v1 2).bind fun v4 =>
(bin Tryz.prog .neq 3 v4 (.int .i64 0)).bind fun v5 =>
aIf v5
 (some (.ret, (f71_X_L0 (.slice none 0 0) (.string ⟨#[]⟩) v4), h1))
 ((bin Tryz.prog .neq 3 v2 (.int .i64 2)).bind fun v6 =>
 b2 (gOp v6 false (some (v3, h1)) h1) fun v7 h7 =>
 b2 (gOp v6 false ((lenV Tryz.prog 9 v7).bind fun v => some (v, h7)) h7) fun v8 h8 =>
 b2 (gOp v6 false ((bin Tryz.prog .lss 3 v8 (.int .i64 2)).bind fun v => some (v, h8)) h8) fun v9 h9 =>
 (pickV v6 (.bool true) v9).bind fun v10 =>
 b2 (gOp v10 false (some (s7, h9)) h9) fun v11 h11 =>
 b2 (gOp v10 false ((lenV Tryz.prog 82 v11).bind fun v => some (v, h11)) h11) fun v12 h12 =>
 b2 (gOp v10 false ((bin Tryz.prog .geq 3 v12 (.int .i64 512)).bind fun v => some (v, h12)) h12) fun v13 h13 =>
 (pickV v10 (.bool true) v13).bind fun v14 =>
 aIf v14
  (some (.ret, (f71_X_L0 (.slice none 0 0) (.string ⟨#[]⟩) (.int .i64 2)), h13))
  (b2 (buildS Tryz.prog 82 h13 1 [(0, s9)]) fun v15 h15 =>
  b2 (ap Tryz.prog 82 82 h15 s7 v15) fun v16 h16 =>
  (slc Tryz.prog 9 v3 (some (.int .i64 2)) none).bind fun v17 =>
  (bin Tryz.prog .add 9 s8 v17).bind fun v18 =>
  (ix Tryz.prog 9 v3 (.int .i64 0)).bind fun v19 =>
  (cv Tryz.prog 5 3 v19).bind fun v20 =>
  (bin Tryz.prog .shl 3 v20 (.int .u64 8)).bind fun v21 =>
  (ix Tryz.prog 9 v3 (.int .i64 1)).bind fun v22 =>
  (cv Tryz.prog 5 3 v22).bind fun v23 =>
  (bin Tryz.prog .or 3 v21 v23).bind fun v24 =>
  (bin Tryz.prog .eql 3 v24 (.int .i64 0)).bind fun v25 =>
  aIf v25
   (some (.ret, (f71_X_L0 v16 v18 (.int .i64 0)), h16))
   ((bin Tryz.prog .eql 3 v24 (.int .i64 1)).bind fun v26 =>
   b2 (gOp v26 false (some (v24, h16)) h16) fun v27 h27 =>
   b2 (gOp v26 false (some (s0, h27)) h27) fun v28 h28 =>
   b2 (gOp v26 false ((nilChk v28).bind fun v => some (v, h28)) h28) fun v29 h29 =>
   b2 (gOp v26 false ((fldA Tryz.prog 84 v29 3).bind fun v => some (v, h29)) h29) fun v30 h30 =>
   b2 (gOp v26 false ((ld Tryz.prog 81 h30 v30).bind fun v => some (v, h30)) h30) fun v31 h31 =>
   b2 (gOp v26 false ((lenV Tryz.prog 81 v31).bind fun v => some (v, h31)) h31) fun v32 h32 =>
   b2 (gOp v26 false ((bin Tryz.prog .geq 3 v27 v32).bind fun v => some (v, h32)) h32) fun v33 h33 =>
   (pickV v26 (.bool true) v33).bind fun v34 =>
   b2 (gOp v34 false (some (v16, h33)) h33) fun v35 h35 =>
   b2 (gOp v34 false (some (v24, h35)) h35) fun v36 h36 =>
   b2 (gOp v34 false (b2 (rn k 96 [v35, v36] h36) fun v h => some (v, h)) h36) fun v37 h37 =>
   (pickV v34 (.bool true) v37).bind fun v38 =>
   aIf v38
    (some (.ret, (f71_X_L0 (.slice none 0 0) (.string ⟨#[]⟩) (.int .i64 2)), h37))
    (f71_L0 k s0 v16 v18 v24 n h37)))) := by kernel_rfl
theorem f71_A0_ret (k : Nat) (s4 s5 s6 : Value) (H : AH) : f71_A0 k .ret (f71_X_L0 s4 s5 s6) H =
some ((.tuple #[s4, s5, s6]), H) := by kernel_rfl
theorem f71_eq (k : Nat) (a0 a1 : Value) (H : AH) : rn (k + 1) 71 [a0, a1] H =
(f71_L0 k a0 (.slice none 0 0) (.string ⟨#[]⟩) a1 k H).bind fun p => f71_A0 k p.1 p.2.1 p.2.2 := by kernel_rfl
theorem f72_eq (k : Nat) (a0 : Value) (H : AH) : rn (k + 1) 72 [a0] H =
(ix Tryz.prog 9 a0 (.int .i64 0)).bind fun v1 =>
(cv Tryz.prog 5 3 v1).bind fun v2 =>
(bin Tryz.prog .shl 3 v2 (.int .u64 24)).bind fun v3 =>
(ix Tryz.prog 9 a0 (.int .i64 1)).bind fun v4 =>
(cv Tryz.prog 5 3 v4).bind fun v5 =>
(bin Tryz.prog .shl 3 v5 (.int .u64 16)).bind fun v6 =>
(bin Tryz.prog .or 3 v3 v6).bind fun v7 =>
(ix Tryz.prog 9 a0 (.int .i64 2)).bind fun v8 =>
(cv Tryz.prog 5 3 v8).bind fun v9 =>
(bin Tryz.prog .shl 3 v9 (.int .u64 8)).bind fun v10 =>
(bin Tryz.prog .or 3 v7 v10).bind fun v11 =>
(ix Tryz.prog 9 a0 (.int .i64 3)).bind fun v12 =>
(cv Tryz.prog 5 3 v12).bind fun v13 =>
(bin Tryz.prog .or 3 v11 v13).bind fun v14 =>
some (v14, H) := by kernel_rfl
abbrev f73_T_L0 (s1 s3 : Value) : List Value := [unk, s1, unk, s3] ++ List.replicate 59 unk
abbrev f73_X_L0 (s2 : Value) : List Value := [unk, unk, s2] ++ List.replicate 60 unk
@[irreducible] def f73_L0 (k : Nat) (s1 s3 : Value) (n : Nat) (H : AH) : Option Out := iterD (fun T H K => evalK Tryz.prog (rn k) k (tbs 73) (codeAt (bodyOf Tryz.f73) [1, 1, 0, 1, 0, 0]) T H K) (cutT (tbs 73) 13) (cutT (tbs 73) 14) n (f73_T_L0 s1 s3) H
@[irreducible] def f73_A0 (k : Nat) (e : EX) (T : List Value) (H : AH) : Option (Value × AH) := resume Tryz.prog (rn k) k (tbs 73) (bodyOf Tryz.f73) [1, 1, 0, 1, 0] e T H (resK Tryz.prog Tryz.f73.results.toList)
theorem f73_L0_succ (k : Nat) (s1 s3 : Value) (n : Nat) (H : AH) : f73_L0 k s1 s3 (n + 1) H =
(fldA Tryz.prog 41 s1 1).bind fun v14 =>
(ld Tryz.prog 39 H v14).bind fun v15 =>
(lenV Tryz.prog 39 v15).bind fun v16 =>
(bin Tryz.prog .lss 3 s3 v16).bind fun v17 =>
aIf v17
 ((fldA Tryz.prog 41 s1 1).bind fun v18 =>
 (ld Tryz.prog 39 H v18).bind fun v19 =>
 (ixA Tryz.prog 39 v19 s3).bind fun v20 =>
 (ld Tryz.prog 94 H v20).bind fun v21 =>
 b2 (newV Tryz.prog 94 H) fun v22 h22 =>
 (st Tryz.prog 94 h22 v22 v21).bind fun h23 =>
 (fldA Tryz.prog 94 v22 0).bind fun v24 =>
 (ld Tryz.prog 3 h23 v24).bind fun v25 =>
 (bin Tryz.prog .lss 3 v25 (.int .i64 1)).bind fun v26 =>
 b2 (gOp v26 false ((fldA Tryz.prog 94 v22 0).bind fun v => some (v, h23)) h23) fun v27 h27 =>
 b2 (gOp v26 false ((ld Tryz.prog 3 h27 v27).bind fun v => some (v, h27)) h27) fun v28 h28 =>
 b2 (gOp v26 false ((fldA Tryz.prog 41 s1 0).bind fun v => some (v, h27)) h27) fun v29 h29 =>
 b2 (gOp v26 false ((ld Tryz.prog 3 h29 v29).bind fun v => some (v, h29)) h29) fun v30 h30 =>
 b2 (gOp v26 false ((bin Tryz.prog .geq 3 v28 v30).bind fun v => some (v, h29)) h29) fun v31 h31 =>
 (pickV v26 (.bool true) v31).bind fun v32 =>
 b2 (gOp v32 false ((fldA Tryz.prog 94 v22 1).bind fun v => some (v, h31)) h31) fun v33 h33 =>
 b2 (gOp v32 false ((ld Tryz.prog 3 h33 v33).bind fun v => some (v, h33)) h33) fun v34 h34 =>
 b2 (gOp v32 false (b2 (rn k 97 [v34] h33) fun v h => some (v, h)) h33) fun v35 h35 =>
 b2 (gOp v32 false ((un Tryz.prog .not v35).bind fun v => some (v, h35)) h35) fun v36 h36 =>
 (pickV v32 (.bool true) v36).bind fun v37 =>
 b2 (gOp v37 false (some (s3, h36)) h36) fun v38 h38 =>
 b2 (gOp v37 false ((bin Tryz.prog .gtr 3 v38 (.int .i64 0)).bind fun v => some (v, h38)) h38) fun v39 h39 =>
 b2 (gOp v37 false (some (v39, h39)) h39) fun v40 h40 =>
 b2 (gOp v40 true ((fldA Tryz.prog 41 s1 1).bind fun v => some (v, h40)) h40) fun v41 h41 =>
 b2 (gOp v40 true ((ld Tryz.prog 39 h41 v41).bind fun v => some (v, h41)) h41) fun v42 h42 =>
 b2 (gOp v40 true (some (s3, h41)) h41) fun v43 h43 =>
 b2 (gOp v40 true ((bin Tryz.prog .sub 3 v43 (.int .i64 1)).bind fun v => some (v, h43)) h43) fun v44 h44 =>
 b2 (gOp v40 true ((ixA Tryz.prog 39 v42 v44).bind fun v => some (v, h44)) h44) fun v45 h45 =>
 b2 (gOp v40 true ((fldA Tryz.prog 94 v45 0).bind fun v => some (v, h45)) h45) fun v46 h46 =>
 b2 (gOp v40 true ((ld Tryz.prog 3 h46 v46).bind fun v => some (v, h46)) h46) fun v47 h47 =>
 b2 (gOp v40 true ((fldA Tryz.prog 94 v22 0).bind fun v => some (v, h46)) h46) fun v48 h48 =>
 b2 (gOp v40 true ((ld Tryz.prog 3 h48 v48).bind fun v => some (v, h48)) h48) fun v49 h49 =>
 b2 (gOp v40 true ((bin Tryz.prog .geq 3 v47 v49).bind fun v => some (v, h48)) h48) fun v50 h50 =>
 b2 (gOp v37 false ((pickV v40 v50 (.bool false)).bind fun v => some (v, h50)) h50) fun v51 h51 =>
 (pickV v37 (.bool true) v51).bind fun v52 =>
 aIf v52
  (some (.ret, (f73_X_L0 (.bool false)), h51))
  ((bin Tryz.prog .add 3 s3 (.int .i64 1)).bind fun v53 =>
  f73_L0 k s1 v53 n h51))
 (some ((.exit 0), (f73_X_L0 unk), H)) := by kernel_rfl
theorem f73_A0_x0 (k : Nat) (s2 : Value) (H : AH) : f73_A0 k (.exit 0) (f73_X_L0 s2) H =
some ((.bool true), H) := by kernel_rfl
theorem f73_A0_ret (k : Nat) (s2 : Value) (H : AH) : f73_A0 k .ret (f73_X_L0 s2) H =
some (s2, H) := by kernel_rfl
theorem f73_eq (k : Nat) (a0 : Value) (H : AH) : rn (k + 1) 73 [a0] H =
b2 (box 41 H a0) fun v1 h1 =>
(fldA Tryz.prog 41 v1 0).bind fun v2 =>
(ld Tryz.prog 3 h1 v2).bind fun v3 =>
(bin Tryz.prog .lss 3 v3 (.int .i64 1)).bind fun v4 =>
b2 (gOp v4 false ((fldA Tryz.prog 41 v1 0).bind fun v => some (v, h1)) h1) fun v5 h5 =>
b2 (gOp v4 false ((ld Tryz.prog 3 h5 v5).bind fun v => some (v, h5)) h5) fun v6 h6 =>
b2 (gOp v4 false ((bin Tryz.prog .gtr 3 v6 (.int .i64 16777216)).bind fun v => some (v, h6)) h6) fun v7 h7 =>
(pickV v4 (.bool true) v7).bind fun v8 =>
b2 (gOp v8 false ((fldA Tryz.prog 41 v1 1).bind fun v => some (v, h7)) h7) fun v9 h9 =>
b2 (gOp v8 false ((ld Tryz.prog 39 h9 v9).bind fun v => some (v, h9)) h9) fun v10 h10 =>
b2 (gOp v8 false ((lenV Tryz.prog 39 v10).bind fun v => some (v, h10)) h10) fun v11 h11 =>
b2 (gOp v8 false ((bin Tryz.prog .gtr 3 v11 (.int .i64 12)).bind fun v => some (v, h11)) h11) fun v12 h12 =>
(pickV v8 (.bool true) v12).bind fun v13 =>
aIf v13
 (some ((.bool false), h12))
 ((f73_L0 k v1 (.int .i64 0) k h12).bind fun p => f73_A0 k p.1 p.2.1 p.2.2) := by kernel_rfl
theorem f74_eq (k : Nat) (a0 : Value) (H : AH) : rn (k + 1) 74 [a0] H =
(nilChk a0).bind fun v1 =>
(fldA Tryz.prog 103 v1 2).bind fun v2 =>
(ld Tryz.prog 82 H v2).bind fun v3 =>
b2 (rn k 98 [v3] H) fun v4 h4 =>
some (v4, h4) := by kernel_rfl
abbrev f75_T_L0 (s0 s1 s6 s16 s17 : Value) : List Value := [s0, s1, unk, unk, unk, unk, s6] ++ List.replicate 9 unk ++ [s16, s17] ++ List.replicate 56 unk
abbrev f75_X_L0 (s0 s1 s4 s5 s6 : Value) : List Value := [s0, s1, unk, unk, s4, s5, s6] ++ List.replicate 67 unk
abbrev f75_T_L1 (s0 s1 s6 s32 s33 s34 : Value) : List Value := [s0, s1, unk, unk, unk, unk, s6] ++ List.replicate 25 unk ++ [s32, s33, s34] ++ List.replicate 39 unk
abbrev f75_X_L1 (s4 s5 s6 : Value) : List Value := [unk, unk, unk, unk, s4, s5, s6] ++ List.replicate 67 unk
abbrev f75_T_J0 (s0 s1 s6 s10 s11 s32 s33 s34 : Value) : List Value := [s0, s1, unk, unk, unk, unk, s6, unk, unk, unk, s10, s11] ++ List.replicate 20 unk ++ [s32, s33, s34] ++ List.replicate 39 unk
@[irreducible] def f75_L0 (k : Nat) (s0 s1 s6 s16 s17 : Value) (n : Nat) (H : AH) : Option Out := iterD (fun T H K => evalK Tryz.prog (rn k) k (tbs 75) (codeAt (bodyOf Tryz.f75) [1, 1, 0, 1, 0, 0]) T H K) (cutT (tbs 75) 10) (cutT (tbs 75) 11) n (f75_T_L0 s0 s1 s6 s16 s17) H
@[irreducible] def f75_A0 (k : Nat) (e : EX) (T : List Value) (H : AH) : Option (Value × AH) := resume Tryz.prog (rn k) k (tbs 75) (bodyOf Tryz.f75) [1, 1, 0, 1, 0] e T H (resK Tryz.prog Tryz.f75.results.toList)
@[irreducible] def f75_L1 (k : Nat) (s0 s1 s6 s32 s33 s34 : Value) (n : Nat) (H : AH) : Option Out := iterD (fun T H K => evalK Tryz.prog (rn k) k (tbs 75) (codeAt (bodyOf Tryz.f75) [1, 1, 1, 0, 1, 0, 0]) T H K) (cutT (tbs 75) 31) (cutT (tbs 75) 32) n (f75_T_L1 s0 s1 s6 s32 s33 s34) H
@[irreducible] def f75_A1 (k : Nat) (e : EX) (T : List Value) (H : AH) : Option (Value × AH) := resume Tryz.prog (rn k) k (tbs 75) (bodyOf Tryz.f75) [1, 1, 1, 0, 1, 0] e T H (resK Tryz.prog Tryz.f75.results.toList)
@[irreducible] def f75_J0 (k : Nat) (n : Nat) (s0 s1 s6 s10 s11 s32 s33 s34 : Value) (H : AH) : Option Out := resume Tryz.prog (rn k) k (tbs 75) (codeAt (bodyOf Tryz.f75) [1, 1, 1, 0, 1, 0, 0]) [1, 1, 0, 0, 1, 1, 0] .normal (f75_T_J0 s0 s1 s6 s10 s11 s32 s33 s34) H (loopK (iterD (fun T H K => evalK Tryz.prog (rn k) k (tbs 75) (codeAt (bodyOf Tryz.f75) [1, 1, 1, 0, 1, 0, 0]) T H K) (cutT (tbs 75) 31) (cutT (tbs 75) 32) n) (cutT (tbs 75) 31) (cutT (tbs 75) 32))
theorem f75_L0_succ (k : Nat) (s0 s1 s6 s16 s17 : Value) (n : Nat) (H : AH) : f75_L0 k s0 s1 s6 s16 s17 (n + 1) H =
(bin Tryz.prog .lss 3 s17 s16).bind fun v3 =>
aIf v3
 (b2 (rn k 16 [s0] H) fun v4 h4 =>
 (ext v4 0).bind fun v5 =>
 (ext v4 1).bind fun v6 =>
 (bin Tryz.prog .neq 36 v6 (.int .i64 0)).bind fun v7 =>
 aIf v7
  (some (.ret, (f75_X_L0 s0 s1 (.slice none 0 0) v6 s6), h4))
  (b2 (buildS Tryz.prog 82 h4 1 [(0, v5)]) fun v8 h8 =>
  b2 (ap Tryz.prog 82 82 h8 s6 v8) fun v9 h9 =>
  (bin Tryz.prog .add 3 s17 (.int .i64 1)).bind fun v10 =>
  f75_L0 k s0 s1 v9 s16 v10 n h9))
 (some ((.exit 0), (f75_X_L0 s0 s1 unk unk s6), H)) := by kernel_rfl
theorem f75_A0_x0 (k : Nat) (s0 s1 s4 s5 s6 : Value) (H : AH) : f75_A0 k (.exit 0) (f75_X_L0 s0 s1 s4 s5 s6) H =
(lenV Tryz.prog 82 s6).bind fun v11 =>
(f75_L1 k s0 s1 s6 s6 v11 (.int .i64 0) k H).bind fun p => f75_A1 k p.1 p.2.1 p.2.2 := by kernel_rfl
theorem f75_A0_ret (k : Nat) (s0 s1 s4 s5 s6 : Value) (H : AH) : f75_A0 k .ret (f75_X_L0 s0 s1 s4 s5 s6) H =
some ((.tuple #[s4, s5]), H) := by kernel_rfl
theorem f75_L1_succ (k : Nat) (s0 s1 s6 s32 s33 s34 : Value) (n : Nat) (H : AH) : f75_L1 k s0 s1 s6 s32 s33 s34 (n + 1) H =
(bin Tryz.prog .lss 3 s34 s33).bind fun v12 =>
aIf v12
 ((ixA Tryz.prog 82 s32 s34).bind fun v13 =>
 (ld Tryz.prog 3 H v13).bind fun v14 =>
 (lenV Tryz.prog 82 s6).bind fun v15 =>
 (bin Tryz.prog .sub 3 v15 (.int .i64 1)).bind fun v16 =>
 (bin Tryz.prog .lss 3 s34 v16).bind fun v17 =>
 aIf v17
  ((bin Tryz.prog .add 3 s34 (.int .i64 1)).bind fun v18 =>
  (ixA Tryz.prog 82 s6 v18).bind fun v19 =>
  (ld Tryz.prog 3 H v19).bind fun v20 =>
  f75_J0 k n s0 s1 s6 v14 v20 s32 s33 s34 H)
  (f75_J0 k n s0 s1 s6 v14 (.int .i64 0) s32 s33 s34 H))
 (some ((.exit 2), (f75_X_L1 unk unk s6), H)) := by kernel_rfl
theorem f75_A1_x2 (k : Nat) (s4 s5 s6 : Value) (H : AH) : f75_A1 k (.exit 2) (f75_X_L1 s4 s5 s6) H =
some ((.tuple #[s6, (.int .i64 0)]), H) := by kernel_rfl
theorem f75_A1_ret (k : Nat) (s4 s5 s6 : Value) (H : AH) : f75_A1 k .ret (f75_X_L1 s4 s5 s6) H =
some ((.tuple #[s4, s5]), H) := by kernel_rfl
theorem f75_J0_eq (k : Nat) (n : Nat) (s0 s1 s6 s10 s11 s32 s33 s34 : Value) (H : AH) : f75_J0 k n s0 s1 s6 s10 s11 s32 s33 s34 H =
(lenV Tryz.prog 9 s1).bind fun v21 =>
(fold1 minV [v21, (.int .i64 118)]).bind fun v22 =>
(bin Tryz.prog .shr 3 s11 (.int .u64 8)).bind fun v23 =>
(cv Tryz.prog 3 5 v23).bind fun v24 =>
(cv Tryz.prog 3 5 s11).bind fun v25 =>
b2 (buildS Tryz.prog 95 H 2 [(0, v24), (1, v25)]) fun v26 h26 =>
(cvS Tryz.prog 95 9 h26 v26).bind fun v27 =>
(slc Tryz.prog 9 s1 none (some v22)).bind fun v28 =>
(bin Tryz.prog .add 9 v27 v28).bind fun v29 =>
b2 (rn k 18 [s0, s10, (.int .i64 2), v29] h26) fun v30 h30 =>
(bin Tryz.prog .neq 36 v30 (.int .i64 0)).bind fun v31 =>
aIf v31
 (some (.ret, (f75_X_L1 (.slice none 0 0) v30 s6), h30))
 ((slc Tryz.prog 9 s1 (some v22) none).bind fun v32 =>
 (bin Tryz.prog .add 3 s34 (.int .i64 1)).bind fun v33 =>
 f75_L1 k s0 v32 s6 s32 s33 v33 n h30) := by kernel_rfl
theorem f75_eq (k : Nat) (a0 a1 : Value) (H : AH) : rn (k + 1) 75 [a0, a1] H =
(lenV Tryz.prog 9 a1).bind fun v1 =>
b2 (rn k 99 [v1] H) fun v2 h2 =>
(f75_L0 k a0 a1 (.slice none 0 0) v2 (.int .i64 0) k h2).bind fun p => f75_A0 k p.1 p.2.1 p.2.2 := by kernel_rfl
theorem f76_eq (k : Nat) (a0 a1 : Value) (H : AH) : rn (k + 1) 76 [a0, a1] H =
(nilChk a0).bind fun v1 =>
(fldA Tryz.prog 103 v1 2).bind fun v2 =>
(ld Tryz.prog 82 H v2).bind fun v3 =>
(fold1 maxV [a1, (.int .i64 0)]).bind fun v4 =>
(nilChk a0).bind fun v5 =>
(fldA Tryz.prog 103 v5 2).bind fun v6 =>
(ld Tryz.prog 82 H v6).bind fun v7 =>
(lenV Tryz.prog 82 v7).bind fun v8 =>
(fold1 minV [v4, v8]).bind fun v9 =>
(slc Tryz.prog 82 v3 none (some v9)).bind fun v10 =>
(nilChk a0).bind fun v11 =>
(fldA Tryz.prog 103 v11 2).bind fun v12 =>
(st Tryz.prog 82 H v12 v10).bind fun h13 =>
some ((.tuple #[]), h13) := by kernel_rfl
theorem f77_eq (k : Nat) (a0 : Value) (H : AH) : rn (k + 1) 77 [a0] H =
(bin Tryz.prog .shr 3 a0 (.int .u64 24)).bind fun v1 =>
(cv Tryz.prog 3 5 v1).bind fun v2 =>
(bin Tryz.prog .shr 3 a0 (.int .u64 16)).bind fun v3 =>
(cv Tryz.prog 3 5 v3).bind fun v4 =>
(bin Tryz.prog .shr 3 a0 (.int .u64 8)).bind fun v5 =>
(cv Tryz.prog 3 5 v5).bind fun v6 =>
(cv Tryz.prog 3 5 a0).bind fun v7 =>
b2 (buildS Tryz.prog 95 H 4 [(0, v2), (1, v4), (2, v6), (3, v7)]) fun v8 h8 =>
(cvS Tryz.prog 95 9 h8 v8).bind fun v9 =>
some (v9, h8) := by kernel_rfl
theorem f78_eq (k : Nat) (a0 : Value) (H : AH) : rn (k + 1) 78 [a0] H =
(fold1 maxV [a0, (.int .i64 0)]).bind fun v1 =>
(fold1 minV [v1, (.int .i64 1048576)]).bind fun v2 =>
(bin Tryz.prog .add 3 v2 (.int .i64 118)).bind fun v3 =>
(bin Tryz.prog .sub 3 v3 (.int .i64 1)).bind fun v4 =>
(bin Tryz.prog .quo 3 v4 (.int .i64 118)).bind fun v5 =>
(fold1 maxV [(.int .i64 1), v5]).bind fun v6 =>
some (v6, H) := by kernel_rfl
theorem f79_eq (k : Nat) (a0 a1 : Value) (H : AH) : rn (k + 1) 79 [a0, a1] H =
(nilChk a0).bind fun v1 =>
(fldA Tryz.prog 84 v1 4).bind fun v2 =>
(ld Tryz.prog 82 H v2).bind fun v3 =>
(fold1 maxV [a1, (.int .i64 0)]).bind fun v4 =>
(nilChk a0).bind fun v5 =>
(fldA Tryz.prog 84 v5 4).bind fun v6 =>
(ld Tryz.prog 82 H v6).bind fun v7 =>
(lenV Tryz.prog 82 v7).bind fun v8 =>
(fold1 minV [v4, v8]).bind fun v9 =>
(slc Tryz.prog 82 v3 none (some v9)).bind fun v10 =>
(nilChk a0).bind fun v11 =>
(fldA Tryz.prog 84 v11 4).bind fun v12 =>
(st Tryz.prog 82 H v12 v10).bind fun h13 =>
some ((.tuple #[]), h13) := by kernel_rfl
theorem f80_eq (k : Nat) (a0 a1 : Value) (H : AH) : rn (k + 1) 80 [a0, a1] H =
(ld Tryz.prog 101 H a0).bind fun v1 =>
(ld Tryz.prog 32 H a1).bind fun v2 =>
(nilChk v2).bind fun v3 =>
(fldA Tryz.prog 103 v3 1).bind fun v4 =>
(ld Tryz.prog 30 H v4).bind fun v5 =>
b2 (rn k 63 [v1, v5] H) fun v6 h6 =>
some (v6, h6) := by kernel_rfl
abbrev f81_T_L0 (s0 s1 s7 s8 : Value) : List Value := [s0, s1, unk, unk, unk, unk, unk, s7, s8] ++ List.replicate 10 unk
abbrev f81_X_L0 (s4 : Value) : List Value := [unk, unk, unk, unk, s4] ++ List.replicate 14 unk
@[irreducible] def f81_L0 (k : Nat) (s0 s1 s7 s8 : Value) (n : Nat) (H : AH) : Option Out := iterD (fun T H K => evalK Tryz.prog (rn k) k (tbs 81) (codeAt (bodyOf Tryz.f81) [1, 0, 1, 0, 0]) T H K) (cutT (tbs 81) 7) (cutT (tbs 81) 8) n (f81_T_L0 s0 s1 s7 s8) H
@[irreducible] def f81_A0 (k : Nat) (e : EX) (T : List Value) (H : AH) : Option (Value × AH) := resume Tryz.prog (rn k) k (tbs 81) (bodyOf Tryz.f81) [1, 0, 1, 0] e T H (resK Tryz.prog Tryz.f81.results.toList)
theorem f81_L0_succ (k : Nat) (s0 s1 s7 s8 : Value) (n : Nat) (H : AH) : f81_L0 k s0 s1 s7 s8 (n + 1) H =
(bin Tryz.prog .lss 3 s8 s7).bind fun v2 =>
aIf v2
 ((ixA Tryz.prog 82 s0 s8).bind fun v3 =>
 (ld Tryz.prog 3 H v3).bind fun v4 =>
 (bin Tryz.prog .eql 3 s1 v4).bind fun v5 =>
 aIf v5
  (some (.ret, (f81_X_L0 s8), H))
  ((bin Tryz.prog .add 3 s8 (.int .i64 1)).bind fun v6 =>
  f81_L0 k s0 s1 s7 v6 n H))
 (some ((.exit 0), (f81_X_L0 unk), H)) := by kernel_rfl
theorem f81_A0_x0 (k : Nat) (s4 : Value) (H : AH) : f81_A0 k (.exit 0) (f81_X_L0 s4) H =
some ((.int .i64 (-1)), H) := by kernel_rfl
theorem f81_A0_ret (k : Nat) (s4 : Value) (H : AH) : f81_A0 k .ret (f81_X_L0 s4) H =
some (s4, H) := by kernel_rfl
theorem f81_eq (k : Nat) (a0 a1 : Value) (H : AH) : rn (k + 1) 81 [a0, a1] H =
(lenV Tryz.prog 82 a0).bind fun v1 =>
(f81_L0 k a0 a1 v1 (.int .i64 0) k H).bind fun p => f81_A0 k p.1 p.2.1 p.2.2 := by kernel_rfl
theorem f82_eq (k : Nat) (a0 a1 : Value) (H : AH) : rn (k + 1) 82 [a0, a1] H =
(bin Tryz.prog .lss 3 a0 (.int .i64 1)).bind fun v1 =>
b2 (gOp v1 false (some (a0, H)) H) fun v2 h2 =>
b2 (gOp v1 false ((bin Tryz.prog .gtr 3 v2 (.int .i64 9)).bind fun v => some (v, h2)) h2) fun v3 h3 =>
(pickV v1 (.bool true) v3).bind fun v4 =>
b2 (gOp v4 false (some (a1, h3)) h3) fun v5 h5 =>
b2 (gOp v4 false ((lenV Tryz.prog 9 v5).bind fun v => some (v, h5)) h5) fun v6 h6 =>
b2 (gOp v4 false ((bin Tryz.prog .gtr 3 v6 (.int .i64 120)).bind fun v => some (v, h6)) h6) fun v7 h7 =>
(pickV v4 (.bool true) v7).bind fun v8 =>
aIf v8
 (some ((.tuple #[(.string ⟨#[]⟩), (.int .i64 1)]), h7))
 ((cv Tryz.prog 3 171 a0).bind fun v9 =>
 (lenV Tryz.prog 9 a1).bind fun v10 =>
 (cv Tryz.prog 3 171 v10).bind fun v11 =>
 b2 (buildS Tryz.prog 180 h7 2 [(0, v9), (1, v11)]) fun v12 h12 =>
 b2 (rn k 100 [v12] h12) fun v13 h13 =>
 (bin Tryz.prog .add 9 (.string ⟨#[65, 83]⟩) v13).bind fun v14 =>
 (bin Tryz.prog .add 9 v14 a1).bind fun v15 =>
 (lenV Tryz.prog 9 v15).bind fun v16 =>
 (bin Tryz.prog .sub 3 (.int .i64 124) v16).bind fun v17 =>
 b2 (rn k 101 [(.string ⟨#[0]⟩), v17] h13) fun v18 h18 =>
 (bin Tryz.prog .add 9 v15 v18).bind fun v19 =>
 b2 (rn k 102 [v19] h18) fun v20 h20 =>
 (bin Tryz.prog .add 9 v19 v20).bind fun v21 =>
 some ((.tuple #[v21, (.int .i64 0)]), h20)) := by kernel_rfl
theorem f83_eq (k : Nat) (a0 a1 a2 : Value) (H : AH) : rn (k + 1) 83 [a0, a1, a2] H =
b2 (box 30 H a0) fun v1 h1 =>
b2 (box 3 h1 a1) fun v2 h2 =>
b2 (box 9 h2 a2) fun v3 h3 =>
(ld Tryz.prog 30 h3 v1).bind fun v4 =>
(nilChk v4).bind fun v5 =>
(fldA Tryz.prog 98 v5 3).bind fun v6 =>
(ld Tryz.prog 4 h3 v6).bind fun v7 =>
aIf v7
 (some ((.int .i64 7), h3))
 ((ld Tryz.prog 3 h3 v2).bind fun v8 =>
 (bin Tryz.prog .lss 3 v8 (.int .i64 0)).bind fun v9 =>
 b2 (gOp v9 false ((ld Tryz.prog 3 h3 v2).bind fun v => some (v, h3)) h3) fun v10 h10 =>
 b2 (gOp v9 false ((ld Tryz.prog 30 h3 v1).bind fun v => some (v, h3)) h3) fun v11 h11 =>
 b2 (gOp v9 false (b2 (rn k 49 [v11] h3) fun v h => some (v, h)) h3) fun v12 h12 =>
 aChk (v9 = .bool false → ld Tryz.prog 3 h12 v2 = some v10) <|
 b2 (gOp v9 false ((bin Tryz.prog .geq 3 v10 v12).bind fun v => some (v, h12)) h12) fun v13 h13 =>
 (pickV v9 (.bool true) v13).bind fun v14 =>
 b2 (gOp v14 false ((ld Tryz.prog 9 h13 v3).bind fun v => some (v, h13)) h13) fun v15 h15 =>
 b2 (gOp v14 false ((lenV Tryz.prog 9 v15).bind fun v => some (v, h13)) h13) fun v16 h16 =>
 b2 (gOp v14 false ((bin Tryz.prog .neq 3 v16 (.int .i64 64)).bind fun v => some (v, h16)) h16) fun v17 h17 =>
 (pickV v14 (.bool true) v17).bind fun v18 =>
 aIf v18
  (some ((.int .i64 1), h17))
  ((ld Tryz.prog 30 h17 v1).bind fun v19 =>
  b2 (rn k 88 [v19, (.func (.func 103) #[] #[v1, v2, v3])] h17) fun v20 h20 =>
  some (v20, h20))) := by kernel_rfl
theorem f84_eq (k : Nat) (a0 a1 : Value) (H : AH) : rn (k + 1) 84 [a0, a1] H =
(bin Tryz.prog .lss 3 a0 (.int .i64 1)).bind fun v1 =>
b2 (gOp v1 false (some (a0, H)) H) fun v2 h2 =>
b2 (gOp v1 false ((bin Tryz.prog .gtr 3 v2 (.int .i64 9)).bind fun v => some (v, h2)) h2) fun v3 h3 =>
(pickV v1 (.bool true) v3).bind fun v4 =>
b2 (gOp v4 false (some (a1, h3)) h3) fun v5 h5 =>
b2 (gOp v4 false ((lenV Tryz.prog 9 v5).bind fun v => some (v, h5)) h5) fun v6 h6 =>
b2 (gOp v4 false ((bin Tryz.prog .gtr 3 v6 (.int .i64 120)).bind fun v => some (v, h6)) h6) fun v7 h7 =>
(pickV v4 (.bool true) v7).bind fun v8 =>
aIf v8
 (some ((.tuple #[(.string ⟨#[]⟩), (.bool false)]), h7))
 ((cv Tryz.prog 3 5 a0).bind fun v9 =>
 (lenV Tryz.prog 9 a1).bind fun v10 =>
 (cv Tryz.prog 3 5 v10).bind fun v11 =>
 b2 (buildS Tryz.prog 95 h7 2 [(0, v9), (1, v11)]) fun v12 h12 =>
 (cvS Tryz.prog 95 9 h12 v12).bind fun v13 =>
 (bin Tryz.prog .add 9 (.string ⟨#[65, 83]⟩) v13).bind fun v14 =>
 (bin Tryz.prog .add 9 v14 a1).bind fun v15 =>
 (lenV Tryz.prog 9 v15).bind fun v16 =>
 (bin Tryz.prog .sub 3 (.int .i64 124) v16).bind fun v17 =>
 b2 (mkS Tryz.prog 95 h12 v17 v17) fun v18 h18 =>
 (cvS Tryz.prog 95 9 h18 v18).bind fun v19 =>
 (bin Tryz.prog .add 9 v15 v19).bind fun v20 =>
 b2 (rn k 104 [v20] h18) fun v21 h21 =>
 (cv Tryz.prog 171 5 v21).bind fun v22 =>
 (bin Tryz.prog .shr 171 v21 (.int .u64 8)).bind fun v23 =>
 (cv Tryz.prog 171 5 v23).bind fun v24 =>
 (bin Tryz.prog .shr 171 v21 (.int .u64 16)).bind fun v25 =>
 (cv Tryz.prog 171 5 v25).bind fun v26 =>
 (bin Tryz.prog .shr 171 v21 (.int .u64 24)).bind fun v27 =>
 (cv Tryz.prog 171 5 v27).bind fun v28 =>
 b2 (buildS Tryz.prog 95 h21 4 [(0, v22), (1, v24), (2, v26), (3, v28)]) fun v29 h29 =>
 (cvS Tryz.prog 95 9 h29 v29).bind fun v30 =>
 (bin Tryz.prog .add 9 v20 v30).bind fun v31 =>
 some ((.tuple #[v31, (.bool true)]), h29)) := by kernel_rfl
theorem f85_eq (k : Nat) (a0 a1 a2 : Value) (H : AH) : rn (k + 1) 85 [a0, a1, a2] H =
(nilChk a0).bind fun v1 =>
(fldA Tryz.prog 54 v1 3).bind fun v2 =>
(ld Tryz.prog 4 H v2).bind fun v3 =>
aIf v3
 (some ((.int .i64 7), H))
 ((bin Tryz.prog .lss 3 a1 (.int .i64 0)).bind fun v4 =>
 b2 (gOp v4 false (some (a1, H)) H) fun v5 h5 =>
 b2 (gOp v4 false (some (a0, h5)) h5) fun v6 h6 =>
 b2 (gOp v4 false ((nilChk v6).bind fun v => some (v, h6)) h6) fun v7 h7 =>
 b2 (gOp v4 false ((fldA Tryz.prog 54 v7 0).bind fun v => some (v, h7)) h7) fun v8 h8 =>
 b2 (gOp v4 false ((ld Tryz.prog 51 h8 v8).bind fun v => some (v, h8)) h8) fun v9 h9 =>
 b2 (gOp v4 false ((lenV Tryz.prog 51 v9).bind fun v => some (v, h9)) h9) fun v10 h10 =>
 b2 (gOp v4 false ((bin Tryz.prog .geq 3 v5 v10).bind fun v => some (v, h10)) h10) fun v11 h11 =>
 (pickV v4 (.bool true) v11).bind fun v12 =>
 b2 (gOp v12 false (some (a2, h11)) h11) fun v13 h13 =>
 b2 (gOp v12 false ((lenV Tryz.prog 9 v13).bind fun v => some (v, h13)) h13) fun v14 h14 =>
 b2 (gOp v12 false ((bin Tryz.prog .neq 3 v14 (.int .i64 64)).bind fun v => some (v, h14)) h14) fun v15 h15 =>
 (pickV v12 (.bool true) v15).bind fun v16 =>
 aIf v16
  (some ((.int .i64 1), h15))
  (b2 (rn k 91 [a0] h15) fun v17 h17 =>
  (un Tryz.prog .not v17).bind fun v18 =>
  aIf v18
   (some ((.int .i64 7), h17))
   ((nilChk a0).bind fun v19 =>
   (fldA Tryz.prog 54 v19 1).bind fun v20 =>
   (ld Tryz.prog 52 h17 v20).bind fun v21 =>
   (nilChk a0).bind fun v22 =>
   (fldA Tryz.prog 54 v22 1).bind fun v23 =>
   (ld Tryz.prog 52 h17 v23).bind fun v24 =>
   (lenV Tryz.prog 52 v24).bind fun v25 =>
   (nilChk a0).bind fun v26 =>
   (fldA Tryz.prog 54 v26 1).bind fun v27 =>
   (ld Tryz.prog 52 h17 v27).bind fun v28 =>
   (lenV Tryz.prog 52 v28).bind fun v29 =>
   (slc3 Tryz.prog 52 h17 v21 none (some v25) v29).bind fun v30 =>
   (build Tryz.prog 160 [(0, a1), (1, a2)]).bind fun v31 =>
   b2 (buildS Tryz.prog 52 h17 1 [(0, v31)]) fun v32 h32 =>
   b2 (ap Tryz.prog 52 52 h32 v30 v32) fun v33 h33 =>
   (nilChk a0).bind fun v34 =>
   (fldA Tryz.prog 54 v34 1).bind fun v35 =>
   (st Tryz.prog 52 h33 v35 v33).bind fun h36 =>
   some ((.int .i64 0), h36)))) := by kernel_rfl
theorem f86_eq (k : Nat) (a0 : Value) (H : AH) : rn (k + 1) 86 [a0] H =
b2 (box 96 H a0) fun v1 h1 =>
some ((.func (.func 105) #[] #[v1]), h1) := by kernel_rfl
abbrev f87_T_L0 (s1 s3 s7 : Value) : List Value := [unk, s1, unk, s3, unk, unk, unk, s7] ++ List.replicate 44 unk
abbrev f87_X_L0 (s1 s3 : Value) : List Value := [unk, s1, unk, s3] ++ List.replicate 48 unk
@[irreducible] def f87_L0 (k : Nat) (s1 s3 s7 : Value) (n : Nat) (H : AH) : Option Out := iterD (fun T H K => evalK Tryz.prog (rn k) k (tbs 87) (codeAt (bodyOf Tryz.f87) [1, 1, 0, 1, 0, 0]) T H K) (cutT (tbs 87) 10) (cutT (tbs 87) 11) n (f87_T_L0 s1 s3 s7) H
@[irreducible] def f87_A0 (k : Nat) (e : EX) (T : List Value) (H : AH) : Option (Value × AH) := resumeP Tryz.prog (rn k) k (tbs 87) mText (bodyOf Tryz.f87) [1, 1, 0, 1, 0] [1, 1, 1, 1, 0] e T H (resK Tryz.prog Tryz.f87.results.toList)
theorem f87_L0_succ (k : Nat) (s1 s3 s7 : Value) (n : Nat) (H : AH) : f87_L0 k s1 s3 s7 (n + 1) H =
(bin Tryz.prog .lss 3 s7 (.int .i64 6)).bind fun v3 =>
aIf v3
 ((fldA Tryz.prog 101 s1 0).bind fun v4 =>
 (ld Tryz.prog 3 H v4).bind fun v5 =>
 (bin Tryz.prog .sub 3 (.int .i64 5) s7).bind fun v6 =>
 (bin Tryz.prog .mul 3 (.int .i64 8) v6).bind fun v7 =>
 (bin Tryz.prog .shr 3 v5 v7).bind fun v8 =>
 (cv Tryz.prog 3 5 v8).bind fun v9 =>
 (ixA Tryz.prog 95 s3 s7).bind fun v10 =>
 (st Tryz.prog 5 H v10 v9).bind fun h11 =>
 (bin Tryz.prog .add 3 s7 (.int .i64 1)).bind fun v12 =>
 f87_L0 k s1 s3 v12 n h11)
 (some ((.exit 0), (f87_X_L0 s1 s3), H)) := by kernel_rfl
theorem f87_A0_x0 (k : Nat) (s1 s3 : Value) (H : AH) : f87_A0 k (.exit 0) (f87_X_L0 s1 s3) H =
(fldA Tryz.prog 101 s1 1).bind fun v13 =>
(ld Tryz.prog 3 H v13).bind fun v14 =>
(bin Tryz.prog .shr 3 v14 (.int .u64 8)).bind fun v15 =>
(cv Tryz.prog 3 5 v15).bind fun v16 =>
(fldA Tryz.prog 101 s1 1).bind fun v17 =>
(ld Tryz.prog 3 H v17).bind fun v18 =>
(cv Tryz.prog 3 5 v18).bind fun v19 =>
(ixA Tryz.prog 95 s3 (.int .i64 6)).bind fun v20 =>
(st Tryz.prog 5 H v20 v16).bind fun h21 =>
aChk (ld Tryz.prog 3 h21 v17 = some v18) <|
(ixA Tryz.prog 95 s3 (.int .i64 7)).bind fun v22 =>
(st Tryz.prog 5 h21 v22 v19).bind fun h23 =>
(gText [s1, s3] h23).bind fun h24 =>
(cvS Tryz.prog 95 9 h24 s3).bind fun v25 =>
some (v25, h24) := by kernel_rfl
theorem f87_eq (k : Nat) (a0 : Value) (H : AH) : rn (k + 1) 87 [a0] H =
b2 (box 101 H a0) fun v1 h1 =>
b2 (mkS Tryz.prog 95 h1 (.int .i64 72) (.int .i64 72)) fun v2 h2 =>
(f87_L0 k v1 v2 (.int .i64 0) k h2).bind fun p => f87_A0 k p.1 p.2.1 p.2.2 := by kernel_rfl
theorem f88_eq (k : Nat) (a0 a1 : Value) (H : AH) : rn (k + 1) 88 [a0, a1] H =
(nilChk a0).bind fun v1 =>
(fldA Tryz.prog 98 v1 2).bind fun v2 =>
(ld Tryz.prog 3 H v2).bind fun v3 =>
(bin Tryz.prog .eql 3 v3 (.int .i64 0)).bind fun v4 =>
aIf v4
 ((nilChk a0).bind fun v5 =>
 (fldA Tryz.prog 98 v5 3).bind fun v6 =>
 (st Tryz.prog 4 H v6 (.bool true)).bind fun h7 =>
 some ((.int .i64 7), h7))
 ((nilChk a0).bind fun v8 =>
 (fldA Tryz.prog 98 v8 2).bind fun v9 =>
 (ld Tryz.prog 3 H v9).bind fun v10 =>
 (bin Tryz.prog .sub 3 v10 (.int .i64 1)).bind fun v11 =>
 (fold1 maxV [v11, (.int .i64 (-1))]).bind fun v12 =>
 (nilChk a0).bind fun v13 =>
 (fldA Tryz.prog 98 v13 2).bind fun v14 =>
 (st Tryz.prog 3 H v14 v12).bind fun h15 =>
 b2 (callY (rn k) a1 [] h15) fun v16 h16 =>
 some ((.int .i64 0), h16)) := by kernel_rfl
abbrev f89_T_L0 (s0 s6 s7 s8 : Value) : List Value := [s0, unk, unk, unk, unk, unk, s6, s7, s8] ++ List.replicate 13 unk
abbrev f89_X_L0 (s0 : Value) : List Value := [s0] ++ List.replicate 21 unk
@[irreducible] def f89_L0 (k : Nat) (s0 s6 s7 s8 : Value) (n : Nat) (H : AH) : Option Out := iterD (fun T H K => evalK Tryz.prog (rn k) k (tbs 89) (codeAt (bodyOf Tryz.f89) [0, 1, 0, 0]) T H K) (cutT (tbs 89) 4) (cutT (tbs 89) 5) n (f89_T_L0 s0 s6 s7 s8) H
@[irreducible] def f89_A0 (k : Nat) (e : EX) (T : List Value) (H : AH) : Option (Value × AH) := resume Tryz.prog (rn k) k (tbs 89) (bodyOf Tryz.f89) [0, 1, 0] e T H (resK Tryz.prog Tryz.f89.results.toList)
theorem f89_L0_succ (k : Nat) (s0 s6 s7 s8 : Value) (n : Nat) (H : AH) : f89_L0 k s0 s6 s7 s8 (n + 1) H =
(bin Tryz.prog .lss 3 s8 s7).bind fun v6 =>
aIf v6
 ((ixA Tryz.prog 96 s6 s8).bind fun v7 =>
 (ld Tryz.prog 158 H v7).bind fun v8 =>
 b2 (newV Tryz.prog 158 H) fun v9 h9 =>
 (st Tryz.prog 158 h9 v9 v8).bind fun h10 =>
 (ld Tryz.prog 30 h10 s0).bind fun v11 =>
 (fldA Tryz.prog 158 v9 0).bind fun v12 =>
 (ld Tryz.prog 3 h10 v12).bind fun v13 =>
 (fldA Tryz.prog 158 v9 1).bind fun v14 =>
 (ld Tryz.prog 9 h10 v14).bind fun v15 =>
 b2 (rn k 90 [v11, v13, v15] h10) fun v16 h16 =>
 (bin Tryz.prog .add 3 s8 (.int .i64 1)).bind fun v17 =>
 f89_L0 k s0 s6 s7 v17 n h16)
 (some ((.exit 0), (f89_X_L0 s0), H)) := by kernel_rfl
theorem f89_A0_x0 (k : Nat) (s0 : Value) (H : AH) : f89_A0 k (.exit 0) (f89_X_L0 s0) H =
(ld Tryz.prog 30 H s0).bind fun v18 =>
(nilChk v18).bind fun v19 =>
(fldA Tryz.prog 98 v19 1).bind fun v20 =>
(st Tryz.prog 96 H v20 (.slice none 0 0)).bind fun h21 =>
some ((.tuple #[]), h21) := by kernel_rfl
theorem f89_eq (k : Nat) (a0 : Value) (H : AH) : rn (k + 1) 89 [a0] H =
(ld Tryz.prog 30 H a0).bind fun v1 =>
(nilChk v1).bind fun v2 =>
(fldA Tryz.prog 98 v2 1).bind fun v3 =>
(ld Tryz.prog 96 H v3).bind fun v4 =>
(lenV Tryz.prog 96 v4).bind fun v5 =>
(f89_L0 k a0 v4 v5 (.int .i64 0) k H).bind fun p => f89_A0 k p.1 p.2.1 p.2.2 := by kernel_rfl
theorem f90_eq (k : Nat) (a0 a1 a2 : Value) (H : AH) : rn (k + 1) 90 [a0, a1, a2] H =
(nilChk a0).bind fun v1 =>
(fldA Tryz.prog 98 v1 0).bind fun v2 =>
(ld Tryz.prog 95 H v2).bind fun v3 =>
(bin Tryz.prog .mul 3 a1 (.int .i64 64)).bind fun v4 =>
(slc Tryz.prog 95 v3 (some v4) none).bind fun v5 =>
b2 (cpy Tryz.prog 95 H v5 a2) fun v6 h6 =>
some ((.tuple #[]), h6) := by kernel_rfl
theorem f91_eq (k : Nat) (a0 : Value) (H : AH) : rn (k + 1) 91 [a0] H =
(nilChk a0).bind fun v1 =>
(fldA Tryz.prog 54 v1 2).bind fun v2 =>
(ld Tryz.prog 3 H v2).bind fun v3 =>
(bin Tryz.prog .eql 3 v3 (.int .i64 0)).bind fun v4 =>
aIf v4
 ((nilChk a0).bind fun v5 =>
 (fldA Tryz.prog 54 v5 3).bind fun v6 =>
 (st Tryz.prog 4 H v6 (.bool true)).bind fun h7 =>
 some ((.bool false), h7))
 ((nilChk a0).bind fun v8 =>
 (fldA Tryz.prog 54 v8 2).bind fun v9 =>
 (ld Tryz.prog 3 H v9).bind fun v10 =>
 (bin Tryz.prog .gtr 3 v10 (.int .i64 0)).bind fun v11 =>
 aIf v11
  ((nilChk a0).bind fun v12 =>
  (fldA Tryz.prog 54 v12 2).bind fun v13 =>
  (ld Tryz.prog 3 H v13).bind fun v14 =>
  (bin Tryz.prog .sub 3 v14 (.int .i64 1)).bind fun v15 =>
  (nilChk a0).bind fun v16 =>
  (fldA Tryz.prog 54 v16 2).bind fun v17 =>
  (st Tryz.prog 3 H v17 v15).bind fun h18 =>
  some ((.bool true), h18))
  (some ((.bool true), H))) := by kernel_rfl
abbrev f92_T_L0 (s0 s2 s4 s5 : Value) : List Value := [s0, unk, s2, unk, s4, s5] ++ List.replicate 79 unk
abbrev f92_X_L0 : List Value := List.replicate 85 unk
@[irreducible] def f92_L0 (k : Nat) (s0 s2 s4 s5 : Value) (n : Nat) (H : AH) : Option Out := iterD (fun T H K => evalK Tryz.prog (rn k) k (tbs 92) (codeAt (bodyOf Tryz.f92) [1, 1, 0, 0]) T H K) (cutT (tbs 92) 7) (cutT (tbs 92) 8) n (f92_T_L0 s0 s2 s4 s5) H
@[irreducible] def f92_A0 (k : Nat) (e : EX) (T : List Value) (H : AH) : Option (Value × AH) := resume Tryz.prog (rn k) k (tbs 92) (bodyOf Tryz.f92) [1, 1, 0] e T H (resK Tryz.prog Tryz.f92.results.toList)
theorem f92_L0_succ (k : Nat) (s0 s2 s4 s5 : Value) (n : Nat) (H : AH) : f92_L0 k s0 s2 s4 s5 (n + 1) H =
(ld Tryz.prog 32 H s2).bind fun v2 =>
b2 (rn k 93 [v2, s5] H) fun v3 h3 =>
(ext v3 0).bind fun v4 =>
(ext v3 1).bind fun v5 =>
(ext v3 2).bind fun v6 =>
(bin Tryz.prog .neq 36 v6 (.int .i64 0)).bind fun v7 =>
aIf v7
 ((build Tryz.prog 134 [(2, v6)]).bind fun v8 =>
 b2 (callY (rn k) s0 [v8] h3) fun v9 h9 =>
 some (.ret, f92_X_L0, h9))
 ((bin Tryz.prog .neq 3 v4 (.int .i64 2)).bind fun v10 =>
 b2 (gOp v10 false (some (v5, h3)) h3) fun v11 h11 =>
 b2 (gOp v10 false ((lenV Tryz.prog 9 v11).bind fun v => some (v, h11)) h11) fun v12 h12 =>
 b2 (gOp v10 false ((bin Tryz.prog .lss 3 v12 (.int .i64 2)).bind fun v => some (v, h12)) h12) fun v13 h13 =>
 (pickV v10 (.bool true) v13).bind fun v14 =>
 b2 (gOp v14 false (some (s4, h13)) h13) fun v15 h15 =>
 b2 (gOp v14 false ((lenV Tryz.prog 82 v15).bind fun v => some (v, h15)) h15) fun v16 h16 =>
 b2 (gOp v14 false ((bin Tryz.prog .geq 3 v16 (.int .i64 512)).bind fun v => some (v, h16)) h16) fun v17 h17 =>
 (pickV v14 (.bool true) v17).bind fun v18 =>
 aIf v18
  ((build Tryz.prog 134 [(2, (.int .i64 2))]).bind fun v19 =>
  b2 (callY (rn k) s0 [v19] h17) fun v20 h20 =>
  some (.ret, f92_X_L0, h20))
  (b2 (buildS Tryz.prog 82 h17 1 [(0, s5)]) fun v21 h21 =>
  b2 (ap Tryz.prog 82 82 h21 s4 v21) fun v22 h22 =>
  (ix Tryz.prog 9 v5 (.int .i64 0)).bind fun v23 =>
  (cv Tryz.prog 5 3 v23).bind fun v24 =>
  (bin Tryz.prog .shl 3 v24 (.int .u64 8)).bind fun v25 =>
  (ix Tryz.prog 9 v5 (.int .i64 1)).bind fun v26 =>
  (cv Tryz.prog 5 3 v26).bind fun v27 =>
  (bin Tryz.prog .or 3 v25 v27).bind fun v28 =>
  (bin Tryz.prog .eql 3 v28 (.int .i64 1)).bind fun v29 =>
  b2 (gOp v29 false (some (v28, h22)) h22) fun v30 h30 =>
  b2 (gOp v29 false ((ld Tryz.prog 32 h30 s2).bind fun v => some (v, h30)) h30) fun v31 h31 =>
  b2 (gOp v29 false (b2 (rn k 41 [v31] h31) fun v h => some (v, h)) h31) fun v32 h32 =>
  b2 (gOp v29 false ((bin Tryz.prog .geq 3 v30 v32).bind fun v => some (v, h32)) h32) fun v33 h33 =>
  (pickV v29 (.bool true) v33).bind fun v34 =>
  b2 (gOp v34 false (some (v28, h33)) h33) fun v35 h35 =>
  b2 (gOp v34 false ((bin Tryz.prog .neq 3 v35 (.int .i64 0)).bind fun v => some (v, h35)) h35) fun v36 h36 =>
  b2 (gOp v34 false (some (v36, h36)) h36) fun v37 h37 =>
  b2 (gOp v37 true (some (v22, h37)) h37) fun v38 h38 =>
  b2 (gOp v37 true (some (v28, h38)) h38) fun v39 h39 =>
  b2 (gOp v37 true (b2 (rn k 42 [v38, v39] h39) fun v h => some (v, h)) h39) fun v40 h40 =>
  b2 (gOp v34 false ((pickV v37 v40 (.bool false)).bind fun v => some (v, h40)) h40) fun v41 h41 =>
  (pickV v34 (.bool true) v41).bind fun v42 =>
  aIf v42
   ((build Tryz.prog 134 [(2, (.int .i64 2))]).bind fun v43 =>
   b2 (callY (rn k) s0 [v43] h41) fun v44 h44 =>
   some (.ret, f92_X_L0, h44))
   ((slc Tryz.prog 9 v5 (some (.int .i64 2)) none).bind fun v45 =>
   (build Tryz.prog 134 [(0, s5), (1, v45)]).bind fun v46 =>
   b2 (callY (rn k) s0 [v46] h41) fun v47 h47 =>
   (un Tryz.prog .not v47).bind fun v48 =>
   b2 (gOp v48 false (some (v28, h47)) h47) fun v49 h49 =>
   b2 (gOp v48 false ((bin Tryz.prog .eql 3 v49 (.int .i64 0)).bind fun v => some (v, h49)) h49) fun v50 h50 =>
   (pickV v48 (.bool true) v50).bind fun v51 =>
   aIf v51
    (some (.ret, f92_X_L0, h50))
    (f92_L0 k s0 s2 v22 v28 n h50)))) := by kernel_rfl
theorem f92_A0_ret (k : Nat) (H : AH) : f92_A0 k .ret f92_X_L0 H =
some ((.tuple #[]), H) := by kernel_rfl
theorem f92_eq (k : Nat) (a0 a1 a2 : Value) (H : AH) : rn (k + 1) 92 [a0, a1, a2] H =
(ld Tryz.prog 3 H a1).bind fun v1 =>
(f92_L0 k a0 a2 (.slice none 0 0) v1 k H).bind fun p => f92_A0 k p.1 p.2.1 p.2.2 := by kernel_rfl
theorem f93_eq (k : Nat) (a0 a1 : Value) (H : AH) : rn (k + 1) 93 [a0, a1] H =
(nilChk a0).bind fun v1 =>
(fldA Tryz.prog 103 v1 3).bind fun v2 =>
(ld Tryz.prog 4 H v2).bind fun v3 =>
aIf v3
 (some ((.tuple #[(.int .i64 0), (.string ⟨#[]⟩), (.int .i64 7)]), H))
 ((bin Tryz.prog .lss 3 a1 (.int .i64 0)).bind fun v4 =>
 b2 (gOp v4 false (some (a1, H)) H) fun v5 h5 =>
 b2 (gOp v4 false (some (a0, h5)) h5) fun v6 h6 =>
 b2 (gOp v4 false (b2 (rn k 41 [v6] h6) fun v h => some (v, h)) h6) fun v7 h7 =>
 b2 (gOp v4 false ((bin Tryz.prog .geq 3 v5 v7).bind fun v => some (v, h7)) h7) fun v8 h8 =>
 (pickV v4 (.bool true) v8).bind fun v9 =>
 aIf v9
  (some ((.tuple #[(.int .i64 0), (.string ⟨#[]⟩), (.int .i64 1)]), h8))
  ((nilChk a0).bind fun v10 =>
  (fldA Tryz.prog 103 v10 1).bind fun v11 =>
  (ld Tryz.prog 30 h8 v11).bind fun v12 =>
  b2 (rn k 106 [v12, a1] h8) fun v13 h13 =>
  (ext v13 0).bind fun v14 =>
  (ext v13 1).bind fun v15 =>
  (ext v13 2).bind fun v16 =>
  b2 (rn k 44 [a0, v16] h13) fun v17 h17 =>
  some ((.tuple #[v14, v15, v17]), h17))) := by kernel_rfl
theorem f95_eq (k : Nat) (a0 a1 : Value) (H : AH) : rn (k + 1) 95 [a0, a1] H =
(nilChk a0).bind fun v1 =>
(fldA Tryz.prog 84 v1 5).bind fun v2 =>
(ld Tryz.prog 4 H v2).bind fun v3 =>
aIf v3
 (some ((.tuple #[(.int .i64 0), (.string ⟨#[]⟩), (.int .i64 7)]), H))
 ((bin Tryz.prog .lss 3 a1 (.int .i64 0)).bind fun v4 =>
 b2 (gOp v4 false (some (a1, H)) H) fun v5 h5 =>
 b2 (gOp v4 false (some (a0, h5)) h5) fun v6 h6 =>
 b2 (gOp v4 false ((nilChk v6).bind fun v => some (v, h6)) h6) fun v7 h7 =>
 b2 (gOp v4 false ((fldA Tryz.prog 84 v7 3).bind fun v => some (v, h7)) h7) fun v8 h8 =>
 b2 (gOp v4 false ((ld Tryz.prog 81 h8 v8).bind fun v => some (v, h8)) h8) fun v9 h9 =>
 b2 (gOp v4 false ((lenV Tryz.prog 81 v9).bind fun v => some (v, h9)) h9) fun v10 h10 =>
 b2 (gOp v4 false ((bin Tryz.prog .geq 3 v5 v10).bind fun v => some (v, h10)) h10) fun v11 h11 =>
 (pickV v4 (.bool true) v11).bind fun v12 =>
 aIf v12
  (some ((.tuple #[(.int .i64 0), (.string ⟨#[]⟩), (.int .i64 1)]), h11))
  ((nilChk a0).bind fun v13 =>
  (fldA Tryz.prog 84 v13 0).bind fun v14 =>
  (ld Tryz.prog 31 h11 v14).bind fun v15 =>
  b2 (rn k 108 [v15, a1] h11) fun v16 h16 =>
  (ext v16 0).bind fun v17 =>
  (ext v16 1).bind fun v18 =>
  (ext v16 2).bind fun v19 =>
  b2 (rn k 46 [a0, v19] h16) fun v20 h20 =>
  some ((.tuple #[v17, v18, v20]), h20))) := by kernel_rfl
abbrev f96_T_L0 (s0 s1 s5 : Value) : List Value := [s0, s1, unk, unk, unk, s5] ++ List.replicate 12 unk
abbrev f96_X_L0 (s4 : Value) : List Value := [unk, unk, unk, unk, s4] ++ List.replicate 13 unk
@[irreducible] def f96_L0 (k : Nat) (s0 s1 s5 : Value) (n : Nat) (H : AH) : Option Out := iterD (fun T H K => evalK Tryz.prog (rn k) k (tbs 96) (codeAt (bodyOf Tryz.f96) [1, 0, 1, 0, 0]) T H K) (cutT (tbs 96) 7) (cutT (tbs 96) 8) n (f96_T_L0 s0 s1 s5) H
@[irreducible] def f96_A0 (k : Nat) (e : EX) (T : List Value) (H : AH) : Option (Value × AH) := resume Tryz.prog (rn k) k (tbs 96) (bodyOf Tryz.f96) [1, 0, 1, 0] e T H (resK Tryz.prog Tryz.f96.results.toList)
theorem f96_L0_succ (k : Nat) (s0 s1 s5 : Value) (n : Nat) (H : AH) : f96_L0 k s0 s1 s5 (n + 1) H =
(lenV Tryz.prog 82 s0).bind fun v1 =>
(bin Tryz.prog .lss 3 s5 v1).bind fun v2 =>
aIf v2
 ((ixA Tryz.prog 82 s0 s5).bind fun v3 =>
 (ld Tryz.prog 3 H v3).bind fun v4 =>
 (bin Tryz.prog .eql 3 v4 s1).bind fun v5 =>
 aIf v5
  (some (.ret, (f96_X_L0 (.bool true)), H))
  ((bin Tryz.prog .add 3 s5 (.int .i64 1)).bind fun v6 =>
  f96_L0 k s0 s1 v6 n H))
 (some ((.exit 0), (f96_X_L0 unk), H)) := by kernel_rfl
theorem f96_A0_x0 (k : Nat) (s4 : Value) (H : AH) : f96_A0 k (.exit 0) (f96_X_L0 s4) H =
some ((.bool false), H) := by kernel_rfl
theorem f96_A0_ret (k : Nat) (s4 : Value) (H : AH) : f96_A0 k .ret (f96_X_L0 s4) H =
some (s4, H) := by kernel_rfl
theorem f96_eq (k : Nat) (a0 a1 : Value) (H : AH) : rn (k + 1) 96 [a0, a1] H =
(f96_L0 k a0 a1 (.int .i64 0) k H).bind fun p => f96_A0 k p.1 p.2.1 p.2.2 := by kernel_rfl
theorem f97_eq (k : Nat) (a0 : Value) (H : AH) : rn (k + 1) 97 [a0] H =
(bin Tryz.prog .eql 3 a0 (.int .i64 0)).bind fun v1 =>
b2 (gOp v1 false (some (a0, H)) H) fun v2 h2 =>
b2 (gOp v1 false ((bin Tryz.prog .geq 3 v2 (.int .i64 2)).bind fun v => some (v, h2)) h2) fun v3 h3 =>
b2 (gOp v1 false (some (v3, h3)) h3) fun v4 h4 =>
b2 (gOp v4 true (some (a0, h4)) h4) fun v5 h5 =>
b2 (gOp v4 true ((bin Tryz.prog .leq 3 v5 (.int .i64 511)).bind fun v => some (v, h5)) h5) fun v6 h6 =>
b2 (gOp v1 false ((pickV v4 v6 (.bool false)).bind fun v => some (v, h6)) h6) fun v7 h7 =>
(pickV v1 (.bool true) v7).bind fun v8 =>
some (v8, h7) := by kernel_rfl
theorem f98_eq (k : Nat) (a0 : Value) (H : AH) : rn (k + 1) 98 [a0] H =
(bin Tryz.prog .eql 82 a0 (.slice none 0 0)).bind fun v1 =>
aIf v1
 (some ((.slice none 0 0), H))
 (b2 (buildS Tryz.prog 82 H 0 []) fun v2 h2 =>
 b2 (ap Tryz.prog 82 82 h2 v2 a0) fun v3 h3 =>
 some (v3, h3)) := by kernel_rfl
theorem f99_eq (k : Nat) (a0 : Value) (H : AH) : rn (k + 1) 99 [a0] H =
(fold1 maxV [a0, (.int .i64 0)]).bind fun v1 =>
(fold1 minV [v1, (.int .i64 1048576)]).bind fun v2 =>
(bin Tryz.prog .eql 3 v2 (.int .i64 0)).bind fun v3 =>
aIf v3
 (some ((.int .i64 1), H))
 ((bin Tryz.prog .add 3 v2 (.int .i64 118)).bind fun v4 =>
 (bin Tryz.prog .sub 3 v4 (.int .i64 1)).bind fun v5 =>
 (bin Tryz.prog .quo 3 v5 (.int .i64 118)).bind fun v6 =>
 some (v6, H)) := by kernel_rfl
abbrev f100_T_L0 (s3 s6 s7 s8 : Value) : List Value := [unk, unk, unk, s3, unk, unk, s6, s7, s8] ++ List.replicate 8 unk
abbrev f100_X_L0 (s3 : Value) : List Value := [unk, unk, unk, s3] ++ List.replicate 13 unk
@[irreducible] def f100_L0 (k : Nat) (s3 s6 s7 s8 : Value) (n : Nat) (H : AH) : Option Out := iterD (fun T H K => evalK Tryz.prog (rn k) k (tbs 100) (codeAt (bodyOf Tryz.f100) [1, 1, 0, 1, 0, 0]) T H K) (cutT (tbs 100) 10) (cutT (tbs 100) 11) n (f100_T_L0 s3 s6 s7 s8) H
@[irreducible] def f100_A0 (k : Nat) (e : EX) (T : List Value) (H : AH) : Option (Value × AH) := resume Tryz.prog (rn k) k (tbs 100) (bodyOf Tryz.f100) [1, 1, 0, 1, 0] e T H (resK Tryz.prog Tryz.f100.results.toList)
theorem f100_L0_succ (k : Nat) (s3 s6 s7 s8 : Value) (n : Nat) (H : AH) : f100_L0 k s3 s6 s7 s8 (n + 1) H =
(bin Tryz.prog .lss 3 s8 s7).bind fun v3 =>
aIf v3
 ((ixA Tryz.prog 180 s6 s8).bind fun v4 =>
 (ld Tryz.prog 171 H v4).bind fun v5 =>
 (cv Tryz.prog 171 5 v5).bind fun v6 =>
 b2 (rn k 109 [s3, v6] H) fun v7 h7 =>
 (bin Tryz.prog .add 3 s8 (.int .i64 1)).bind fun v8 =>
 f100_L0 k s3 s6 s7 v8 n h7)
 (some ((.exit 0), (f100_X_L0 s3), H)) := by kernel_rfl
theorem f100_A0_x0 (k : Nat) (s3 : Value) (H : AH) : f100_A0 k (.exit 0) (f100_X_L0 s3) H =
b2 (rn k 70 [s3] H) fun v9 h9 =>
some (v9, h9) := by kernel_rfl
theorem f100_eq (k : Nat) (a0 : Value) (H : AH) : rn (k + 1) 100 [a0] H =
b2 (newV Tryz.prog 129 H) fun v1 h1 =>
(lenV Tryz.prog 180 a0).bind fun v2 =>
(f100_L0 k v1 a0 v2 (.int .i64 0) k h1).bind fun p => f100_A0 k p.1 p.2.1 p.2.2 := by kernel_rfl
abbrev f101_T_J0 (s0 s1 : Value) : List Value := [s0, s1] ++ List.replicate 123 unk
abbrev f101_T_J1 (s0 s6 : Value) : List Value := [s0, unk, unk, unk, unk, unk, s6] ++ List.replicate 118 unk
abbrev f101_T_J2 (s0 s7 : Value) : List Value := [s0, unk, unk, unk, unk, unk, unk, s7] ++ List.replicate 117 unk
abbrev f101_T_J3 (s0 s7 s8 : Value) : List Value := [s0, unk, unk, unk, unk, unk, unk, s7, s8] ++ List.replicate 116 unk
abbrev f101_T_L0 (s7 s8 s9 : Value) : List Value := [unk, unk, unk, unk, unk, unk, unk, s7, s8, s9] ++ List.replicate 115 unk
abbrev f101_X_L0 (s9 : Value) : List Value := List.replicate 9 unk ++ [s9] ++ List.replicate 115 unk
@[irreducible] def f101_J0 (k : Nat) (s0 s1 : Value) (H : AH) : Option (Value × AH) := resume Tryz.prog (rn k) k (tbs 101) (bodyOf Tryz.f101) [1, 1, 0] .normal (f101_T_J0 s0 s1) H (resK Tryz.prog Tryz.f101.results.toList)
@[irreducible] def f101_J1 (k : Nat) (s0 s6 : Value) (H : AH) : Option (Value × AH) := resume Tryz.prog (rn k) k (tbs 101) (bodyOf Tryz.f101) [1, 1, 1, 1, 0] .normal (f101_T_J1 s0 s6) H (resK Tryz.prog Tryz.f101.results.toList)
@[irreducible] def f101_J2 (k : Nat) (s0 s7 : Value) (H : AH) : Option (Value × AH) := resume Tryz.prog (rn k) k (tbs 101) (bodyOf Tryz.f101) [1, 1, 1, 1, 1, 1, 1, 0] .normal (f101_T_J2 s0 s7) H (resK Tryz.prog Tryz.f101.results.toList)
@[irreducible] def f101_J3 (k : Nat) (s0 s7 s8 : Value) (H : AH) : Option (Value × AH) := resume Tryz.prog (rn k) k (tbs 101) (bodyOf Tryz.f101) [1, 1, 1, 1, 1, 1, 1, 1, 1, 0] .normal (f101_T_J3 s0 s7 s8) H (resK Tryz.prog Tryz.f101.results.toList)
@[irreducible] def f101_L0 (k : Nat) (s7 s8 s9 : Value) (n : Nat) (H : AH) : Option Out := iterD (fun T H K => evalK Tryz.prog (rn k) k (tbs 101) (codeAt (bodyOf Tryz.f101) [1, 1, 1, 1, 1, 1, 1, 1, 1, 1, 1, 1, 1, 0, 0, 0]) T H K) (cutT (tbs 101) 115) (cutT (tbs 101) 116) n (f101_T_L0 s7 s8 s9) H
@[irreducible] def f101_A0 (k : Nat) (e : EX) (T : List Value) (H : AH) : Option (Value × AH) := resume Tryz.prog (rn k) k (tbs 101) (bodyOf Tryz.f101) [1, 1, 1, 1, 1, 1, 1, 1, 1, 1, 1, 1, 1, 0, 0] e T H (resK Tryz.prog Tryz.f101.results.toList)
theorem f101_J0_eq (k : Nat) (s0 s1 : Value) (H : AH) : f101_J0 k s0 s1 H =
(lenV Tryz.prog 9 s0).bind fun v4 =>
(cv Tryz.prog 3 142 v4).bind fun v5 =>
(cv Tryz.prog 3 142 s1).bind fun v6 =>
b2 (rn k 110 [v5, v6] H) fun v7 h7 =>
(ext v7 0).bind fun v8 =>
(ext v7 1).bind fun v9 =>
(bin Tryz.prog .gtr 142 v8 (.int .u64 0)).bind fun v10 =>
b2 (gOp v10 false (some (v9, h7)) h7) fun v11 h11 =>
b2 (gOp v10 false ((bin Tryz.prog .gtr 142 v11 (.int .u64 9223372036854775807)).bind fun v => some (v, h11)) h11) fun v12 h12 =>
(pickV v10 (.bool true) v12).bind fun v13 =>
aIf v13
 (none)
 (f101_J1 k s0 v9 h12) := by kernel_rfl
theorem f101_J1_eq (k : Nat) (s0 s6 : Value) (H : AH) : f101_J1 k s0 s6 H =
(cv Tryz.prog 142 3 s6).bind fun v14 =>
(lenV Tryz.prog 9 s0).bind fun v15 =>
(bin Tryz.prog .eql 3 v15 (.int .i64 0)).bind fun v16 =>
aIf v16
 (some ((.string ⟨#[]⟩), H))
 ((ix Tryz.prog 9 s0 (.int .i64 0)).bind fun v17 =>
 (bin Tryz.prog .eql 5 v17 (.int .u8 32)).bind fun v18 =>
 aIf v18
  (aIf v18
   ((bin Tryz.prog .leq 3 v14 (.int .i64 128)).bind fun v19 =>
   b2 (gOp v19 true (some (s0, H)) H) fun v20 h20 =>
   b2 (gOp v19 true (b2 (rn k 111 [(.string long0), v20] h20) fun v h => some (v, h)) h20) fun v21 h21 =>
   (pickV v19 v21 (.bool false)).bind fun v22 =>
   aIf v22
    ((slc Tryz.prog 9 (.string long0) none (some v14)).bind fun v23 =>
    some (v23, h21))
    ((bin Tryz.prog .leq 3 v14 (.int .i64 128)).bind fun v24 =>
    b2 (gOp v24 true (some (s0, h21)) h21) fun v25 h25 =>
    b2 (gOp v24 true (b2 (rn k 111 [(.string long1), v25] h25) fun v h => some (v, h)) h25) fun v26 h26 =>
    (pickV v24 v26 (.bool false)).bind fun v27 =>
    aIf v27
     ((slc Tryz.prog 9 (.string long1) none (some v14)).bind fun v28 =>
     some (v28, h26))
     ((bin Tryz.prog .leq 3 v14 (.int .i64 64)).bind fun v29 =>
     b2 (gOp v29 true (some (s0, h26)) h26) fun v30 h30 =>
     b2 (gOp v29 true (b2 (rn k 111 [(.string long2), v30] h30) fun v h => some (v, h)) h30) fun v31 h31 =>
     (pickV v29 v31 (.bool false)).bind fun v32 =>
     aIf v32
      ((slc Tryz.prog 9 (.string long2) none (some v14)).bind fun v33 =>
      some (v33, h31))
      ((bin Tryz.prog .leq 3 v14 (.int .i64 128)).bind fun v34 =>
      b2 (gOp v34 true (some (s0, h31)) h31) fun v35 h35 =>
      b2 (gOp v34 true (b2 (rn k 111 [(.string long3), v35] h35) fun v h => some (v, h)) h35) fun v36 h36 =>
      (pickV v34 v36 (.bool false)).bind fun v37 =>
      aIf v37
       ((slc Tryz.prog 9 (.string long3) none (some v14)).bind fun v38 =>
       some (v38, h36))
       ((bin Tryz.prog .leq 3 v14 (.int .i64 64)).bind fun v39 =>
       b2 (gOp v39 true (some (s0, h36)) h36) fun v40 h40 =>
       b2 (gOp v39 true (b2 (rn k 111 [(.string ⟨#[9, 9, 9, 9, 9, 9, 9, 9, 9, 9, 9, 9, 9, 9, 9, 9, 9, 9, 9, 9, 9, 9, 9, 9, 9, 9, 9, 9, 9, 9, 9, 9, 9, 9, 9, 9, 9, 9, 9, 9, 9, 9, 9, 9, 9, 9, 9, 9, 9, 9, 9, 9, 9, 9, 9, 9, 9, 9, 9, 9, 9, 9, 9, 9]⟩), v40] h40) fun v h => some (v, h)) h40) fun v41 h41 =>
       (pickV v39 v41 (.bool false)).bind fun v42 =>
       aIf v42
        ((slc Tryz.prog 9 (.string ⟨#[9, 9, 9, 9, 9, 9, 9, 9, 9, 9, 9, 9, 9, 9, 9, 9, 9, 9, 9, 9, 9, 9, 9, 9, 9, 9, 9, 9, 9, 9, 9, 9, 9, 9, 9, 9, 9, 9, 9, 9, 9, 9, 9, 9, 9, 9, 9, 9, 9, 9, 9, 9, 9, 9, 9, 9, 9, 9, 9, 9, 9, 9, 9, 9]⟩) none (some v14)).bind fun v43 =>
        some (v43, h41))
        (f101_J2 k s0 v14 h41))))))
   (f101_J2 k s0 v14 H))
  ((bin Tryz.prog .eql 5 v17 (.int .u8 45)).bind fun v44 =>
  aIf v44
   (aIf v44
    ((bin Tryz.prog .leq 3 v14 (.int .i64 128)).bind fun v45 =>
    b2 (gOp v45 true (some (s0, H)) H) fun v46 h46 =>
    b2 (gOp v45 true (b2 (rn k 111 [(.string long0), v46] h46) fun v h => some (v, h)) h46) fun v47 h47 =>
    (pickV v45 v47 (.bool false)).bind fun v48 =>
    aIf v48
     ((slc Tryz.prog 9 (.string long0) none (some v14)).bind fun v49 =>
     some (v49, h47))
     ((bin Tryz.prog .leq 3 v14 (.int .i64 128)).bind fun v50 =>
     b2 (gOp v50 true (some (s0, h47)) h47) fun v51 h51 =>
     b2 (gOp v50 true (b2 (rn k 111 [(.string long1), v51] h51) fun v h => some (v, h)) h51) fun v52 h52 =>
     (pickV v50 v52 (.bool false)).bind fun v53 =>
     aIf v53
      ((slc Tryz.prog 9 (.string long1) none (some v14)).bind fun v54 =>
      some (v54, h52))
      ((bin Tryz.prog .leq 3 v14 (.int .i64 64)).bind fun v55 =>
      b2 (gOp v55 true (some (s0, h52)) h52) fun v56 h56 =>
      b2 (gOp v55 true (b2 (rn k 111 [(.string long2), v56] h56) fun v h => some (v, h)) h56) fun v57 h57 =>
      (pickV v55 v57 (.bool false)).bind fun v58 =>
      aIf v58
       ((slc Tryz.prog 9 (.string long2) none (some v14)).bind fun v59 =>
       some (v59, h57))
       ((bin Tryz.prog .leq 3 v14 (.int .i64 128)).bind fun v60 =>
       b2 (gOp v60 true (some (s0, h57)) h57) fun v61 h61 =>
       b2 (gOp v60 true (b2 (rn k 111 [(.string long3), v61] h61) fun v h => some (v, h)) h61) fun v62 h62 =>
       (pickV v60 v62 (.bool false)).bind fun v63 =>
       aIf v63
        ((slc Tryz.prog 9 (.string long3) none (some v14)).bind fun v64 =>
        some (v64, h62))
        ((bin Tryz.prog .leq 3 v14 (.int .i64 64)).bind fun v65 =>
        b2 (gOp v65 true (some (s0, h62)) h62) fun v66 h66 =>
        b2 (gOp v65 true (b2 (rn k 111 [(.string ⟨#[9, 9, 9, 9, 9, 9, 9, 9, 9, 9, 9, 9, 9, 9, 9, 9, 9, 9, 9, 9, 9, 9, 9, 9, 9, 9, 9, 9, 9, 9, 9, 9, 9, 9, 9, 9, 9, 9, 9, 9, 9, 9, 9, 9, 9, 9, 9, 9, 9, 9, 9, 9, 9, 9, 9, 9, 9, 9, 9, 9, 9, 9, 9, 9]⟩), v66] h66) fun v h => some (v, h)) h66) fun v67 h67 =>
        (pickV v65 v67 (.bool false)).bind fun v68 =>
        aIf v68
         ((slc Tryz.prog 9 (.string ⟨#[9, 9, 9, 9, 9, 9, 9, 9, 9, 9, 9, 9, 9, 9, 9, 9, 9, 9, 9, 9, 9, 9, 9, 9, 9, 9, 9, 9, 9, 9, 9, 9, 9, 9, 9, 9, 9, 9, 9, 9, 9, 9, 9, 9, 9, 9, 9, 9, 9, 9, 9, 9, 9, 9, 9, 9, 9, 9, 9, 9, 9, 9, 9, 9]⟩) none (some v14)).bind fun v69 =>
         some (v69, h67))
         (f101_J2 k s0 v14 h67))))))
    (f101_J2 k s0 v14 H))
   ((bin Tryz.prog .eql 5 v17 (.int .u8 48)).bind fun v70 =>
   aIf v70
    (aIf v70
     ((bin Tryz.prog .leq 3 v14 (.int .i64 128)).bind fun v71 =>
     b2 (gOp v71 true (some (s0, H)) H) fun v72 h72 =>
     b2 (gOp v71 true (b2 (rn k 111 [(.string long0), v72] h72) fun v h => some (v, h)) h72) fun v73 h73 =>
     (pickV v71 v73 (.bool false)).bind fun v74 =>
     aIf v74
      ((slc Tryz.prog 9 (.string long0) none (some v14)).bind fun v75 =>
      some (v75, h73))
      ((bin Tryz.prog .leq 3 v14 (.int .i64 128)).bind fun v76 =>
      b2 (gOp v76 true (some (s0, h73)) h73) fun v77 h77 =>
      b2 (gOp v76 true (b2 (rn k 111 [(.string long1), v77] h77) fun v h => some (v, h)) h77) fun v78 h78 =>
      (pickV v76 v78 (.bool false)).bind fun v79 =>
      aIf v79
       ((slc Tryz.prog 9 (.string long1) none (some v14)).bind fun v80 =>
       some (v80, h78))
       ((bin Tryz.prog .leq 3 v14 (.int .i64 64)).bind fun v81 =>
       b2 (gOp v81 true (some (s0, h78)) h78) fun v82 h82 =>
       b2 (gOp v81 true (b2 (rn k 111 [(.string long2), v82] h82) fun v h => some (v, h)) h82) fun v83 h83 =>
       (pickV v81 v83 (.bool false)).bind fun v84 =>
       aIf v84
        ((slc Tryz.prog 9 (.string long2) none (some v14)).bind fun v85 =>
        some (v85, h83))
        ((bin Tryz.prog .leq 3 v14 (.int .i64 128)).bind fun v86 =>
        b2 (gOp v86 true (some (s0, h83)) h83) fun v87 h87 =>
        b2 (gOp v86 true (b2 (rn k 111 [(.string long3), v87] h87) fun v h => some (v, h)) h87) fun v88 h88 =>
        (pickV v86 v88 (.bool false)).bind fun v89 =>
        aIf v89
         ((slc Tryz.prog 9 (.string long3) none (some v14)).bind fun v90 =>
         some (v90, h88))
         ((bin Tryz.prog .leq 3 v14 (.int .i64 64)).bind fun v91 =>
         b2 (gOp v91 true (some (s0, h88)) h88) fun v92 h92 =>
         b2 (gOp v91 true (b2 (rn k 111 [(.string ⟨#[9, 9, 9, 9, 9, 9, 9, 9, 9, 9, 9, 9, 9, 9, 9, 9, 9, 9, 9, 9, 9, 9, 9, 9, 9, 9, 9, 9, 9, 9, 9, 9, 9, 9, 9, 9, 9, 9, 9, 9, 9, 9, 9, 9, 9, 9, 9, 9, 9, 9, 9, 9, 9, 9, 9, 9, 9, 9, 9, 9, 9, 9, 9, 9]⟩), v92] h92) fun v h => some (v, h)) h92) fun v93 h93 =>
         (pickV v91 v93 (.bool false)).bind fun v94 =>
         aIf v94
          ((slc Tryz.prog 9 (.string ⟨#[9, 9, 9, 9, 9, 9, 9, 9, 9, 9, 9, 9, 9, 9, 9, 9, 9, 9, 9, 9, 9, 9, 9, 9, 9, 9, 9, 9, 9, 9, 9, 9, 9, 9, 9, 9, 9, 9, 9, 9, 9, 9, 9, 9, 9, 9, 9, 9, 9, 9, 9, 9, 9, 9, 9, 9, 9, 9, 9, 9, 9, 9, 9, 9]⟩) none (some v14)).bind fun v95 =>
          some (v95, h93))
          (f101_J2 k s0 v14 h93))))))
     (f101_J2 k s0 v14 H))
    ((bin Tryz.prog .eql 5 v17 (.int .u8 61)).bind fun v96 =>
    aIf v96
     (aIf v96
      ((bin Tryz.prog .leq 3 v14 (.int .i64 128)).bind fun v97 =>
      b2 (gOp v97 true (some (s0, H)) H) fun v98 h98 =>
      b2 (gOp v97 true (b2 (rn k 111 [(.string long0), v98] h98) fun v h => some (v, h)) h98) fun v99 h99 =>
      (pickV v97 v99 (.bool false)).bind fun v100 =>
      aIf v100
       ((slc Tryz.prog 9 (.string long0) none (some v14)).bind fun v101 =>
       some (v101, h99))
       ((bin Tryz.prog .leq 3 v14 (.int .i64 128)).bind fun v102 =>
       b2 (gOp v102 true (some (s0, h99)) h99) fun v103 h103 =>
       b2 (gOp v102 true (b2 (rn k 111 [(.string long1), v103] h103) fun v h => some (v, h)) h103) fun v104 h104 =>
       (pickV v102 v104 (.bool false)).bind fun v105 =>
       aIf v105
        ((slc Tryz.prog 9 (.string long1) none (some v14)).bind fun v106 =>
        some (v106, h104))
        ((bin Tryz.prog .leq 3 v14 (.int .i64 64)).bind fun v107 =>
        b2 (gOp v107 true (some (s0, h104)) h104) fun v108 h108 =>
        b2 (gOp v107 true (b2 (rn k 111 [(.string long2), v108] h108) fun v h => some (v, h)) h108) fun v109 h109 =>
        (pickV v107 v109 (.bool false)).bind fun v110 =>
        aIf v110
         ((slc Tryz.prog 9 (.string long2) none (some v14)).bind fun v111 =>
         some (v111, h109))
         ((bin Tryz.prog .leq 3 v14 (.int .i64 128)).bind fun v112 =>
         b2 (gOp v112 true (some (s0, h109)) h109) fun v113 h113 =>
         b2 (gOp v112 true (b2 (rn k 111 [(.string long3), v113] h113) fun v h => some (v, h)) h113) fun v114 h114 =>
         (pickV v112 v114 (.bool false)).bind fun v115 =>
         aIf v115
          ((slc Tryz.prog 9 (.string long3) none (some v14)).bind fun v116 =>
          some (v116, h114))
          ((bin Tryz.prog .leq 3 v14 (.int .i64 64)).bind fun v117 =>
          b2 (gOp v117 true (some (s0, h114)) h114) fun v118 h118 =>
          b2 (gOp v117 true (b2 (rn k 111 [(.string ⟨#[9, 9, 9, 9, 9, 9, 9, 9, 9, 9, 9, 9, 9, 9, 9, 9, 9, 9, 9, 9, 9, 9, 9, 9, 9, 9, 9, 9, 9, 9, 9, 9, 9, 9, 9, 9, 9, 9, 9, 9, 9, 9, 9, 9, 9, 9, 9, 9, 9, 9, 9, 9, 9, 9, 9, 9, 9, 9, 9, 9, 9, 9, 9, 9]⟩), v118] h118) fun v h => some (v, h)) h118) fun v119 h119 =>
          (pickV v117 v119 (.bool false)).bind fun v120 =>
          aIf v120
           ((slc Tryz.prog 9 (.string ⟨#[9, 9, 9, 9, 9, 9, 9, 9, 9, 9, 9, 9, 9, 9, 9, 9, 9, 9, 9, 9, 9, 9, 9, 9, 9, 9, 9, 9, 9, 9, 9, 9, 9, 9, 9, 9, 9, 9, 9, 9, 9, 9, 9, 9, 9, 9, 9, 9, 9, 9, 9, 9, 9, 9, 9, 9, 9, 9, 9, 9, 9, 9, 9, 9]⟩) none (some v14)).bind fun v121 =>
           some (v121, h119))
           (f101_J2 k s0 v14 h119))))))
      (f101_J2 k s0 v14 H))
     ((bin Tryz.prog .eql 5 v17 (.int .u8 9)).bind fun v122 =>
     aIf v122
      ((bin Tryz.prog .leq 3 v14 (.int .i64 128)).bind fun v123 =>
      b2 (gOp v123 true (some (s0, H)) H) fun v124 h124 =>
      b2 (gOp v123 true (b2 (rn k 111 [(.string long0), v124] h124) fun v h => some (v, h)) h124) fun v125 h125 =>
      (pickV v123 v125 (.bool false)).bind fun v126 =>
      aIf v126
       ((slc Tryz.prog 9 (.string long0) none (some v14)).bind fun v127 =>
       some (v127, h125))
       ((bin Tryz.prog .leq 3 v14 (.int .i64 128)).bind fun v128 =>
       b2 (gOp v128 true (some (s0, h125)) h125) fun v129 h129 =>
       b2 (gOp v128 true (b2 (rn k 111 [(.string long1), v129] h129) fun v h => some (v, h)) h129) fun v130 h130 =>
       (pickV v128 v130 (.bool false)).bind fun v131 =>
       aIf v131
        ((slc Tryz.prog 9 (.string long1) none (some v14)).bind fun v132 =>
        some (v132, h130))
        ((bin Tryz.prog .leq 3 v14 (.int .i64 64)).bind fun v133 =>
        b2 (gOp v133 true (some (s0, h130)) h130) fun v134 h134 =>
        b2 (gOp v133 true (b2 (rn k 111 [(.string long2), v134] h134) fun v h => some (v, h)) h134) fun v135 h135 =>
        (pickV v133 v135 (.bool false)).bind fun v136 =>
        aIf v136
         ((slc Tryz.prog 9 (.string long2) none (some v14)).bind fun v137 =>
         some (v137, h135))
         ((bin Tryz.prog .leq 3 v14 (.int .i64 128)).bind fun v138 =>
         b2 (gOp v138 true (some (s0, h135)) h135) fun v139 h139 =>
         b2 (gOp v138 true (b2 (rn k 111 [(.string long3), v139] h139) fun v h => some (v, h)) h139) fun v140 h140 =>
         (pickV v138 v140 (.bool false)).bind fun v141 =>
         aIf v141
          ((slc Tryz.prog 9 (.string long3) none (some v14)).bind fun v142 =>
          some (v142, h140))
          ((bin Tryz.prog .leq 3 v14 (.int .i64 64)).bind fun v143 =>
          b2 (gOp v143 true (some (s0, h140)) h140) fun v144 h144 =>
          b2 (gOp v143 true (b2 (rn k 111 [(.string ⟨#[9, 9, 9, 9, 9, 9, 9, 9, 9, 9, 9, 9, 9, 9, 9, 9, 9, 9, 9, 9, 9, 9, 9, 9, 9, 9, 9, 9, 9, 9, 9, 9, 9, 9, 9, 9, 9, 9, 9, 9, 9, 9, 9, 9, 9, 9, 9, 9, 9, 9, 9, 9, 9, 9, 9, 9, 9, 9, 9, 9, 9, 9, 9, 9]⟩), v144] h144) fun v h => some (v, h)) h144) fun v145 h145 =>
          (pickV v143 v145 (.bool false)).bind fun v146 =>
          aIf v146
           ((slc Tryz.prog 9 (.string ⟨#[9, 9, 9, 9, 9, 9, 9, 9, 9, 9, 9, 9, 9, 9, 9, 9, 9, 9, 9, 9, 9, 9, 9, 9, 9, 9, 9, 9, 9, 9, 9, 9, 9, 9, 9, 9, 9, 9, 9, 9, 9, 9, 9, 9, 9, 9, 9, 9, 9, 9, 9, 9, 9, 9, 9, 9, 9, 9, 9, 9, 9, 9, 9, 9]⟩) none (some v14)).bind fun v147 =>
           some (v147, h145))
           (f101_J2 k s0 v14 h145))))))
      (f101_J2 k s0 v14 H)))))) := by kernel_rfl
theorem f101_J2_eq (k : Nat) (s0 s7 : Value) (H : AH) : f101_J2 k s0 s7 H =
(bin Tryz.prog .gtr 3 s7 (.int .i64 8192)).bind fun v148 =>
aIf v148
 ((lenV Tryz.prog 9 s0).bind fun v149 =>
 (bin Tryz.prog .quo 3 (.int .i64 8192) v149).bind fun v150 =>
 (lenV Tryz.prog 9 s0).bind fun v151 =>
 (bin Tryz.prog .mul 3 v150 v151).bind fun v152 =>
 (bin Tryz.prog .eql 3 v152 (.int .i64 0)).bind fun v153 =>
 aIf v153
  ((lenV Tryz.prog 9 s0).bind fun v154 =>
  f101_J3 k s0 s7 v154 H)
  (f101_J3 k s0 s7 v152 H))
 (f101_J3 k s0 s7 s7 H) := by kernel_rfl
theorem f101_J3_eq (k : Nat) (s0 s7 s8 : Value) (H : AH) : f101_J3 k s0 s7 s8 H =
b2 (newV Tryz.prog 129 H) fun v155 h155 =>
b2 (rn k 112 [v155, s7] h155) fun v156 h156 =>
b2 (rn k 69 [v155, s0] h156) fun v157 h157 =>
(f101_L0 k s7 s8 v155 k h157).bind fun p => f101_A0 k p.1 p.2.1 p.2.2 := by kernel_rfl
theorem f101_L0_succ (k : Nat) (s7 s8 s9 : Value) (n : Nat) (H : AH) : f101_L0 k s7 s8 s9 (n + 1) H =
b2 (rn k 113 [s9] H) fun v158 h158 =>
(bin Tryz.prog .lss 3 v158 s7).bind fun v159 =>
aIf v159
 (b2 (rn k 113 [s9] h158) fun v160 h160 =>
 (bin Tryz.prog .sub 3 s7 v160).bind fun v161 =>
 b2 (rn k 113 [s9] h160) fun v162 h162 =>
 (fold1 minV [v161, v162, s8]).bind fun v163 =>
 b2 (rn k 70 [s9] h162) fun v164 h164 =>
 (slc Tryz.prog 9 v164 none (some v163)).bind fun v165 =>
 b2 (rn k 69 [s9, v165] h164) fun v166 h166 =>
 f101_L0 k s7 s8 s9 n h166)
 (some ((.exit 3), (f101_X_L0 s9), h158)) := by kernel_rfl
theorem f101_A0_x3 (k : Nat) (s9 : Value) (H : AH) : f101_A0 k (.exit 3) (f101_X_L0 s9) H =
b2 (rn k 70 [s9] H) fun v167 h167 =>
some (v167, h167) := by kernel_rfl
theorem f101_eq (k : Nat) (a0 a1 : Value) (H : AH) : rn (k + 1) 101 [a0, a1] H =
(bin Tryz.prog .eql 3 a1 (.int .i64 0)).bind fun v1 =>
aIf v1
 (some ((.string ⟨#[]⟩), H))
 ((bin Tryz.prog .eql 3 a1 (.int .i64 1)).bind fun v2 =>
 aIf v2
  (some (a0, H))
  ((bin Tryz.prog .lss 3 a1 (.int .i64 0)).bind fun v3 =>
  aIf v3
   (none)
   (f101_J0 k a0 a1 H))) := by kernel_rfl
theorem f102_eq (k : Nat) (a0 : Value) (H : AH) : rn (k + 1) 102 [a0] H =
b2 (rn k 114 [a0] H) fun v1 h1 =>
(bin Tryz.prog .shr 171 v1 (.int .u64 8)).bind fun v2 =>
(bin Tryz.prog .shr 171 v1 (.int .u64 16)).bind fun v3 =>
(bin Tryz.prog .shr 171 v1 (.int .u64 24)).bind fun v4 =>
b2 (buildS Tryz.prog 180 h1 4 [(0, v1), (1, v2), (2, v3), (3, v4)]) fun v5 h5 =>
b2 (rn k 100 [v5] h5) fun v6 h6 =>
some (v6, h6) := by kernel_rfl
theorem f103_eq (k : Nat) (a0 a1 a2 : Value) (H : AH) : rn (k + 1) 103 [a0, a1, a2] H =
(ld Tryz.prog 30 H a0).bind fun v1 =>
(ld Tryz.prog 30 H a0).bind fun v2 =>
(nilChk v2).bind fun v3 =>
(fldA Tryz.prog 98 v3 1).bind fun v4 =>
(ld Tryz.prog 96 H v4).bind fun v5 =>
(ld Tryz.prog 3 H a1).bind fun v6 =>
(ld Tryz.prog 9 H a2).bind fun v7 =>
(build Tryz.prog 158 [(0, v6), (1, v7)]).bind fun v8 =>
b2 (buildS Tryz.prog 96 H 1 [(0, v8)]) fun v9 h9 =>
b2 (ap Tryz.prog 96 96 h9 v5 v9) fun v10 h10 =>
aChk (ld Tryz.prog 30 h10 a0 = some v1) <|
(nilChk v1).bind fun v11 =>
(fldA Tryz.prog 98 v11 1).bind fun v12 =>
(st Tryz.prog 96 h10 v12 v10).bind fun h13 =>
some ((.tuple #[]), h13) := by kernel_rfl
abbrev f104_T_L0 (s0 s3 s4 : Value) : List Value := [s0, unk, unk, s3, s4] ++ List.replicate 27 unk
abbrev f104_X_L0 (s3 : Value) : List Value := [unk, unk, unk, s3] ++ List.replicate 28 unk
abbrev f104_T_L1 (s0 s3 s4 s5 : Value) : List Value := [s0, unk, unk, s3, s4, s5] ++ List.replicate 26 unk
abbrev f104_X_L1 (s0 s3 s4 : Value) : List Value := [s0, unk, unk, s3, s4] ++ List.replicate 27 unk
@[irreducible] def f104_L0 (k : Nat) (s0 s3 s4 : Value) (n : Nat) (H : AH) : Option Out := iterD (fun T H K => evalK Tryz.prog (rn k) k (tbs 104) (codeAt (bodyOf Tryz.f104) [1, 1, 0, 1, 0, 0]) T H K) (cutT (tbs 104) 10) (cutT (tbs 104) 11) n (f104_T_L0 s0 s3 s4) H
@[irreducible] def f104_A0 (k : Nat) (e : EX) (T : List Value) (H : AH) : Option (Value × AH) := resume Tryz.prog (rn k) k (tbs 104) (bodyOf Tryz.f104) [1, 1, 0, 1, 0] e T H (resK Tryz.prog Tryz.f104.results.toList)
@[irreducible] def f104_L1 (k : Nat) (s0 s3 s4 s5 : Value) (n : Nat) (H : AH) : Option Out := iterD (fun T H K => evalK Tryz.prog (rn k) k (tbs 104) (codeAt (bodyOf Tryz.f104) [1, 1, 0, 1, 0, 0, 1, 0, 0, 1, 1, 0, 0]) T H K) (cutT (tbs 104) 22) (cutT (tbs 104) 23) n (f104_T_L1 s0 s3 s4 s5) H
@[irreducible] def f104_A1 (k : Nat) (n : Nat) (e : EX) (T : List Value) (H : AH) : Option Out := resume Tryz.prog (rn k) k (tbs 104) (codeAt (bodyOf Tryz.f104) [1, 1, 0, 1, 0, 0]) [1, 0, 0, 1, 1, 0] e T H (loopK (iterD (fun T H K => evalK Tryz.prog (rn k) k (tbs 104) (codeAt (bodyOf Tryz.f104) [1, 1, 0, 1, 0, 0]) T H K) (cutT (tbs 104) 10) (cutT (tbs 104) 11) n) (cutT (tbs 104) 10) (cutT (tbs 104) 11))
theorem f104_L0_succ (k : Nat) (s0 s3 s4 : Value) (n : Nat) (H : AH) : f104_L0 k s0 s3 s4 (n + 1) H =
(lenV Tryz.prog 9 s0).bind fun v1 =>
(bin Tryz.prog .lss 3 s4 v1).bind fun v2 =>
aIf v2
 ((ix Tryz.prog 9 s0 s4).bind fun v3 =>
 (cv Tryz.prog 5 171 v3).bind fun v4 =>
 (bin Tryz.prog .xor 171 s3 v4).bind fun v5 =>
 (f104_L1 k s0 v5 s4 (.int .i64 0) k H).bind fun p => f104_A1 k n p.1 p.2.1 p.2.2)
 (some ((.exit 0), (f104_X_L0 s3), H)) := by kernel_rfl
theorem f104_A0_x0 (k : Nat) (s3 : Value) (H : AH) : f104_A0 k (.exit 0) (f104_X_L0 s3) H =
(bin Tryz.prog .xor 171 s3 (.int .u32 4294967295)).bind fun v6 =>
some (v6, H) := by kernel_rfl
theorem f104_L1_succ (k : Nat) (s0 s3 s4 s5 : Value) (n : Nat) (H : AH) : f104_L1 k s0 s3 s4 s5 (n + 1) H =
(bin Tryz.prog .lss 3 s5 (.int .i64 8)).bind fun v7 =>
aIf v7
 ((bin Tryz.prog .rem 171 s3 (.int .u32 2)).bind fun v8 =>
 (bin Tryz.prog .eql 171 v8 (.int .u32 1)).bind fun v9 =>
 aIf v9
  ((bin Tryz.prog .quo 171 s3 (.int .u32 2)).bind fun v10 =>
  (bin Tryz.prog .xor 171 v10 (.int .u32 3988292384)).bind fun v11 =>
  (bin Tryz.prog .add 3 s5 (.int .i64 1)).bind fun v12 =>
  f104_L1 k s0 v11 s4 v12 n H)
  ((bin Tryz.prog .quo 171 s3 (.int .u32 2)).bind fun v13 =>
  (bin Tryz.prog .add 3 s5 (.int .i64 1)).bind fun v14 =>
  f104_L1 k s0 v13 s4 v14 n H))
 (some ((.exit 2), (f104_X_L1 s0 s3 s4), H)) := by kernel_rfl
theorem f104_A1_x2 (k : Nat) (n : Nat) (s0 s3 s4 : Value) (H : AH) : f104_A1 k n (.exit 2) (f104_X_L1 s0 s3 s4) H =
(bin Tryz.prog .add 3 s4 (.int .i64 1)).bind fun v15 =>
f104_L0 k s0 s3 v15 n H := by kernel_rfl
theorem f104_eq (k : Nat) (a0 : Value) (H : AH) : rn (k + 1) 104 [a0] H =
(f104_L0 k a0 (.int .u32 4294967295) (.int .i64 0) k H).bind fun p => f104_A0 k p.1 p.2.1 p.2.2 := by kernel_rfl
abbrev f105_T_L0 (s0 s1 s3 : Value) : List Value := [s0, s1, unk, s3] ++ List.replicate 15 unk
abbrev f105_X_L0 : List Value := List.replicate 19 unk
@[irreducible] def f105_L0 (k : Nat) (s0 s1 s3 : Value) (n : Nat) (H : AH) : Option Out := iterD (fun T H K => evalK Tryz.prog (rn k) k (tbs 105) (codeAt (bodyOf Tryz.f105) [1, 0, 0]) T H K) (cutT (tbs 105) 4) (cutT (tbs 105) 5) n (f105_T_L0 s0 s1 s3) H
@[irreducible] def f105_A0 (k : Nat) (e : EX) (T : List Value) (H : AH) : Option (Value × AH) := resume Tryz.prog (rn k) k (tbs 105) (bodyOf Tryz.f105) [1, 0] e T H (resK Tryz.prog Tryz.f105.results.toList)
theorem f105_L0_succ (k : Nat) (s0 s1 s3 : Value) (n : Nat) (H : AH) : f105_L0 k s0 s1 s3 (n + 1) H =
(bin Tryz.prog .geq 3 s3 (.int .i64 0)).bind fun v4 =>
aIf v4
 ((ld Tryz.prog 96 H s1).bind fun v5 =>
 (ixA Tryz.prog 96 v5 s3).bind fun v6 =>
 (ld Tryz.prog 158 H v6).bind fun v7 =>
 b2 (callY (rn k) s0 [s3, v7] H) fun v8 h8 =>
 (un Tryz.prog .not v8).bind fun v9 =>
 aIf v9
  (some (.ret, f105_X_L0, h8))
  ((bin Tryz.prog .sub 3 s3 (.int .i64 1)).bind fun v10 =>
  f105_L0 k s0 s1 v10 n h8))
 (some ((.exit 0), f105_X_L0, H)) := by kernel_rfl
theorem f105_A0_x0 (k : Nat) (H : AH) : f105_A0 k (.exit 0) f105_X_L0 H =
some ((.tuple #[]), H) := by kernel_rfl
theorem f105_A0_ret (k : Nat) (H : AH) : f105_A0 k .ret f105_X_L0 H =
some ((.tuple #[]), H) := by kernel_rfl
theorem f105_eq (k : Nat) (a0 a1 : Value) (H : AH) : rn (k + 1) 105 [a0, a1] H =
(ld Tryz.prog 96 H a1).bind fun v1 =>
(lenV Tryz.prog 96 v1).bind fun v2 =>
(bin Tryz.prog .sub 3 v2 (.int .i64 1)).bind fun v3 =>
(f105_L0 k a0 a1 v3 k H).bind fun p => f105_A0 k p.1 p.2.1 p.2.2 := by kernel_rfl
abbrev f106_T_L0 (s0 s1 s7 s17 : Value) : List Value := [s0, s1, unk, unk, unk, unk, unk, s7] ++ List.replicate 9 unk ++ [s17] ++ List.replicate 23 unk
abbrev f106_X_L0 (s4 s5 s6 s7 : Value) : List Value := [unk, unk, unk, unk, s4, s5, s6, s7] ++ List.replicate 33 unk
@[irreducible] def f106_L0 (k : Nat) (s0 s1 s7 s17 : Value) (n : Nat) (H : AH) : Option Out := iterD (fun T H K => evalK Tryz.prog (rn k) k (tbs 106) (codeAt (bodyOf Tryz.f106) [1, 1, 1, 0, 1, 0, 0]) T H K) (cutT (tbs 106) 16) (cutT (tbs 106) 17) n (f106_T_L0 s0 s1 s7 s17) H
@[irreducible] def f106_A0 (k : Nat) (e : EX) (T : List Value) (H : AH) : Option (Value × AH) := resume Tryz.prog (rn k) k (tbs 106) (bodyOf Tryz.f106) [1, 1, 1, 0, 1, 0] e T H (resK Tryz.prog Tryz.f106.results.toList)
theorem f106_L0_succ (k : Nat) (s0 s1 s7 s17 : Value) (n : Nat) (H : AH) : f106_L0 k s0 s1 s7 s17 (n + 1) H =
(bin Tryz.prog .lss 3 s17 (.int .i64 2)).bind fun v5 =>
aIf v5
 ((bin Tryz.prog .mul 3 (.int .i64 2) s1).bind fun v6 =>
 (bin Tryz.prog .add 3 v6 s17).bind fun v7 =>
 b2 (rn k 51 [s0, v7] H) fun v8 h8 =>
 (ext v8 0).bind fun v9 =>
 (ext v8 1).bind fun v10 =>
 (bin Tryz.prog .neq 36 v10 (.int .i64 0)).bind fun v11 =>
 aIf v11
  (some (.ret, (f106_X_L0 (.int .i64 0) (.string ⟨#[]⟩) v10 s7), h8))
  ((bin Tryz.prog .add 9 s7 v9).bind fun v12 =>
  (bin Tryz.prog .add 3 s17 (.int .i64 1)).bind fun v13 =>
  f106_L0 k s0 s1 v12 v13 n h8))
 (some ((.exit 0), (f106_X_L0 unk unk unk s7), H)) := by kernel_rfl
theorem f106_A0_x0 (k : Nat) (s4 s5 s6 s7 : Value) (H : AH) : f106_A0 k (.exit 0) (f106_X_L0 s4 s5 s6 s7) H =
b2 (rn k 115 [s7] H) fun v14 h14 =>
(ext v14 0).bind fun v15 =>
(ext v14 1).bind fun v16 =>
(ext v14 2).bind fun v17 =>
some ((.tuple #[v15, v16, v17]), h14) := by kernel_rfl
theorem f106_A0_ret (k : Nat) (s4 s5 s6 s7 : Value) (H : AH) : f106_A0 k .ret (f106_X_L0 s4 s5 s6 s7) H =
some ((.tuple #[s4, s5, s6]), H) := by kernel_rfl
theorem f106_eq (k : Nat) (a0 a1 : Value) (H : AH) : rn (k + 1) 106 [a0, a1] H =
(bin Tryz.prog .lss 3 a1 (.int .i64 0)).bind fun v1 =>
b2 (gOp v1 false (some (a1, H)) H) fun v2 h2 =>
b2 (gOp v1 false ((bin Tryz.prog .gtr 3 v2 (.int .i64 1048576)).bind fun v => some (v, h2)) h2) fun v3 h3 =>
(pickV v1 (.bool true) v3).bind fun v4 =>
aIf v4
 (some ((.tuple #[(.int .i64 0), (.string ⟨#[]⟩), (.int .i64 1)]), h3))
 ((f106_L0 k a0 a1 (.string ⟨#[]⟩) (.int .i64 0) k h3).bind fun p => f106_A0 k p.1 p.2.1 p.2.2) := by kernel_rfl
theorem f108_eq (k : Nat) (a0 a1 : Value) (H : AH) : rn (k + 1) 108 [a0, a1] H =
(bin Tryz.prog .lss 3 a1 (.int .i64 0)).bind fun v1 =>
b2 (gOp v1 false (some (a1, H)) H) fun v2 h2 =>
b2 (gOp v1 false ((bin Tryz.prog .gtr 3 v2 (.int .i64 1048576)).bind fun v => some (v, h2)) h2) fun v3 h3 =>
(pickV v1 (.bool true) v3).bind fun v4 =>
aIf v4
 (some ((.tuple #[(.int .i64 0), (.string ⟨#[]⟩), (.int .i64 1)]), h3))
 ((bin Tryz.prog .mul 3 (.int .i64 2) a1).bind fun v5 =>
 b2 (rn k 52 [a0, v5] h3) fun v6 h6 =>
 (ext v6 0).bind fun v7 =>
 (ext v6 1).bind fun v8 =>
 (bin Tryz.prog .neq 3 v8 (.int .i64 0)).bind fun v9 =>
 aIf v9
  (some ((.tuple #[(.int .i64 0), (.string ⟨#[]⟩), v8]), h6))
  ((bin Tryz.prog .mul 3 (.int .i64 2) a1).bind fun v10 =>
  (bin Tryz.prog .add 3 v10 (.int .i64 1)).bind fun v11 =>
  b2 (rn k 52 [a0, v11] h6) fun v12 h12 =>
  (ext v12 0).bind fun v13 =>
  (ext v12 1).bind fun v14 =>
  (bin Tryz.prog .neq 3 v14 (.int .i64 0)).bind fun v15 =>
  aIf v15
   (some ((.tuple #[(.int .i64 0), (.string ⟨#[]⟩), v14]), h12))
   ((bin Tryz.prog .add 9 v7 v13).bind fun v16 =>
   b2 (rn k 116 [v16] h12) fun v17 h17 =>
   (ext v17 0).bind fun v18 =>
   (ext v17 1).bind fun v19 =>
   (ext v17 2).bind fun v20 =>
   some ((.tuple #[v18, v19, v20]), h17)))) := by kernel_rfl
theorem f109_eq (k : Nat) (a0 a1 : Value) (H : AH) : rn (k + 1) 109 [a0, a1] H =
b2 (rn k 94 [a0] H) fun v1 h1 =>
(nilChk a0).bind fun v2 =>
(fldA Tryz.prog 129 v2 1).bind fun v3 =>
(ld Tryz.prog 95 h1 v3).bind fun v4 =>
b2 (buildS Tryz.prog 95 h1 1 [(0, a1)]) fun v5 h5 =>
b2 (ap Tryz.prog 95 95 h5 v4 v5) fun v6 h6 =>
(nilChk a0).bind fun v7 =>
(fldA Tryz.prog 129 v7 1).bind fun v8 =>
(st Tryz.prog 95 h6 v8 v6).bind fun h9 =>
some (.nilIface, h9) := by kernel_rfl
theorem f110_eq (k : Nat) (a0 a1 : Value) (H : AH) : rn (k + 1) 110 [a0, a1] H =
b2 (rn k 118 [a0, a1] H) fun v1 h1 =>
(ext v1 0).bind fun v2 =>
(ext v1 1).bind fun v3 =>
some ((.tuple #[v2, v3]), h1) := by kernel_rfl
theorem f111_eq (k : Nat) (a0 a1 : Value) (H : AH) : rn (k + 1) 111 [a0, a1] H =
b2 (rn k 119 [a0, a1] H) fun v1 h1 =>
some (v1, h1) := by kernel_rfl
theorem f113_eq (k : Nat) (a0 : Value) (H : AH) : rn (k + 1) 113 [a0] H =
(nilChk a0).bind fun v1 =>
(fldA Tryz.prog 129 v1 1).bind fun v2 =>
(ld Tryz.prog 95 H v2).bind fun v3 =>
(lenV Tryz.prog 95 v3).bind fun v4 =>
some (v4, H) := by kernel_rfl
abbrev f114_T_L0 (s0 s3 s6 s7 : Value) : List Value := [s0, unk, unk, s3, unk, unk, s6, s7] ++ List.replicate 20 unk
abbrev f114_X_L0 (s3 : Value) : List Value := [unk, unk, unk, s3] ++ List.replicate 24 unk
abbrev f114_T_L1 (s0 s3 s6 s7 s16 : Value) : List Value := [s0, unk, unk, s3, unk, unk, s6, s7] ++ List.replicate 8 unk ++ [s16] ++ List.replicate 11 unk
abbrev f114_X_L1 (s0 s3 s6 s7 : Value) : List Value := [s0, unk, unk, s3, unk, unk, s6, s7] ++ List.replicate 20 unk
@[irreducible] def f114_L0 (k : Nat) (s0 s3 s6 s7 : Value) (n : Nat) (H : AH) : Option Out := iterD (fun T H K => evalK Tryz.prog (rn k) k (tbs 114) (codeAt (bodyOf Tryz.f114) [1, 1, 0, 1, 0, 0]) T H K) (cutT (tbs 114) 10) (cutT (tbs 114) 11) n (f114_T_L0 s0 s3 s6 s7) H
@[irreducible] def f114_A0 (k : Nat) (e : EX) (T : List Value) (H : AH) : Option (Value × AH) := resume Tryz.prog (rn k) k (tbs 114) (bodyOf Tryz.f114) [1, 1, 0, 1, 0] e T H (resK Tryz.prog Tryz.f114.results.toList)
@[irreducible] def f114_L1 (k : Nat) (s0 s3 s6 s7 s16 : Value) (n : Nat) (H : AH) : Option Out := iterD (fun T H K => evalK Tryz.prog (rn k) k (tbs 114) (codeAt (bodyOf Tryz.f114) [1, 1, 0, 1, 0, 0, 1, 1, 0, 0, 1, 1, 1, 0, 0]) T H K) (cutT (tbs 114) 22) (cutT (tbs 114) 23) n (f114_T_L1 s0 s3 s6 s7 s16) H
@[irreducible] def f114_A1 (k : Nat) (n : Nat) (e : EX) (T : List Value) (H : AH) : Option Out := resume Tryz.prog (rn k) k (tbs 114) (codeAt (bodyOf Tryz.f114) [1, 1, 0, 1, 0, 0]) [1, 1, 0, 0, 1, 1, 1, 0] e T H (loopK (iterD (fun T H K => evalK Tryz.prog (rn k) k (tbs 114) (codeAt (bodyOf Tryz.f114) [1, 1, 0, 1, 0, 0]) T H K) (cutT (tbs 114) 10) (cutT (tbs 114) 11) n) (cutT (tbs 114) 10) (cutT (tbs 114) 11))
theorem f114_L0_succ (k : Nat) (s0 s3 s6 s7 : Value) (n : Nat) (H : AH) : f114_L0 k s0 s3 s6 s7 (n + 1) H =
(bin Tryz.prog .lss 3 s7 s6).bind fun v2 =>
aIf v2
 ((ix Tryz.prog 9 s0 s7).bind fun v3 =>
 (cv Tryz.prog 5 171 v3).bind fun v4 =>
 (bin Tryz.prog .xor 171 s3 v4).bind fun v5 =>
 (f114_L1 k s0 v5 s6 s7 (.int .i64 0) k H).bind fun p => f114_A1 k n p.1 p.2.1 p.2.2)
 (some ((.exit 0), (f114_X_L0 s3), H)) := by kernel_rfl
theorem f114_A0_x0 (k : Nat) (s3 : Value) (H : AH) : f114_A0 k (.exit 0) (f114_X_L0 s3) H =
(un Tryz.prog .xor s3).bind fun v6 =>
some (v6, H) := by kernel_rfl
theorem f114_L1_succ (k : Nat) (s0 s3 s6 s7 s16 : Value) (n : Nat) (H : AH) : f114_L1 k s0 s3 s6 s7 s16 (n + 1) H =
(bin Tryz.prog .lss 3 s16 (.int .i64 8)).bind fun v7 =>
aIf v7
 ((bin Tryz.prog .shr 171 s3 (.int .u64 1)).bind fun v8 =>
 (bin Tryz.prog .and 171 s3 (.int .u32 1)).bind fun v9 =>
 (bin Tryz.prog .mul 171 (.int .u32 3988292384) v9).bind fun v10 =>
 (bin Tryz.prog .xor 171 v8 v10).bind fun v11 =>
 (bin Tryz.prog .add 3 s16 (.int .i64 1)).bind fun v12 =>
 f114_L1 k s0 v11 s6 s7 v12 n H)
 (some ((.exit 2), (f114_X_L1 s0 s3 s6 s7), H)) := by kernel_rfl
theorem f114_A1_x2 (k : Nat) (n : Nat) (s0 s3 s6 s7 : Value) (H : AH) : f114_A1 k n (.exit 2) (f114_X_L1 s0 s3 s6 s7) H =
(bin Tryz.prog .add 3 s7 (.int .i64 1)).bind fun v13 =>
f114_L0 k s0 s3 s6 v13 n H := by kernel_rfl
theorem f114_eq (k : Nat) (a0 : Value) (H : AH) : rn (k + 1) 114 [a0] H =
(lenV Tryz.prog 9 a0).bind fun v1 =>
(f114_L0 k a0 (.int .u32 4294967295) v1 (.int .i64 0) k H).bind fun p => f114_A0 k p.1 p.2.1 p.2.2 := by kernel_rfl
theorem f115_eq (k : Nat) (a0 : Value) (H : AH) : rn (k + 1) 115 [a0] H =
(lenV Tryz.prog 9 a0).bind fun v1 =>
(bin Tryz.prog .neq 3 v1 (.int .i64 128)).bind fun v2 =>
aIf v2
 (some ((.tuple #[(.int .i64 0), (.string ⟨#[]⟩), (.int .i64 2)]), H))
 ((slc Tryz.prog 9 a0 none (some (.int .i64 124))).bind fun v3 =>
 (ix Tryz.prog 9 a0 (.int .i64 3)).bind fun v4 =>
 (cv Tryz.prog 5 3 v4).bind fun v5 =>
 b2 (rn k 102 [v3] H) fun v6 h6 =>
 (slc Tryz.prog 9 a0 (some (.int .i64 124)) none).bind fun v7 =>
 (bin Tryz.prog .neq 9 v6 v7).bind fun v8 =>
 aIf v8
  (some ((.tuple #[(.int .i64 0), (.string ⟨#[]⟩), (.int .i64 10)]), h6))
  (b2 (rn k 111 [a0, (.string ⟨#[65, 83]⟩)] h6) fun v9 h9 =>
  (un Tryz.prog .not v9).bind fun v10 =>
  b2 (gOp v10 false (some (a0, h9)) h9) fun v11 h11 =>
  b2 (gOp v10 false ((ix Tryz.prog 9 v11 (.int .i64 2)).bind fun v => some (v, h11)) h11) fun v12 h12 =>
  b2 (gOp v10 false ((bin Tryz.prog .lss 5 v12 (.int .u8 1)).bind fun v => some (v, h12)) h12) fun v13 h13 =>
  (pickV v10 (.bool true) v13).bind fun v14 =>
  b2 (gOp v14 false (some (a0, h13)) h13) fun v15 h15 =>
  b2 (gOp v14 false ((ix Tryz.prog 9 v15 (.int .i64 2)).bind fun v => some (v, h15)) h15) fun v16 h16 =>
  b2 (gOp v14 false ((bin Tryz.prog .gtr 5 v16 (.int .u8 9)).bind fun v => some (v, h16)) h16) fun v17 h17 =>
  (pickV v14 (.bool true) v17).bind fun v18 =>
  b2 (gOp v18 false (some (v5, h17)) h17) fun v19 h19 =>
  b2 (gOp v18 false ((bin Tryz.prog .gtr 3 v19 (.int .i64 120)).bind fun v => some (v, h19)) h19) fun v20 h20 =>
  (pickV v18 (.bool true) v20).bind fun v21 =>
  b2 (gOp v21 false (some (v3, h20)) h20) fun v22 h22 =>
  b2 (gOp v21 false (some (v5, h22)) h22) fun v23 h23 =>
  b2 (gOp v21 false ((bin Tryz.prog .add 3 (.int .i64 4) v23).bind fun v => some (v, h23)) h23) fun v24 h24 =>
  b2 (gOp v21 false ((slc Tryz.prog 9 v22 (some v24) none).bind fun v => some (v, h24)) h24) fun v25 h25 =>
  b2 (gOp v21 false (b2 (rn k 121 [v25, (.string ⟨#[0]⟩)] h25) fun v h => some (v, h)) h25) fun v26 h26 =>
  b2 (gOp v21 false ((bin Tryz.prog .neq 9 v26 (.string ⟨#[]⟩)).bind fun v => some (v, h26)) h26) fun v27 h27 =>
  (pickV v21 (.bool true) v27).bind fun v28 =>
  aIf v28
   (some ((.tuple #[(.int .i64 0), (.string ⟨#[]⟩), (.int .i64 2)]), h27))
   ((ix Tryz.prog 9 a0 (.int .i64 2)).bind fun v29 =>
   (cv Tryz.prog 5 3 v29).bind fun v30 =>
   (bin Tryz.prog .add 3 (.int .i64 4) v5).bind fun v31 =>
   (slc Tryz.prog 9 v3 (some (.int .i64 4)) (some v31)).bind fun v32 =>
   some ((.tuple #[v30, v32, (.int .i64 0)]), h27)))) := by kernel_rfl
theorem f116_eq (k : Nat) (a0 : Value) (H : AH) : rn (k + 1) 116 [a0] H =
(lenV Tryz.prog 9 a0).bind fun v1 =>
(bin Tryz.prog .neq 3 v1 (.int .i64 128)).bind fun v2 =>
aIf v2
 (some ((.tuple #[(.int .i64 0), (.string ⟨#[]⟩), (.int .i64 2)]), H))
 ((slc Tryz.prog 9 a0 none (some (.int .i64 124))).bind fun v3 =>
 b2 (rn k 104 [v3] H) fun v4 h4 =>
 (slc Tryz.prog 9 a0 (some (.int .i64 124)) none).bind fun v5 =>
 (cv Tryz.prog 171 5 v4).bind fun v6 =>
 (bin Tryz.prog .shr 171 v4 (.int .u64 8)).bind fun v7 =>
 (cv Tryz.prog 171 5 v7).bind fun v8 =>
 (bin Tryz.prog .shr 171 v4 (.int .u64 16)).bind fun v9 =>
 (cv Tryz.prog 171 5 v9).bind fun v10 =>
 (bin Tryz.prog .shr 171 v4 (.int .u64 24)).bind fun v11 =>
 (cv Tryz.prog 171 5 v11).bind fun v12 =>
 b2 (buildS Tryz.prog 95 h4 4 [(0, v6), (1, v8), (2, v10), (3, v12)]) fun v13 h13 =>
 (cvS Tryz.prog 95 9 h13 v13).bind fun v14 =>
 (bin Tryz.prog .neq 9 v5 v14).bind fun v15 =>
 aIf v15
  (some ((.tuple #[(.int .i64 0), (.string ⟨#[]⟩), (.int .i64 10)]), h13))
  ((ix Tryz.prog 9 a0 (.int .i64 3)).bind fun v16 =>
  (bin Tryz.prog .gtr 5 v16 (.int .u8 120)).bind fun v17 =>
  aIf v17
   (some ((.tuple #[(.int .i64 0), (.string ⟨#[]⟩), (.int .i64 2)]), h13))
   ((ix Tryz.prog 9 a0 (.int .i64 2)).bind fun v18 =>
   (cv Tryz.prog 5 3 v18).bind fun v19 =>
   (ix Tryz.prog 9 a0 (.int .i64 3)).bind fun v20 =>
   (cv Tryz.prog 5 3 v20).bind fun v21 =>
   (bin Tryz.prog .add 3 (.int .i64 4) v21).bind fun v22 =>
   (slc Tryz.prog 9 a0 (some (.int .i64 4)) (some v22)).bind fun v23 =>
   b2 (rn k 84 [v19, v23] h13) fun v24 h24 =>
   (ext v24 0).bind fun v25 =>
   (ext v24 1).bind fun v26 =>
   (un Tryz.prog .not v26).bind fun v27 =>
   b2 (gOp v27 false (some (v25, h24)) h24) fun v28 h28 =>
   b2 (gOp v27 false (some (a0, h28)) h28) fun v29 h29 =>
   b2 (gOp v27 false ((bin Tryz.prog .neq 9 v28 v29).bind fun v => some (v, h29)) h29) fun v30 h30 =>
   (pickV v27 (.bool true) v30).bind fun v31 =>
   aIf v31
    (some ((.tuple #[(.int .i64 0), (.string ⟨#[]⟩), (.int .i64 2)]), h30))
    (some ((.tuple #[v19, v23, (.int .i64 0)]), h30))))) := by kernel_rfl
theorem f118_eq (k : Nat) (a0 a1 : Value) (H : AH) : rn (k + 1) 118 [a0, a1] H =
(bin Tryz.prog .and 189 a0 (.int .u64 4294967295)).bind fun v1 =>
(bin Tryz.prog .shr 189 a0 (.int .u64 32)).bind fun v2 =>
(bin Tryz.prog .and 189 a1 (.int .u64 4294967295)).bind fun v3 =>
(bin Tryz.prog .shr 189 a1 (.int .u64 32)).bind fun v4 =>
(bin Tryz.prog .mul 189 v1 v3).bind fun v5 =>
(bin Tryz.prog .mul 189 v2 v3).bind fun v6 =>
(bin Tryz.prog .shr 189 v5 (.int .u64 32)).bind fun v7 =>
(bin Tryz.prog .add 189 v6 v7).bind fun v8 =>
(bin Tryz.prog .and 189 v8 (.int .u64 4294967295)).bind fun v9 =>
(bin Tryz.prog .shr 189 v8 (.int .u64 32)).bind fun v10 =>
(bin Tryz.prog .mul 189 v1 v4).bind fun v11 =>
(bin Tryz.prog .add 189 v9 v11).bind fun v12 =>
(bin Tryz.prog .mul 189 v2 v4).bind fun v13 =>
(bin Tryz.prog .add 189 v13 v10).bind fun v14 =>
(bin Tryz.prog .shr 189 v12 (.int .u64 32)).bind fun v15 =>
(bin Tryz.prog .add 189 v14 v15).bind fun v16 =>
(bin Tryz.prog .mul 189 a0 a1).bind fun v17 =>
some ((.tuple #[v16, v17]), H) := by kernel_rfl
theorem f119_eq (k : Nat) (a0 a1 : Value) (H : AH) : rn (k + 1) 119 [a0, a1] H =
(lenV Tryz.prog 9 a0).bind fun v1 =>
(lenV Tryz.prog 9 a1).bind fun v2 =>
(bin Tryz.prog .geq 3 v1 v2).bind fun v3 =>
b2 (gOp v3 true (some (a0, H)) H) fun v4 h4 =>
b2 (gOp v3 true (some (a1, h4)) h4) fun v5 h5 =>
b2 (gOp v3 true ((lenV Tryz.prog 9 v5).bind fun v => some (v, h5)) h5) fun v6 h6 =>
b2 (gOp v3 true ((slc Tryz.prog 9 v4 none (some v6)).bind fun v => some (v, h6)) h6) fun v7 h7 =>
b2 (gOp v3 true (some (a1, h7)) h7) fun v8 h8 =>
b2 (gOp v3 true ((bin Tryz.prog .eql 9 v7 v8).bind fun v => some (v, h8)) h8) fun v9 h9 =>
(pickV v3 v9 (.bool false)).bind fun v10 =>
some (v10, h9) := by kernel_rfl
theorem f121_eq (k : Nat) (a0 a1 : Value) (H : AH) : rn (k + 1) 121 [a0, a1] H =
(bin Tryz.prog .eql 9 a0 (.string ⟨#[]⟩)).bind fun v1 =>
b2 (gOp v1 false (some (a1, H)) H) fun v2 h2 =>
b2 (gOp v1 false ((bin Tryz.prog .eql 9 v2 (.string ⟨#[]⟩)).bind fun v => some (v, h2)) h2) fun v3 h3 =>
(pickV v1 (.bool true) v3).bind fun v4 =>
aIf v4
 (some (a0, h3))
 ((lenV Tryz.prog 9 a1).bind fun v5 =>
 (bin Tryz.prog .eql 3 v5 (.int .i64 1)).bind fun v6 =>
 b2 (gOp v6 true (some (a1, h3)) h3) fun v7 h7 =>
 b2 (gOp v6 true ((ix Tryz.prog 9 v7 (.int .i64 0)).bind fun v => some (v, h7)) h7) fun v8 h8 =>
 b2 (gOp v6 true ((bin Tryz.prog .lss 5 v8 (.int .u8 128)).bind fun v => some (v, h8)) h8) fun v9 h9 =>
 (pickV v6 v9 (.bool false)).bind fun v10 =>
 aIf v10
  ((ix Tryz.prog 9 a1 (.int .i64 0)).bind fun v11 =>
  b2 (rn k 124 [a0, v11] h9) fun v12 h12 =>
  (ix Tryz.prog 9 a1 (.int .i64 0)).bind fun v13 =>
  b2 (rn k 123 [v12, v13] h12) fun v14 h14 =>
  some (v14, h14))
  (b2 (rn k 125 [a1] h9) fun v15 h15 =>
  (ext v15 0).bind fun v16 =>
  (ext v15 1).bind fun v17 =>
  b2 (newV Tryz.prog 196 h15) fun v18 h18 =>
  (st Tryz.prog 196 h18 v18 v16).bind fun h19 =>
  aIf v17
   (b2 (rn k 127 [a0, v18] h19) fun v20 h20 =>
   b2 (rn k 126 [v20, v18] h20) fun v21 h21 =>
   some (v21, h21))
   (b2 (rn k 129 [a0, a1] h19) fun v22 h22 =>
   b2 (rn k 128 [v22, a1] h22) fun v23 h23 =>
   some (v23, h23)))) := by kernel_rfl
abbrev f123_T_L0 (s0 s1 : Value) : List Value := [s0, s1] ++ List.replicate 15 unk
abbrev f123_X_L0 (s0 : Value) : List Value := [s0] ++ List.replicate 16 unk
@[irreducible] def f123_L0 (k : Nat) (s0 s1 : Value) (n : Nat) (H : AH) : Option Out := iterD (fun T H K => evalK Tryz.prog (rn k) k (tbs 123) (codeAt (bodyOf Tryz.f123) [1, 0, 0, 0]) T H K) (cutT (tbs 123) 4) (cutT (tbs 123) 5) n (f123_T_L0 s0 s1) H
@[irreducible] def f123_A0 (k : Nat) (e : EX) (T : List Value) (H : AH) : Option (Value × AH) := resume Tryz.prog (rn k) k (tbs 123) (bodyOf Tryz.f123) [1, 0, 0] e T H (resK Tryz.prog Tryz.f123.results.toList)
theorem f123_L0_succ (k : Nat) (s0 s1 : Value) (n : Nat) (H : AH) : f123_L0 k s0 s1 (n + 1) H =
(lenV Tryz.prog 9 s0).bind fun v1 =>
(bin Tryz.prog .gtr 3 v1 (.int .i64 0)).bind fun v2 =>
b2 (gOp v2 true (some (s0, H)) H) fun v3 h3 =>
b2 (gOp v2 true ((ix Tryz.prog 9 v3 (.int .i64 0)).bind fun v => some (v, h3)) h3) fun v4 h4 =>
b2 (gOp v2 true (some (s1, h4)) h4) fun v5 h5 =>
b2 (gOp v2 true ((bin Tryz.prog .eql 5 v4 v5).bind fun v => some (v, h5)) h5) fun v6 h6 =>
(pickV v2 v6 (.bool false)).bind fun v7 =>
aIf v7
 ((slc Tryz.prog 9 s0 (some (.int .i64 1)) none).bind fun v8 =>
 f123_L0 k v8 s1 n h6)
 (some ((.exit 0), (f123_X_L0 s0), h6)) := by kernel_rfl
theorem f123_A0_x0 (k : Nat) (s0 : Value) (H : AH) : f123_A0 k (.exit 0) (f123_X_L0 s0) H =
some (s0, H) := by kernel_rfl
theorem f123_eq (k : Nat) (a0 a1 : Value) (H : AH) : rn (k + 1) 123 [a0, a1] H =
(f123_L0 k a0 a1 k H).bind fun p => f123_A0 k p.1 p.2.1 p.2.2 := by kernel_rfl
abbrev f124_T_L0 (s0 s1 : Value) : List Value := [s0, s1] ++ List.replicate 21 unk
abbrev f124_X_L0 (s0 : Value) : List Value := [s0] ++ List.replicate 22 unk
@[irreducible] def f124_L0 (k : Nat) (s0 s1 : Value) (n : Nat) (H : AH) : Option Out := iterD (fun T H K => evalK Tryz.prog (rn k) k (tbs 124) (codeAt (bodyOf Tryz.f124) [1, 0, 0, 0]) T H K) (cutT (tbs 124) 4) (cutT (tbs 124) 5) n (f124_T_L0 s0 s1) H
@[irreducible] def f124_A0 (k : Nat) (e : EX) (T : List Value) (H : AH) : Option (Value × AH) := resume Tryz.prog (rn k) k (tbs 124) (bodyOf Tryz.f124) [1, 0, 0] e T H (resK Tryz.prog Tryz.f124.results.toList)
theorem f124_L0_succ (k : Nat) (s0 s1 : Value) (n : Nat) (H : AH) : f124_L0 k s0 s1 (n + 1) H =
(lenV Tryz.prog 9 s0).bind fun v1 =>
(bin Tryz.prog .gtr 3 v1 (.int .i64 0)).bind fun v2 =>
b2 (gOp v2 true (some (s0, H)) H) fun v3 h3 =>
b2 (gOp v2 true (some (s0, h3)) h3) fun v4 h4 =>
b2 (gOp v2 true ((lenV Tryz.prog 9 v4).bind fun v => some (v, h4)) h4) fun v5 h5 =>
b2 (gOp v2 true ((bin Tryz.prog .sub 3 v5 (.int .i64 1)).bind fun v => some (v, h5)) h5) fun v6 h6 =>
b2 (gOp v2 true ((ix Tryz.prog 9 v3 v6).bind fun v => some (v, h6)) h6) fun v7 h7 =>
b2 (gOp v2 true (some (s1, h7)) h7) fun v8 h8 =>
b2 (gOp v2 true ((bin Tryz.prog .eql 5 v7 v8).bind fun v => some (v, h8)) h8) fun v9 h9 =>
(pickV v2 v9 (.bool false)).bind fun v10 =>
aIf v10
 ((lenV Tryz.prog 9 s0).bind fun v11 =>
 (bin Tryz.prog .sub 3 v11 (.int .i64 1)).bind fun v12 =>
 (slc Tryz.prog 9 s0 none (some v12)).bind fun v13 =>
 f124_L0 k v13 s1 n h9)
 (some ((.exit 0), (f124_X_L0 s0), h9)) := by kernel_rfl
theorem f124_A0_x0 (k : Nat) (s0 : Value) (H : AH) : f124_A0 k (.exit 0) (f124_X_L0 s0) H =
some (s0, H) := by kernel_rfl
theorem f124_eq (k : Nat) (a0 a1 : Value) (H : AH) : rn (k + 1) 124 [a0, a1] H =
(f124_L0 k a0 a1 k H).bind fun p => f124_A0 k p.1 p.2.1 p.2.2 := by kernel_rfl
end
end Go.AM.E
namespace Go.AM
instance {p : Option Nat} : IsCell (.map p) := ⟨rfl⟩
def intV (l : List Int) : List Value := l.map fun n => .int .i64 n
theorem intV_len (l : List Int) : (intV l).length = l.length := by simp [intV]
theorem intV_snoc (l : List Int) (x : Int) : intV (l ++ [x]) = intV l ++ [.int .i64 x] := by simp [intV]
def FRS (e : TypeId) (v : Value) (l : List Int) (Lx : List (Nat × Blk)) : Prop :=
  (l = [] ∧ (v = .slice none 0 0 ∨ ∃ b off, v = sl b off 0 0) ∧ Lx = []) ∨
  (∃ b cap rest, v = sl b 0 l.length cap ∧ cap ≠ 0 ∧ l.length ≤ cap ∧ Lx = [(b, ⟨intV l ++ rest, e, .grow⟩)])
section
variable {P : Program} {R : Type} {e t : TypeId} {v : Value} {l : List Int} {Lx : List (Nat × Blk)} {H0 B0 B H : AH} {L : List (Nat × Blk)}
theorem FRS.nil : FRS e (.slice none 0 0) [] [] := .inl ⟨rfl, .inl rfl, rfl⟩
theorem FRS.cell (h : FRS e v l Lx) : IsCell v := by
  rcases h with ⟨_, rfl | ⟨b, off, rfl⟩, _⟩ | ⟨b, cap, rest, rfl, _⟩ <;> exact inferInstance
theorem FRS.len {e' : TypeId} (hU : P.underlying t = some (.slice e')) (h : FRS e v l Lx) : lenV P t v = some (i64 l.length) := by
  rcases h with ⟨rfl, rfl | ⟨b, off, rfl⟩, _⟩ | ⟨b, cap, rest, rfl, _⟩ <;> exact lenV_sl hU
theorem FRS.now {Ly : List (Nat × Blk)} (h : FRS e v l Lx) (hS : St H0 B0 B Ly H) (hsub : ∀ p ∈ Lx, p ∈ Ly) : ScN H v l.length 1 (intV l) := by
  rcases h with ⟨rfl, rfl | ⟨b, off, rfl⟩, rfl⟩ | ⟨b, cap, rest, rfl, h1, h2, rfl⟩
  · exact .inl ⟨rfl, rfl, rfl⟩
  · exact .inr ⟨b, off, 0, rfl, Nat.le_refl _, by simp [intV], .inl rfl⟩
  · refine .inr ⟨b, 0, cap, rfl, h2, by simp [intV_len], .inr ⟨_, hS.get (hsub _ (List.mem_singleton.2 rfl)), ?_⟩⟩
    unfold rdN
    rw [if_pos (by simp [intV_len]), List.drop_zero, Nat.mul_one, List.take_append_of_le_length (by simp [intV_len]), List.take_of_length_le (by simp [intV_len])]
theorem FRS.back {j : Nat} (hE : Elt P t e (.int .i64 0) 8) (h : FRS e v l Lx) (hj : j ≤ l.length) : ∃ v', slc P t v none (some (.int .i64 (j : Int))) = some v' ∧ FRS e v' (l.take j) Lx := by
  rcases h with ⟨rfl, hv, rfl⟩ | ⟨b, cap, rest, rfl, h1, h2, rfl⟩
  · have : j = 0 := by simpa using hj
    subst this
    rcases hv with rfl | ⟨b, off, rfl⟩
    · refine ⟨.slice none 0 0, ?_, .inl ⟨rfl, .inl rfl, rfl⟩⟩
      unfold slc; rw [hE.U]; simp only [intOr, Option.bind_some]
      rw [if_pos ⟨hE.I, rfl, rfl⟩]
    · refine ⟨sl b off 0 0, ?_, .inl ⟨rfl, .inr ⟨b, off, rfl⟩, rfl⟩⟩
      unfold slc sl; rw [hE.U]; simp only [intOr, Option.bind_some]
      rw [if_pos ⟨hE.I, by omega, by omega, by omega⟩]
      simp
  · have hlen : (l.take j).length = j := by rw [List.length_take]; omega
    refine ⟨sl b 0 j cap, ?_, .inr ⟨b, cap, intV (l.drop j) ++ rest, by rw [hlen], h1, by omega, ?_⟩⟩
    · unfold slc sl; rw [hE.U]; simp only [intOr, Option.bind_some]
      rw [if_pos ⟨hE.I, by omega, by omega, by omega⟩]
      simp [h1]
    · rw [← List.append_assoc]
      congr 4
      unfold intV
      rw [← List.map_append, List.take_append_drop]
theorem FRS.push {x : Int} {f : Nat → Nat → Value → AH → Option R} {Q : R → Prop} (hE : Elt P t e (.int .i64 0) 8) (h : FRS e v l Lx) (hS : St H0 B0 B (Lx ++ L) H) (hl : l.length + 1 ≤ 1000000000000)
    (hk : ∀ v' Lx' H', FRS e v' (l ++ [x]) Lx' → St H0 B0 B (Lx' ++ L) H' → Ev (fun k n => f k n v' H') Q) :
    Ev (fun k n => Go.AM.b2 (Go.AM.buildS P t H 1 [(0, .int .i64 x)]) fun w h => Go.AM.b2 (Go.AM.ap P t t h v w) (f k n)) Q := by
  have hb : Go.AM.buildS P t H 1 [(0, .int .i64 x)] = some (sl H.length 0 1 1, mkB H [.int .i64 x] e .fix) := by
    unfold Go.AM.buildS
    rw [hE.U]; simp only [hE.Z, Option.bind_some, hE.S]
    rw [if_pos ⟨by omega, rfl⟩]
    simp only [fillB, rep, List.append_nil, Nat.zero_mul]
    rw [if_pos ⟨rfl, by simp [Value.cells], rfl⟩]
    rfl
  refine Ev.prim2 hb ?_
  have hw : ScN (mkB H [.int .i64 x] e .fix) (sl H.length 0 1 1) 1 1 [.int .i64 x] := by
    refine .inr ⟨H.length, 0, 1, rfl, Nat.le_refl _, rfl, .inr ⟨_, blk_mkB_new, rfl⟩⟩
  have hES : EltS P t e [.int .i64 0] 1 8 := inferInstance
  have ha := ap_eqS (P := P) (t := t) (u := t) (s := v) hE.U hw rfl
  have hgk : gkl [Value.int .i64 0] = .grow := rfl
  rw [hgk] at ha
  have hS1 := (hS.mkB' [.int .i64 x] e .fix).drop1
  rcases h with ⟨rfl, hv, rfl⟩ | ⟨b, cap, rest, rfl, h1, h2, rfl⟩
  · refine Ev.prim2 (v := sl (mkB H [.int .i64 x] e .fix).length 0 1 2) (H := mkB (mkB H [.int .i64 x] e .fix) [.int .i64 x] e .grow) ?_ (hk _ [((mkB H [.int .i64 x] e .fix).length, ⟨[.int .i64 x], e, .grow⟩)] _ (.inr ⟨_, 2, [], rfl, by simp, by simp, rfl⟩) (hS1.mkB' _ _ _))
    rw [ha]
    rcases hv with rfl | ⟨b, off, rfl⟩
    · unfold apS
      try dsimp only
      rw [if_neg (by decide), if_pos (by decide)]
      rfl
    · unfold apS sl
      dsimp only
      rw [if_neg (by decide), if_pos rfl, if_pos (by decide)]
  · have hb1 := hS1.get (.head _)
    refine Ev.prim2 (v := sl (mkB H [.int .i64 x] e .fix).length 0 (l.length + 1) (l.length + 1 + 1)) (H := mkB (kill (mkB H [.int .i64 x] e .fix) b) (intV l ++ [.int .i64 x]) e .grow) ?_
      (hk _ [((mkB H [.int .i64 x] e .fix).length, ⟨intV (l ++ [x]), e, .grow⟩)] _ (.inr ⟨(mkB H [.int .i64 x] e .fix).length, l.length + 1 + 1, [], by rw [List.length_append]; rfl, by omega, by rw [List.length_append]; simp, by rw [List.append_nil]⟩) ?_)
    · rw [ha]
      unfold apS sl
      dsimp only
      rw [if_neg (by decide), if_neg h1, hb1, Option.bind_some]
      have hrd : rdN ⟨intV l ++ rest, e, .grow⟩ 0 (l.length * 1) = some (intV l) := by
        unfold rdN
        rw [if_pos (by simp [intV_len]), List.drop_zero, Nat.mul_one, List.take_append_of_le_length (by simp [intV_len]), List.take_of_length_le (by simp [intV_len])]
      rw [hrd, Option.bind_some, if_pos ⟨by omega, by omega, rfl⟩]
      dsimp only
      rw [if_pos rfl]
    · have := hS1.kill.mkB' (intV l ++ [.int .i64 x]) e .grow
      rw [length_kill, ← intV_snoc] at this
      rw [intV_snoc] at this
      rw [intV_snoc]
      exact this
end
structure Pgr where
  turn : Nat
  root : Int
  used : List Int
  fresh : List Int
  down : Bool
def mayR (U : List Int) (root : Int) : Bool := decide (root = 0) || decide (2 ≤ root) && decide (root ∈ U)
def Pgr.told (G : Pgr) (e : Int) : Pgr := { G with down := G.down || decide (e = 7) }
def hwrite (D : Dsk) (turn : Nat) (root : Int) (U : List Int) : Int × Dsk := D.pwrite ((turn % 2 : Nat) : Int) 1 (textH turn root U)
def Pgr.lay (G : Pgr) (D : Dsk) (root : Int) (U : List Int) : Int × Pgr × Dsk :=
  if D.barrier.1 ≠ 0 then (D.barrier.1, G.told D.barrier.1, D.barrier.2)
  else if (hwrite D.barrier.2 (G.turn + 1) root U).1 ≠ 0 then ((hwrite D.barrier.2 (G.turn + 1) root U).1, G.told (hwrite D.barrier.2 (G.turn + 1) root U).1, (hwrite D.barrier.2 (G.turn + 1) root U).2)
  else if (hwrite D.barrier.2 (G.turn + 1) root U).2.barrier.1 ≠ 0 then ((hwrite D.barrier.2 (G.turn + 1) root U).2.barrier.1, G.told (hwrite D.barrier.2 (G.turn + 1) root U).2.barrier.1, (hwrite D.barrier.2 (G.turn + 1) root U).2.barrier.2)
  else (0, ⟨G.turn + 1, root, U, [], G.down⟩, (hwrite D.barrier.2 (G.turn + 1) root U).2.barrier.2)
def Pgr.alloc (G : Pgr) (m : Nat) : Int × Int × Pgr :=
  if G.down = true then (0, 7, G) else
  match (List.range m).find? fun (n : Nat) => !decide ((n : Int) ∈ G.used) && !decide ((n : Int) ∈ G.fresh) with
  | some n => ((n : Int), 0, { G with fresh := G.fresh ++ [(n : Int)] })
  | none => (0, 6, G)
def Pgr.back (G : Pgr) (many : Int) : Pgr := { G with fresh := G.fresh.take many.toNat }
def Pgr.write (G : Pgr) (D : Dsk) (n kind : Int) (t : List UInt8) : Int × Pgr × Dsk :=
  if G.down = true then (7, G, D) else if n ∉ G.fresh then (8, G, D) else ((D.pwrite n kind t).1, G.told (D.pwrite n kind t).1, (D.pwrite n kind t).2)
def Pgr.read (G : Pgr) (D : Dsk) (n : Int) : (Int × List UInt8 × Int) × Pgr :=
  if G.down = true then ((0, [], 7), G) else if n < 0 ∨ (D.n / 2 : Nat) ≤ n then ((0, [], 1), G) else (D.pread n, G.told (D.pread n).2.2)
def addAll (U : List Int) (l : List Int) : List Int := l.foldl insI U
def Pgr.commit (G : Pgr) (D : Dsk) (root : Int) : Int × Pgr × Dsk :=
  if G.down = true then (7, G, D) else if mayR (addAll G.used G.fresh) root = false then (1, G, D) else G.lay D root (addAll G.used G.fresh)
def Dsk.format (D : Dsk) : Int × Dsk :=
  if D.n / 2 < 4 then (1, D) else if (hwrite D 1 0 [0, 1]).1 ≠ 0 then hwrite D 1 0 [0, 1] else (hwrite D 1 0 [0, 1]).2.barrier
structure Pgr.OK (G : Pgr) (m : Nat) : Prop where
  mm : m ≤ 512
  nd : G.used.Nodup
  us : ∀ n ∈ G.used, 0 ≤ n ∧ n < m
  fr : ∀ n ∈ G.fresh, 0 ≤ n ∧ n < m
  fl : G.fresh.length ≤ m
  tu : G.turn < 4611686018427387000
  ro : 0 ≤ G.root ∧ G.root < 512
theorem addAll_mem : ∀ (l U : List Int) (x : Int), x ∈ addAll U l ↔ x ∈ U ∨ x ∈ l
  | [], U, x => by simp [addAll]
  | a :: l, U, x => by
    show x ∈ addAll (insI U a) l ↔ _
    rw [addAll_mem l, insI_mem]
    simp only [List.mem_cons]
    constructor
    · rintro ((h | h) | h)
      · exact .inr (.inl h)
      · exact .inl h
      · exact .inr (.inr h)
    · rintro (h | h | h)
      · exact .inl (.inr h)
      · exact .inl (.inl h)
      · exact .inr h
theorem addAll_nodup : ∀ (l U : List Int), U.Nodup → (addAll U l).Nodup
  | [], U, h => h
  | a :: l, U, h => addAll_nodup l _ (insI_nodup h)
theorem st_dead {H0 B0 B X : AH} {L : List (Nat × Blk)} (h : St H0 B0 B L X) : St H0 B0 B L (X ++ [none]) := by
  have h1 := (h.mkB' [] 0 .fix).kill
  have e : kill (AM.mkB X [] 0 .fix) X.length = X ++ [none] := by
    unfold AM.kill AM.mkB
    rw [List.set_append_right _ _ (Nat.le_refl _), Nat.sub_self]; rfl
  rwa [e] at h1
section
variable {R : Type} {H0 B0 B H : AH} {L L' : List (Nat × Blk)}
theorem Ev.gText {hb mb b : Nat} {t r : Value} {T tm e : TypeId} {U : List Int} {cs : List Value} {f : Nat → Nat → AH → Option R} {Q : R → Prop} (hS : St H0 B0 B L H) (h1 : (hb, ⟨[t, r, .map (some mb)], T, .fix⟩) ∈ L) (h2 : (mb, ⟨entI U, tm, .map⟩) ∈ L)
    (hu : Upd b ⟨cs ++ List.replicate 64 (.int .u8 0), e, .fix⟩ ⟨cs ++ bmV U, e, .fix⟩ L L') (h3 : (b, ⟨cs ++ List.replicate 64 (.int .u8 0), e, .fix⟩) ∈ L) (hc : cs.length = 8) (hU : ∀ n ∈ U, 0 ≤ n ∧ n < 512)
    (h : ∀ H', St H0 B0 B L' H' → Ev (fun k n => f k n H') Q) : Ev (fun k n => (gText [ptr hb 0, sl b 0 72 72] H).bind (f k n)) Q := by
  have g1 := hS.get h1
  have g2 := hS.get h2
  have g3 := hS.get h3
  have hne : mb ≠ b := by rintro rfl; rw [g2] at g3; injection g3 with g3; injection g3 with _ _ g4; cases g4
  have e1 : AM.gText [ptr hb 0, sl b 0 72 72] H = some (put H b ⟨cs ++ List.replicate 64 (.int .u8 0), e, .fix⟩ (cs ++ bmV U) ++ [none]) := by
    have e0 : AM.gText [ptr hb 0, sl b 0 72 72] H = (((blk H hb).bind fun k => k.cells[2]?).bind fun mv => (gBits [mv, sl b 0 72 72] H).map fun H' => H' ++ [none]) := rfl
    rw [e0, g1, Option.bind_some]
    show Option.bind (some (Value.map (some mb))) _ = _
    rw [Option.bind_some]
    have e2 : gBits [.map (some mb), sl b 0 72 72] H = ((mapB H mb).bind fun km => (keysI km.cells).bind fun S => (blk H b).bind fun k =>
      aChk (mb ≠ b ∧ (∀ n ∈ S, 0 ≤ n ∧ n < 512) ∧ k.kind = .fix ∧ k.cells.length = 72 ∧ k.cells.drop 8 = List.replicate 64 (.int .u8 0)) (some (put H b k (k.cells.take 8 ++ bmV S)))) := rfl
    rw [e2]
    unfold mapB
    rw [g2, Option.bind_some, if_pos rfl, Option.bind_some, keysI_ent, Option.bind_some, g3, Option.bind_some]
    unfold aChk
    rw [if_pos ⟨hne, hU, rfl, by rw [List.length_append, hc]; simp, by rw [List.drop_append_of_le_length (by omega), ← hc, List.drop_length, List.nil_append]⟩]
    rw [List.take_append_of_le_length (by omega), ← hc, List.take_length]
    rfl
  refine Ev.prim e1 (h _ ?_)
  exact st_dead (hS.put (cs := cs ++ bmV U) hu)
theorem Ev.gCommit {pb hb ma mb : Nat} {p0 p1 h0 h1 : Value} {pr : List Value} {T T' tm tm' : TypeId} {U : List Int} {f : Nat → Nat → AH → Option R} {Q : R → Prop} (hS : St H0 B0 B L H) (i1 : (pb, ⟨p0 :: p1 :: .map (some ma) :: pr, T, .fix⟩) ∈ L) (i2 : (ma, ⟨entI U, tm, .map⟩) ∈ L)
    (i3 : (hb, ⟨[h0, h1, .map (some mb)], T', .fix⟩) ∈ L) (i4 : (mb, ⟨[], tm', .map⟩) ∈ L) (hne : ma ≠ mb) (hn : U.Nodup) (hu : Upd mb ⟨[], tm', .map⟩ ⟨entI U, tm', .map⟩ L L')
    (h : ∀ H', St H0 B0 B L' H' → Ev (fun k n => f k n H') Q) : Ev (fun k n => (gCommit [ptr pb 0, ptr hb 0] H).bind (f k n)) Q := by
  have g1 := hS.get i1
  have g2 := hS.get i2
  have g3 := hS.get i3
  have g4 := hS.get i4
  have n1 : hb ≠ ma := by rintro rfl; rw [g2] at g3; injection g3 with g3; injection g3 with _ _ g4; cases g4
  have n2 : hb ≠ mb := by rintro rfl; rw [g4] at g3; injection g3 with g3; injection g3 with _ _ g4; cases g4
  have e1 : AM.gCommit [ptr pb 0, ptr hb 0] H = some (put H mb ⟨[], tm', .map⟩ (entI U) ++ [none]) := by
    have e0 : AM.gCommit [ptr pb 0, ptr hb 0] H = (((blk H pb).bind fun k => k.cells[2]?).bind fun va => ((blk H hb).bind fun k => k.cells[2]?).bind fun vb => aChk (∀ a, (va = .map (some a) ∨ vb = .map (some a)) → hb ≠ a) ((gKeys [va, vb] H).map fun H' => H' ++ [none])) := rfl
    rw [e0, g1, Option.bind_some]
    show Option.bind (some (Value.map (some ma))) _ = _
    rw [Option.bind_some, g3, Option.bind_some]
    show Option.bind (some (Value.map (some mb))) _ = _
    rw [Option.bind_some]
    unfold aChk
    rw [if_pos (by rintro a (h | h) <;> cases h <;> assumption)]
    have e2 : gKeys [.map (some ma), .map (some mb)] H = ((mapB H ma).bind fun ka => (keysI ka.cells).bind fun S => (mapB H mb).bind fun kb => aChk (ma ≠ mb ∧ kb.cells = [] ∧ S.Nodup) (some (put H mb kb (entI S)))) := rfl
    rw [e2]
    unfold mapB
    rw [g2, Option.bind_some, if_pos rfl, Option.bind_some, keysI_ent, Option.bind_some, g4, Option.bind_some, if_pos rfl, Option.bind_some]
    unfold aChk
    rw [if_pos ⟨hne, rfl, hn⟩]
    rfl
  refine Ev.prim e1 (h _ ?_)
  exact st_dead (hS.put (cs := entI U) hu)
end
end Go.AM
namespace Go.AM
section
variable {P : Program} {t : TypeId}
theorem shl8 {a : Nat} {k' : IntKind} (h : a < 36028797018963968) : bin P .shl t (i64 a) (.int k' 8) = some (i64 (a * 256)) := by
  rw [bin_shl (by omega), show min (8 : Int).toNat IntKind.i64.bits = 8 from rfl, show (2 : Int) ^ 8 = 256 from rfl]
  congr 2
  rw [wrap64 (by omega)]
  omega
theorem or8 {a b : Nat} (ha : a < 36028797018963968) (hb : b < 256) : bin P .or t (i64 (a * 256)) (i64 b) = some (i64 (a * 256 + b)) := by
  rw [bin_or]
  congr 2
  rw [BitVec.toNat_or]
  have e1 : (BitVec.ofInt IntKind.i64.bits ((a * 256 : Nat) : Int)).toNat = a * 256 := by
    show (BitVec.ofInt 64 _).toNat = _
    rw [BitVec.toNat_ofInt]; omega
  have e2 : (BitVec.ofInt IntKind.i64.bits (b : Int)).toNat = b := by
    show (BitVec.ofInt 64 _).toNat = _
    rw [BitVec.toNat_ofInt]; omega
  rw [e1, e2]
  have e3 : a * 256 ||| b = a * 256 + b := by
    have := Nat.two_pow_add_eq_or_of_lt (i := 8) (b := b) (by omega) a
    rw [show 2 ^ 8 * a = a * 256 by omega] at this
    exact this.symm
  rw [e3, wrap64 (by omega)]
theorem shl1 {k : Nat} (h : k < 8) : bin P .shl t (.int .u8 1) (i64 k) = some (u8 (2 ^ k)) := by
  have hq8 : k = 0 ∨ k = 1 ∨ k = 2 ∨ k = 3 ∨ k = 4 ∨ k = 5 ∨ k = 6 ∨ k = 7 := by omega
  rcases hq8 with h | h | h | h | h | h | h | h <;> (rw [h]; rfl)
end
def beT (s : List UInt8) (i : Nat) : Nat := (s.take i).foldl (fun t (b : UInt8) => t * 256 + b.toNat) 0
theorem beT_succ {s : List UInt8} {i : Nat} (h : i < s.length) : beT s (i + 1) = beT s i * 256 + (s.getD i 0).toNat := by
  unfold beT
  rw [List.take_add_one, List.getElem?_eq_getElem h, List.foldl_append]
  simp [List.getD, List.getElem?_eq_getElem h]
theorem beT_lt (s : List UInt8) : ∀ i, i ≤ s.length → beT s i < 256 ^ i
  | 0, _ => by simp [beT]
  | i + 1, h => by
    have ih := beT_lt s i (by omega)
    rw [beT_succ (by omega), Nat.pow_succ]
    have := (s.getD i 0).toNat_lt
    omega
end Go.AM
namespace Go.AM
def pagesI (m : Nat) : List Int := (List.range m).map fun (n : Nat) => (n : Int)
theorem pagesI_mem {m : Nat} {x : Int} : x ∈ pagesI m ↔ 0 ≤ x ∧ x < m := by
  unfold pagesI
  constructor
  · intro h
    obtain ⟨j, hj, rfl⟩ := List.mem_map.1 h
    have := List.mem_range.1 hj
    omega
  · intro h
    exact List.mem_map.2 ⟨x.toNat, List.mem_range.2 (by omega), by omega⟩
end Go.AM
namespace Go.AM
def need (n : Nat) : Nat := if min n 1048576 = 0 then 1 else (min n 1048576 + 117) / 118
theorem need_pos (n : Nat) : 1 ≤ need n := by
  unfold need
  split
  · exact Nat.le_refl 1
  · omega
def pieceT (s : List UInt8) (i : Nat) : List UInt8 := (s.drop (118 * i)).take 118
def hdr (n : Nat) : List UInt8 := [UInt8.ofNat (n / 256), UInt8.ofNat n]
theorem drop_piece (s : List UInt8) (i : Nat) : (s.drop (118 * i)).drop (min (s.drop (118 * i)).length 118) = s.drop (118 * (i + 1)) := by
  rw [List.drop_drop]
  rcases Nat.le_total (s.drop (118 * i)).length 118 with h | h
  · rw [Nat.min_eq_left h]
    rw [List.length_drop] at h ⊢
    rw [List.drop_of_length_le (by omega), List.drop_of_length_le (by omega)]
  · rw [Nat.min_eq_right h]
    congr 1
theorem take_piece (s : List UInt8) (i : Nat) : (s.drop (118 * i)).take (min (s.drop (118 * i)).length 118) = pieceT s i := by
  unfold pieceT
  rcases Nat.le_total (s.drop (118 * i)).length 118 with h | h
  · rw [Nat.min_eq_left h, List.take_length, List.take_of_length_le h]
  · rw [Nat.min_eq_right h]
end Go.AM
namespace Go.AM
abbrev Vers := List (Int × Int)
def be : Nat → Nat → List UInt8
  | 0, _ => []
  | k + 1, n => UInt8.ofNat (n / 256 ^ k) :: be k n
theorem be_len : ∀ k n, (be k n).length = k
  | 0, _ => rfl
  | k + 1, n => by simp [be, be_len k n]
def rootV (n : Int) : Bool := decide (n = 0) || (decide (2 ≤ n) && decide (n ≤ 511))
def rightV (next : Int) : Int → Vers → Bool
  | _, [] => true
  | last, v :: r => decide (last < v.1) && decide (v.1 < next) && rootV v.2 && rightV next v.1 r
def rightC (next : Int) (l : Vers) : Bool := decide (1 ≤ next) && decide (next ≤ 16777216) && decide (l.length ≤ 12) && rightV next 0 l
def encV : Vers → List UInt8
  | [] => []
  | v :: r => be 4 v.1.toNat ++ (be 2 v.2.toNat ++ encV r)
def encC (next : Int) (l : Vers) : List UInt8 := be 4 next.toNat ++ encV l
def getN (s : List UInt8) : Nat := s.foldl (fun t (b : UInt8) => t * 256 + b.toNat) 0
def decV : Nat → List UInt8 → Vers
  | 0, _ => []
  | k + 1, s => (((getN (s.take 4) : Nat) : Int), ((getN ((s.drop 4).take 2) : Nat) : Int)) :: decV k (s.drop 6)
def decC (s : List UInt8) : Option (Int × Vers) :=
  if s.length < 4 ∨ (s.length - 4) % 6 ≠ 0 then none
  else if rightC ((getN (s.take 4) : Nat) : Int) (decV ((s.length - 4) / 6) (s.drop 4)) = true then some (((getN (s.take 4) : Nat) : Int), decV ((s.length - 4) / 6) (s.drop 4)) else none
theorem encV_len : ∀ l, (encV l).length = 6 * l.length
  | [] => rfl
  | v :: r => by simp only [encV, List.length_append, be_len, encV_len r, List.length_cons]; omega
theorem get2 (a b : UInt8) : getN [a, b] = a.toNat * 256 + b.toNat := by simp [getN]
theorem get4 (a b c d : UInt8) : getN [a, b, c, d] = ((a.toNat * 256 + b.toNat) * 256 + c.toNat) * 256 + d.toNat := by simp [getN]
theorem u8_of {a : UInt8} {n : Nat} (h : n % 256 = a.toNat) : UInt8.ofNat n = a := by
  apply UInt8.toNat_inj.1
  rw [UInt8.toNat_ofNat']
  exact h
theorem be_get4 {s : List UInt8} (h : s.length = 4) : be 4 (getN s) = s := by
  match s, h with
  | [a, b, c, d], _ =>
    have ha := a.toNat_lt; have hb := b.toNat_lt; have hc := c.toNat_lt; have hd := d.toNat_lt
    rw [get4]
    show [UInt8.ofNat (_ / 256 ^ 3), UInt8.ofNat (_ / 256 ^ 2), UInt8.ofNat (_ / 256 ^ 1), UInt8.ofNat (_ / 256 ^ 0)] = _
    rw [u8_of (a := a) (by omega), u8_of (a := b) (by omega), u8_of (a := c) (by omega), u8_of (a := d) (by omega)]
theorem be_get2 {s : List UInt8} (h : s.length = 2) : be 2 (getN s) = s := by
  match s, h with
  | [a, b], _ =>
    have ha := a.toNat_lt; have hb := b.toNat_lt
    rw [get2]
    show [UInt8.ofNat (_ / 256 ^ 1), UInt8.ofNat (_ / 256 ^ 0)] = _
    rw [u8_of (a := a) (by omega), u8_of (a := b) (by omega)]
theorem encV_decV : ∀ (k : Nat) (s : List UInt8), s.length = 6 * k → encV (decV k s) = s
  | 0, s, h => by
    have : s = [] := List.length_eq_zero_iff.1 (by omega)
    subst this; rfl
  | k + 1, s, h => by
    show be 4 (((getN (s.take 4) : Nat) : Int)).toNat ++ (be 2 (((getN ((s.drop 4).take 2) : Nat) : Int)).toNat ++ encV (decV k (s.drop 6))) = s
    rw [Int.toNat_natCast, Int.toNat_natCast, be_get4 (by rw [List.length_take]; omega), be_get2 (by rw [List.length_take, List.length_drop]; omega), encV_decV k _ (by rw [List.length_drop]; omega)]
    rw [show s.drop 6 = (s.drop 4).drop 2 by rw [List.drop_drop], List.take_append_drop, List.take_append_drop]
theorem rightV_mem {next : Int} : ∀ (l : Vers) (last : Int), 0 ≤ last → rightV next last l = true → ∀ v ∈ l, 0 ≤ v.1 ∧ v.1 < next ∧ 0 ≤ v.2 ∧ v.2 < 512
  | [], _, _, _, v, hv => (List.not_mem_nil hv).elim
  | w :: r, last, hl, h, v, hv => by
    simp only [rightV, rootV, Bool.and_eq_true, Bool.or_eq_true, decide_eq_true_eq] at h
    obtain ⟨⟨⟨h1, h2⟩, h3⟩, h4⟩ := h
    rcases List.mem_cons.1 hv with rfl | hv
    · omega
    · exact rightV_mem r w.1 (by omega) h4 v hv
theorem decC_some {s : List UInt8} {next : Int} {l : Vers} (h : decC s = some (next, l)) : rightC next l = true ∧ encC next l = s := by
  unfold decC at h
  split at h
  · cases h
  · rename_i hn
    split at h
    · rename_i hr
      cases h
      refine ⟨hr, ?_⟩
      unfold encC
      rw [Int.toNat_natCast, be_get4 (by rw [List.length_take]; omega), encV_decV _ _ (by rw [List.length_drop]; omega), List.take_append_drop]
    · cases h
theorem encC_len {next : Int} {l : Vers} (h : rightC next l = true) : (encC next l).length ≤ 76 := by
  simp only [rightC, Bool.and_eq_true, decide_eq_true_eq] at h
  unfold encC
  rw [List.length_append, be_len, encV_len]
  omega
def verC (l : Vers) : List Value := l.flatMap fun p => [.int .i64 p.1, .int .i64 p.2]
theorem verC_len (l : Vers) : (verC l).length = l.length * 2 := by
  unfold verC
  induction l with
  | nil => rfl
  | cons p l ih => simp only [List.flatMap_cons, List.length_append, List.length_cons, List.length_nil] at ih ⊢; omega
theorem verC_at {l : Vers} {i : Nat} {v : Int × Int} (h : l[i]? = some v) : ((verC l).drop (i * 2)).take 2 = [.int .i64 v.1, .int .i64 v.2] := by
  induction l generalizing i with
  | nil => simp at h
  | cons p l ih =>
    cases i with
    | zero => simp at h; subst h; rfl
    | succ i =>
      have : ((verC (p :: l)).drop ((i + 1) * 2)) = (verC l).drop (i * 2) := by
        rw [show (i + 1) * 2 = 2 + i * 2 by omega, ← List.drop_drop]
        rfl
      rw [this]
      exact ih (by simpa using h)
theorem verC_snoc (l : Vers) (v : Int × Int) : verC (l ++ [v]) = verC l ++ [.int .i64 v.1, .int .i64 v.2] := by
  unfold verC; simp
theorem verC_take (l : Vers) (k : Nat) : (verC l).take (k * 2) = verC (l.take k) := by
  induction l generalizing k with
  | nil => simp [verC]
  | cons p l ih =>
    cases k with
    | zero => simp [verC]
    | succ k =>
      rw [show (k + 1) * 2 = k * 2 + 2 by omega]
      show (Value.int .i64 p.1 :: Value.int .i64 p.2 :: verC l).take (k * 2 + 2) = Value.int .i64 p.1 :: Value.int .i64 p.2 :: verC (l.take k)
      rw [List.take_succ_cons, List.take_succ_cons, ih]
theorem verC_cell (l : Vers) : (verC l).all isCell = true := by
  rw [List.all_eq_true]
  intro x hx
  unfold verC at hx
  obtain ⟨p, _, hx⟩ := List.mem_flatMap.1 hx
  simp at hx
  rcases hx with rfl | rfl <;> rfl
def pairC (l : List (Nat × Int)) : List Value := l.flatMap fun p => [i64 p.1, .int .i64 p.2]
def encP (l : List (Nat × Int)) : List UInt8 := l.flatMap fun p => be p.1 p.2.toNat
theorem pairC_at {l : List (Nat × Int)} {i : Nat} {v : Nat × Int} (h : l[i]? = some v) : (pairC l)[2 * i]? = some (i64 v.1) ∧ (pairC l)[2 * i + 1]? = some (.int .i64 v.2) := by
  induction l generalizing i with
  | nil => simp at h
  | cons p l ih =>
    cases i with
    | zero => simp at h; subst h; exact ⟨rfl, rfl⟩
    | succ i =>
      have := ih (i := i) (by simpa using h)
      rw [show 2 * (i + 1) = 2 * i + 1 + 1 by omega]
      exact this
def pairsV (l : Vers) : List (Nat × Int) := l.flatMap fun v => [(4, v.1), (2, v.2)]
theorem encP_pairs (next : Int) (l : Vers) : encP ((4, next) :: pairsV l) = encC next l := by
  show be 4 next.toNat ++ encP (pairsV l) = be 4 next.toNat ++ encV l
  congr 1
  induction l with
  | nil => rfl
  | cons v r ih =>
    show be 4 v.1.toNat ++ (be 2 v.2.toNat ++ encP (pairsV r)) = _
    rw [ih]; rfl
theorem getN_succ {s : List UInt8} {i : Nat} (h : i < s.length) : getN (s.take (i + 1)) = getN (s.take i) * 256 + (s.getD i 0).toNat := beT_succ h
theorem getN_lt {s : List UInt8} {i : Nat} (h : i ≤ s.length) : getN (s.take i) < 256 ^ i := beT_lt s i h
theorem be_succ (k n : Nat) : be (k + 1) n = UInt8.ofNat (n / 256 ^ k) :: be k n := rfl
end Go.AM
namespace Go.AM
variable {P : Program} {R α : Type} {f : α → Value} {t e : TypeId} {z : Value} {sz : Nat}
variable {B B0 H0 H : AH} {v w : Value} {ks l : List α} {X La Lb : List (Nat × Blk)} {g : Nat → Nat → Value → AH → Option R} {Q : R → Prop}
theorem permA (X La Lb : List (Nat × Blk)) : (La ++ (X ++ Lb)).Perm (X ++ (La ++ Lb)) := by
  rw [← List.append_assoc, ← List.append_assoc]
  exact List.Perm.append_right _ List.perm_append_comm
end Go.AM
namespace Go.AM.E
open Go Go.AM Go.Proofs
attribute [local irreducible] run bin un ld st box newV mkS fldA fld ixA ix slc slc3 build buildS cv cvS ap cpy lenV gOp pickV b2 aIf aChk evalK resume iterD Option.bind

section
variable {B B0 H0 H : AH} {L : List (Nat × Blk)}
theorem croot_spec {n : Int} : Ev (fun k _ => rn k 55 [.int .i64 n] H) (fun r => r = (.bool (rootV n), H)) := by
  refine Ev.fn (fun k => f55_eq k _ H) ?_
  unfold rootV
  repeat (first|refine zA ?_|refine zB fun _ _ _=>?_|refine zC fun _ _ _=>?_|refine zD fun _ _=>?_|refine zE ?_|refine zF ?_)
  by_cases h0 : n = 0
  · rw [decide_eq_true h0]
    repeat (first | (first|refine zA ?_|refine zB fun _ _ _=>?_|refine zC fun _ _ _=>?_|refine zD fun _ _=>?_|refine zE ?_|refine zF ?_) | rw [decide_eq_true (by omega)] | rw [decide_eq_false (by omega)])
    exact Ev.ret rfl
  · rw [decide_eq_false h0]
    repeat (first|refine zA ?_|refine zB fun _ _ _=>?_|refine zC fun _ _ _=>?_|refine zD fun _ _=>?_|refine zE ?_|refine zF ?_)
    by_cases h1 : 2 ≤ n
    · rw [decide_eq_true h1]
      repeat (first|refine zA ?_|refine zB fun _ _ _=>?_|refine zC fun _ _ _=>?_|refine zD fun _ _=>?_|refine zE ?_|refine zF ?_)
      exact Ev.ret rfl
    · rw [decide_eq_false h1]
      repeat (first | (first|refine zA ?_|refine zB fun _ _ _=>?_|refine zC fun _ _ _=>?_|refine zD fun _ _=>?_|refine zE ?_|refine zF ?_) | rw [decide_eq_true (by omega)] | rw [decide_eq_false (by omega)])
      exact Ev.ret rfl
theorem cget_spec {s : List UInt8} (hs : s.length ≤ 4) : Ev (fun k _ => rn k 59 [str s] H) (fun r => r = (i64 (getN s), H)) := by
  refine Ev.fn (fun k => f59_eq k _ H) ?_
  repeat (first|refine zA ?_|refine zB fun _ _ _=>?_|refine zC fun _ _ _=>?_|refine zD fun _ _=>?_|refine zE ?_|refine zF ?_)
  have key : ∀ (m i : Nat), i + m = s.length → Ev (fun k K => f59_L0 k (str s) (i64 (getN (s.take i))) (i64 s.length) (i64 i) K H) (fun o => o = (.exit 0, f59_X_L0 (i64 (getN s)), H)) := by
    intro m
    induction m with
    | zero =>
      intro i hi
      refine Ev.succ (fun k K => f59_L0_succ k _ _ _ _ K H) ?_
      repeat (first | (first|refine zA ?_|refine zB fun _ _ _=>?_|refine zC fun _ _ _=>?_|refine zD fun _ _=>?_|refine zE ?_|refine zF ?_) | rw [decide_eq_true (by omega)] | rw [decide_eq_false (by omega)])
      rw [List.take_of_length_le (by omega)]
      exact Ev.ret rfl
    | succ m ih =>
      intro i hi
      refine Ev.succ (fun k K => f59_L0_succ k _ _ _ _ K H) ?_
      have hlt : getN (s.take i) < 4294967296 := Nat.lt_of_lt_of_le (getN_lt (by omega)) (Nat.le_trans (Nat.pow_le_pow_right (by decide) (show i ≤ 4 by omega)) (by decide))
      have hg := getN_succ (s := s) (i := i) (by omega)
      have hb := UInt8.toNat_lt (s.getD i 0)
      repeat (first | (first|refine zA ?_|refine zB fun _ _ _=>?_|refine zC fun _ _ _=>?_|refine zD fun _ _=>?_|refine zE ?_|refine zF ?_) | rw [decide_eq_true (by omega)] | rw [decide_eq_false (by omega)])
      refine Ev.prim (shl8 (by omega)) ?_
      refine Ev.prim (ix_str (l := s) i rfl (by omega)) ?_
      repeat (first|refine zA ?_|refine zB fun _ _ _=>?_|refine zC fun _ _ _=>?_|refine zD fun _ _=>?_|refine zE ?_|refine zF ?_)
      refine Ev.prim (or8 (by omega) hb) ?_
      repeat (first|refine zA ?_|refine zB fun _ _ _=>?_|refine zC fun _ _ _=>?_|refine zD fun _ _=>?_|refine zE ?_|refine zF ?_)
      rw [← hg]
      exact ih (i + 1) (by omega)
  refine Ev.bind (Ev.loop (key s.length 0 (by omega))) ?_
  rintro _ rfl
  refine Ev.eq (fun k _ => f59_A0_x0 k _ H) ?_
  exact Ev.ret rfl
theorem cright_loop {c : Nat} {next : Int} {sv : Value} {l : Vers} (hv : ScN B sv l.length 2 (verC l)) (hl : l.length < 1000000000) : ∀ (m i : Nat) (last : Int) (H : AH), i + m = l.length → St H0 B0 B ((c, ⟨[.int .i64 next, sv], 24, .fix⟩) :: L) H →
    Ev (fun k K => f53_L0 k (ptr c 0) (.int .i64 last) sv (i64 l.length) (i64 i) K H) (fun o => (rightV next last (l.drop i) = true ∧ ∃ H', o = (.exit 0, f53_X_L0 unk, H') ∧ St H0 B0 B ((c, ⟨[.int .i64 next, sv], 24, .fix⟩) :: L) H') ∨
      (rightV next last (l.drop i) = false ∧ ∃ H', o = (.ret, f53_X_L0 (.bool false), H') ∧ St H0 B0 B ((c, ⟨[.int .i64 next, sv], 24, .fix⟩) :: L) H')) := by
  intro m
  induction m with
  | zero =>
    intro i last H hi hS
    refine Ev.succ (fun k K => f53_L0_succ k _ _ _ _ _ K H) ?_
    repeat (first | (first|refine zA ?_|refine zB fun _ _ _=>?_|refine zC fun _ _ _=>?_|refine zD fun _ _=>?_|refine zE ?_|refine zF ?_) | rw [decide_eq_true (by omega)] | rw [decide_eq_false (by omega)])
    rw [List.drop_of_length_le (by omega)]
    exact Ev.ret (.inl ⟨rfl, H, rfl, hS⟩)
  | succ m ih =>
    intro i last H hi hS
    refine Ev.succ (fun k K => f53_L0_succ k _ _ _ _ _ K H) ?_
    repeat (first | (first|refine zA ?_|refine zB fun _ _ _=>?_|refine zC fun _ _ _=>?_|refine zD fun _ _=>?_|refine zE ?_|refine zF ?_) | rw [decide_eq_true (by omega)] | rw [decide_eq_false (by omega)])
    obtain ⟨v, hvi⟩ : ∃ v, l[i]? = some v := ⟨_, List.getElem?_eq_getElem (by omega)⟩
    have hd : l.drop i = v :: l.drop (i + 1) := by
      have h1 := List.getElem?_eq_some_iff.1 hvi
      rw [← h1.2]
      exact List.drop_eq_getElem_cons h1.1
    have hN := ScN.mono hS.le hv
    obtain ⟨p, q1, q2⟩ := hN.ldAt (P := Tryz.prog) (t := 22) (k := .i64) (i := i) (by omega) (AggOf.eq (P := Tryz.prog) (t := 71))
    rw [verC_at hvi] at q2
    have hcell := hv.cell
    refine Ev.prim q1 ?_
    refine Ev.prim q2 ?_
    clear q1 q2 hN
    repeat (first|refine zA ?_|refine zB fun _ _ _=>?_|refine zC fun _ _ _=>?_|refine zD fun _ _=>?_|refine zE ?_|refine zF ?_)
    rename_i b1 H1 hS1 H2 hS2
    clear hS hS1
    have hrv : rightV next last (v :: l.drop (i + 1)) = (decide (last < v.1) && decide (v.1 < next) && rootV v.2 && rightV next v.1 (l.drop (i + 1))) := rfl
    rw [hd, hrv]
    by_cases h1 : v.1 ≤ last
    · rw [decide_eq_true h1, decide_eq_false (show ¬ last < v.1 by omega)]
      repeat (first|refine zA ?_|refine zB fun _ _ _=>?_|refine zC fun _ _ _=>?_|refine zD fun _ _=>?_|refine zE ?_|refine zF ?_)
      exact Ev.ret (.inr ⟨rfl, _, rfl, hS2.drop1⟩)
    · rw [decide_eq_false h1, decide_eq_true (show last < v.1 by omega)]
      repeat (first|refine zA ?_|refine zB fun _ _ _=>?_|refine zC fun _ _ _=>?_|refine zD fun _ _=>?_|refine zE ?_|refine zF ?_)
      by_cases h2 : next ≤ v.1
      · rw [decide_eq_true h2, decide_eq_false (show ¬ v.1 < next by omega)]
        repeat (first|refine zA ?_|refine zB fun _ _ _=>?_|refine zC fun _ _ _=>?_|refine zD fun _ _=>?_|refine zE ?_|refine zF ?_)
        exact Ev.ret (.inr ⟨rfl, _, rfl, hS2.drop1⟩)
      · rw [decide_eq_false h2, decide_eq_true (show v.1 < next by omega)]
        repeat (first|refine zA ?_|refine zB fun _ _ _=>?_|refine zC fun _ _ _=>?_|refine zD fun _ _=>?_|refine zE ?_|refine zF ?_)
        refine Ev.b2 (croot_spec (n := v.2)) ?_
        rintro _ _ h
        cases h
        by_cases h3 : rootV v.2 = true
        · rw [h3]
          repeat (first | (first|refine zA ?_|refine zB fun _ _ _=>?_|refine zC fun _ _ _=>?_|refine zD fun _ _=>?_|refine zE ?_|refine zF ?_) | rw [decide_eq_true (by omega)] | rw [decide_eq_false (by omega)])
          refine (ih (i + 1) v.1 H2 (by omega) hS2.drop1).mono ?_
          simp only [Bool.true_and, Bool.and_true]
          exact fun o h => h
        · rw [Bool.not_eq_true] at h3
          rw [h3]
          repeat (first|refine zA ?_|refine zB fun _ _ _=>?_|refine zC fun _ _ _=>?_|refine zD fun _ _=>?_|refine zE ?_|refine zF ?_)
          exact Ev.ret (.inr ⟨rfl, _, rfl, hS2.drop1⟩)
theorem cRight_spec {next : Int} {sv : Value} {l : Vers} (hv : ScN B sv l.length 2 (verC l)) (hl : l.length < 1000000000) (hS : St H0 B0 B L H) :
    Ev (fun k _ => rn k 53 [.agg #[.int .i64 next, sv]] H) (fun r => r.1 = .bool (rightC next l) ∧ St H0 B0 B L r.2) := by
  refine Ev.fn (fun k => f53_eq k _ H) ?_
  have hcell := hv.cell
  have hlen := hv.len (Und.eq (P := Tryz.prog) (t := 22))
  unfold rightC
  repeat (first|refine zA ?_|refine zB fun _ _ _=>?_|refine zC fun _ _ _=>?_|refine zD fun _ _=>?_|refine zE ?_|refine zF ?_)
  rename_i c H1 hS1
  clear hS
  by_cases h1 : next < 1
  · rw [decide_eq_true h1, decide_eq_false (show ¬ 1 ≤ next by omega)]
    repeat (first|refine zA ?_|refine zB fun _ _ _=>?_|refine zC fun _ _ _=>?_|refine zD fun _ _=>?_|refine zE ?_|refine zF ?_)
    exact Ev.ret ⟨rfl, hS1.drop1⟩
  rw [decide_eq_false h1, decide_eq_true (show 1 ≤ next by omega)]
  repeat (first|refine zA ?_|refine zB fun _ _ _=>?_|refine zC fun _ _ _=>?_|refine zD fun _ _=>?_|refine zE ?_|refine zF ?_)
  by_cases h2 : 16777216 < next
  · rw [decide_eq_true h2, decide_eq_false (show ¬ next ≤ 16777216 by omega)]
    repeat (first|refine zA ?_|refine zB fun _ _ _=>?_|refine zC fun _ _ _=>?_|refine zD fun _ _=>?_|refine zE ?_|refine zF ?_)
    exact Ev.ret ⟨rfl, hS1.drop1⟩
  rw [decide_eq_false h2, decide_eq_true (show next ≤ 16777216 by omega)]
  repeat (first|refine zA ?_|refine zB fun _ _ _=>?_|refine zC fun _ _ _=>?_|refine zD fun _ _=>?_|refine zE ?_|refine zF ?_)
  rw [hlen, Option.bind_some]
  repeat (first|refine zA ?_|refine zB fun _ _ _=>?_|refine zC fun _ _ _=>?_|refine zD fun _ _=>?_|refine zE ?_|refine zF ?_)
  by_cases h3 : 12 < l.length
  · rw [decide_eq_true h3, decide_eq_false (show ¬ l.length ≤ 12 by omega)]
    repeat (first|refine zA ?_|refine zB fun _ _ _=>?_|refine zC fun _ _ _=>?_|refine zD fun _ _=>?_|refine zE ?_|refine zF ?_)
    exact Ev.ret ⟨rfl, hS1.drop1⟩
  rw [decide_eq_false h3, decide_eq_true (show l.length ≤ 12 by omega)]
  repeat (first|refine zA ?_|refine zB fun _ _ _=>?_|refine zC fun _ _ _=>?_|refine zD fun _ _=>?_|refine zE ?_|refine zF ?_)
  refine Ev.prim hlen ?_
  refine Ev.bind (Ev.loop (cright_loop hv hl l.length 0 0 H1 (by omega) hS1)) ?_
  rintro _ (⟨h, H2, rfl, hS2⟩ | ⟨h, H2, rfl, hS2⟩)
  · rw [List.drop_zero] at h
    refine Ev.eq (fun k _ => f53_A0_x0 k _ H2) ?_
    exact Ev.ret ⟨by rw [h]; rfl, hS2.drop1⟩
  · rw [List.drop_zero] at h
    refine Ev.eq (fun k _ => f53_A0_ret k _ H2) ?_
    exact Ev.ret ⟨by rw [h]; rfl, hS2.drop1⟩
end
end Go.AM.E
namespace Go.AM
variable {α β R : Type} {P : Program}
section
variable {t e : TypeId} {z : Value} {sz : Nat}
def BAcc (e : TypeId) (H0 B0 B : AH) (L : List (Nat × Blk)) (H : AH) (v : Value) (ds : List Nat) : Prop :=
  (ds = [] ∧ (v = .slice none 0 0) ∧ St H0 B0 B L H) ∨
  (∃ b, v = sl b 0 ds.length (ds.length + 1) ∧ St H0 B0 B ((b, ⟨ds.map u8, e, .buf⟩) :: L) H)
theorem BAcc.nil {H0 B0 B L H} (hS : St H0 B0 B L H) : BAcc e H0 B0 B L H (.slice none 0 0) [] := .inl ⟨rfl, rfl, hS⟩
theorem BAcc.st {H0 B0 B L H v ds} (h : BAcc e H0 B0 B L H v ds) : St H0 B0 B L H := by
  rcases h with ⟨_, _, hS⟩ | ⟨b, _, hS⟩
  · exact hS
  · exact hS.drop1
theorem BAcc.cell {H0 B0 B L H v ds} (h : BAcc e H0 B0 B L H v ds) : IsCell v := by
  rcases h with ⟨_, rfl, _⟩ | ⟨b, rfl, _⟩ <;> exact inferInstance
theorem BAcc.apS {H0 B0 B : AH} {L : List (Nat × Blk)} {H : AH} {v : Value} {ds ns : List Nat} {bytes : Nat} (h : BAcc e H0 B0 B L H v ds) (hl : (ds.length + ns.length) * bytes ≤ 140737488355328 ∧ ds.length + ns.length ≤ 9223372036854775807) :
    ∃ v' H' B', AM.apS .buf 1 bytes e H v ns.length (ns.map u8) = some (v', H') ∧ MoC B B' ∧ BAcc e H0 B0 B' L H' v' (ds ++ ns) := by
  by_cases hn : ns = []
  · subst hn
    refine ⟨v, H, B, ?_, ⟨Mo.refl B⟩, by rw [List.append_nil]; exact h⟩
    rcases h with ⟨_, rfl, _⟩ | ⟨b, rfl, _⟩ <;> rfl
  have hn' : ns.length ≠ 0 := fun e => hn (List.length_eq_zero_iff.mp e)
  rcases h with ⟨rfl, rfl, hS⟩ | ⟨b, rfl, hS⟩
  · obtain ⟨B', hm1, hS'⟩ := hS.mkB (ns.map u8) e .buf
    have hl2 : ns.length * bytes ≤ 140737488355328 ∧ ns.length ≤ 9223372036854775807 := by simpa using hl
    refine ⟨sl H.length 0 ns.length (ns.length + 1), _, B', ?_, ⟨hm1⟩, .inr ⟨H.length, ?_, hS'⟩⟩
    · simp only [AM.apS, if_neg hn', if_pos hl2]
    · rw [List.nil_append]
  · have hb := hS.get (.head _)
    obtain ⟨B', hm1, hS'⟩ := hS.kill.mkB (ds.map u8 ++ ns.map u8) e .buf
    rw [length_kill] at hS'
    have e1 : (ds.map u8).length = ds.length := List.length_map ..
    refine ⟨sl H.length 0 (ds.length + ns.length) (ds.length + ns.length + 1), _, B', ?_, ⟨hm1⟩, .inr ⟨H.length, ?_, by rw [List.map_append]; exact hS'⟩⟩
    · simp only [AM.apS, sl, if_neg hn', hb, Option.bind_some, rdN, Nat.mul_one, Nat.zero_add, e1, Nat.le_refl, if_true, List.drop_zero, hl, and_self]
      rw [if_neg (by omega)]
      have e2 : (ds.map u8).take ds.length = ds.map u8 := List.take_of_length_le (by omega)
      rw [e2]
    · rw [List.length_append]
theorem BAcc.push {H0 B0 B : AH} {L : List (Nat × Blk)} {H : AH} {v : Value} {ds : List Nat} {d : Nat} {f : Nat → Nat → Value → AH → Option R} {Q : R → Prop} [hE : Elt P t e (.int .u8 0) sz] (h : BAcc e H0 B0 B L H v ds)
    (hl : (ds.length + 1) * sz ≤ 140737488355328 ∧ ds.length + 1 ≤ 9223372036854775807) (hk : ∀ v' B' H', MoC B B' → BAcc e H0 B0 B' L H' v' (ds ++ [d]) → Ev (fun k n => f k n v' H') Q) :
    Ev (fun k n => Go.AM.b2 (Go.AM.buildS P t H 1 [(0, u8 d)]) fun w h => Go.AM.b2 (Go.AM.ap P t t h v w) (f k n)) Q := by
  rcases h with ⟨rfl, rfl, hS⟩ | ⟨b, rfl, hS⟩
  · refine Ev.bsC (P := P) (t := t) (by decide) fun bw H1 hS1 => ?_
    have hx : Sc H1 (sl bw 0 1 1) ([d].map u8) := hS1.sc (.head _) (Nat.le_refl 1)
    obtain ⟨v', H', B', q1, q2, q3⟩ := BAcc.apS (e := e) (ns := [d]) (bytes := sz) (.inl ⟨rfl, rfl, hS1.drop1⟩) (by simpa using hl)
    refine Ev.prim2 ?_ (hk v' B' H' q2 q3)
    rw [ap_eq hE hE.U hx rfl]
    exact q1
  · refine Ev.bsC (P := P) (t := t) (by decide) fun bw H1 hS1 => ?_
    have hx : Sc H1 (sl bw 0 1 1) ([d].map u8) := hS1.sc (.head _) (Nat.le_refl 1)
    obtain ⟨v', H', B', q1, q2, q3⟩ := BAcc.apS (e := e) (ns := [d]) (bytes := sz) (.inr ⟨b, rfl, hS1.drop1⟩) hl
    refine Ev.prim2 ?_ (hk v' B' H' q2 q3)
    rw [ap_eq hE hE.U hx rfl]
    exact q1
theorem BAcc.str {u : TypeId} {H0 B0 B : AH} {L : List (Nat × Blk)} {H : AH} {v : Value} {ds : List Nat} {l : List UInt8} {f : Nat → Nat → Value → AH → Option R} {Q : R → Prop} [hE : Elt P t e (.int .u8 0) 1] [hu : Und P u .string] (hs : szT P e = 1) (h : BAcc e H0 B0 B L H v ds)
    (hl : ds.length + l.length ≤ 140737488355328) (hb : byT P e = 1) (hk : ∀ v' B' H', MoC B B' → BAcc e H0 B0 B' L H' v' (ds ++ l.map UInt8.toNat) → Ev (fun k n => f k n v' H') Q) :
    Ev (fun k n => Go.AM.b2 (Go.AM.ap P t u H v (AM.str l)) (f k n)) Q := by
  obtain ⟨v', H', B', q1, q2, q3⟩ := h.apS (ns := l.map UInt8.toNat) (bytes := 1) (by rw [List.length_map]; omega)
  refine Ev.prim2 ?_ (hk v' B' H' q2 q3)
  rw [List.length_map] at q1
  unfold Go.AM.ap
  rw [hE.U, hu.eq]
  simp only [hE.Z, hE.K, Option.bind_some]
  rw [if_pos ⟨hs, by rw [hs]; exact size_cells hE.zn⟩]
  have e1 : lenOf (AM.str l) = some l.length := rfl
  have e2 : sliceCells (szT P e) H (AM.str l) l.length = some ((l.map UInt8.toNat).map u8) := by
    show (if l.length ≤ l.length then some ((cellsOfBytes ⟨l.toArray⟩).take l.length) else none) = _
    rw [if_pos (Nat.le_refl _)]
    congr 1
    unfold cellsOfBytes
    rw [List.take_of_length_le (by simp)]
    simp
  rw [e1, Option.bind_some, e2, Option.bind_some, if_pos (by simp [isCell]), hs, hb]
  exact q1
theorem BAcc.said {pt : TypeId} {H0 B0 B : AH} {L : List (Nat × Blk)} {H : AH} {v : Value} {ds : List Nat} (h : BAcc e H0 B0 B L H v ds) (hne : ds ≠ []) (hp : P.underlying pt = some (.pointer e)) (hs : szT P e = 1) (hl : ds.length ≤ 9223372036854775807) :
    ∃ p H', sdV v = some p ∧ usV P pt H p (i64 ds.length) = some (AM.str (ds.map fun n => UInt8.ofNat n), H') ∧ St H0 B0 B L H' ∧ H' = H := by
  rcases h with ⟨rfl, rfl, hS⟩ | ⟨b, rfl, hS⟩
  · exact absurd rfl hne
  · have hn : ds.length ≠ 0 := fun e => hne (List.length_eq_zero_iff.mp e)
    have hb := hS.get (.head _)
    refine ⟨ptr b 0, H, by simp only [sdV, sl, if_neg hn]; rfl, ?_, hS.drop1, rfl⟩
    have e0 : usV P pt H (ptr b 0) (i64 ds.length) = (match P.underlying pt with
        | some (.pointer e) =>
          (blk H b).bind fun k => if 0 < (ds.length : Int) ∧ (ds.length : Int) ≤ 9223372036854775807 ∧ (k.kind.wr || k.kind == .buf) = true ∧ k.elem = e ∧ szT P e = 1 then (rdN k 0 ((ds.length : Int)).toNat).bind fun cs => (bytesOf cs).map fun l => (.string ⟨l.toArray⟩, if k.kind = .buf then H else kill H b) else none
        | _ => none) := rfl
    rw [e0, hp]
    simp only [hb, Option.bind_some]
    rw [if_pos ⟨by omega, by omega, rfl, trivial, hs⟩]
    have e1 : rdN ⟨ds.map u8, e, .buf⟩ 0 ((ds.length : Int)).toNat = some (ds.map u8) := by
      unfold rdN
      rw [Int.toNat_natCast, if_pos (by simp), List.drop_zero, List.take_of_length_le (by simp)]
    rw [e1, Option.bind_some, bytesOf_map]
    rfl
theorem BAcc.upd {H0 B0 B : AH} {L L' : List (Nat × Blk)} {H : AH} {v : Value} {ds : List Nat} {b : Nat} {K : Blk} {cs : List Value} (h : BAcc e H0 B0 B L H v ds) (hu : Upd b K ⟨cs, K.elem, K.kind⟩ L L') : BAcc e H0 B0 B L' (put H b K cs) v ds := by
  rcases h with ⟨h1, hv, hS⟩ | ⟨b2, hv, hS⟩
  · exact .inl ⟨h1, hv, hS.put hu⟩
  · exact .inr ⟨b2, hv, hS.put (.tail _ hu)⟩
theorem BAcc.stC {t e' : TypeId} {H0 B0 B : AH} {L L' : List (Nat × Blk)} {H : AH} {v : Value} {ds : List Nat} {b off : Nat} {cs0 cs : List Value} {w : Value} {f : Nat → Nat → AH → Option R} {Q : R → Prop} (h : BAcc e H0 B0 B L H v ds) [hm : InL b ⟨cs0, e', .fix⟩ L] [hs : PrimEq (stK P t cs0 off w) cs]
    [hu : UpL b ⟨cs0, e', .fix⟩ ⟨cs, e', .fix⟩ L L'] (hk : ∀ H', BAcc e H0 B0 B L' H' v ds → Ev (fun k n => f k n H') Q) : Ev (fun k n => (Go.AM.st P t H (ptr b off) w).bind (f k n)) Q := by
  rcases h with ⟨h1, hv, hS⟩ | ⟨b2, hv, hS⟩
  · exact Ev.st hS hm.mem hs.eq rfl hu.upd fun H' hS' => hk H' (.inl ⟨h1, hv, hS'⟩)
  · exact Ev.st hS (.tail _ hm.mem) hs.eq rfl (.tail _ hu.upd) fun H' hS' => hk H' (.inr ⟨b2, hv, hS'⟩)
end
end Go.AM
namespace Go.AM.E
open Go Go.AM Go.Proofs
attribute [local irreducible] run bin un ld st box newV mkS fldA fld ixA ix slc slc3 build buildS cv cvS ap cpy lenV gOp pickV b2 aIf aChk evalK resume iterD Option.bind

section
variable {B B0 H0 H : AH} {L : List (Nat × Blk)}
theorem cput_inner {lv : Value} {n i : Nat} {x : Nat} {cs : List Value} {Bl : AH} (hv : ScN Bl lv n 1 cs) (hi : 2 * i + 1 < n) (hn : n < 1000000) (hx : x < 4294967296) (hxi : cs[2 * i + 1]? = some (i64 x)) :
    ∀ (j : Nat) (B H : AH) (ov : Value) (ds : List Nat), j ≤ 8 → Mo Bl B → ds.length + j < 1000000 → BAcc 5 H0 B0 B L H ov ds →
    Ev (fun K K2 => f54_L1 K lv ov (i64 (2 * i)) (.int .i64 ((j : Int) - 1)) K2 H) (fun o => ∃ B' H' ov', o = (.exit 2, f54_X_L1 lv ov' (i64 (2 * i)), H') ∧ MoC B B' ∧ BAcc 5 H0 B0 B' L H' ov' (ds ++ (be j x).map UInt8.toNat)) := by
  intro j
  induction j with
  | zero =>
    intro B H ov ds hj hB hds hA
    refine Ev.succ (fun K K2 => f54_L1_succ K _ _ _ _ K2 H) ?_
    repeat (first|refine zA ?_|refine zB fun _ _ _=>?_|refine zC fun _ _ _=>?_|refine zD fun _ _=>?_|refine zE ?_|refine zF ?_)
    rw [decide_eq_false (by omega)]
    repeat (first|refine zA ?_|refine zB fun _ _ _=>?_|refine zC fun _ _ _=>?_|refine zD fun _ _=>?_|refine zE ?_|refine zF ?_)
    exact Ev.ret ⟨B, H, ov, rfl, ⟨Mo.refl B⟩, by simpa [be] using hA⟩
  | succ j ih =>
    intro B H ov ds hj hB hds hA
    refine Ev.succ (fun K K2 => f54_L1_succ K _ _ _ _ K2 H) ?_
    rw [show ((j + 1 : Nat) : Int) - 1 = (j : Int) by omega]
    repeat (first | (first|refine zA ?_|refine zB fun _ _ _=>?_|refine zC fun _ _ _=>?_|refine zD fun _ _=>?_|refine zE ?_|refine zF ?_) | rw [decide_eq_true (by omega)] | rw [decide_eq_false (by omega)])
    have hS := hA.st
    refine Ev.ixN (t := 82) (x := i64 x) (ScN.mono (hB.trans hS.le) hv) (2 * i + 1) rfl hi hxi fun p hp => ?_
    refine Ev.prim (hp.eq H (Mo.refl H)) ?_
    repeat (first|refine zA ?_|refine zB fun _ _ _=>?_|refine zC fun _ _ _=>?_|refine zD fun _ _=>?_|refine zE ?_|refine zF ?_)
    refine Ev.prim (shrN (show 8 * j < IntKind.i64.bits by show 8 * j < 64; omega)) ?_
    refine Ev.prim (toU8 (Und.eq (P := Tryz.prog) (t := 3)) (Und.eq (P := Tryz.prog) (t := 5))) ?_
    refine BAcc.push (P := Tryz.prog) (t := 95) hA (by omega) fun ov' B' H' hm' hA' => ?_
    refine Ev.prim (bin_sub64 (by omega)) ?_
    refine (ih B' H' ov' _ (by omega) (hB.trans hm'.mo) (by simp; omega) hA').mono ?_
    rintro o ⟨B2, H2, ov2, h1, h2, h3⟩
    refine ⟨B2, H2, ov2, h1, ⟨hm'.mo.trans h2.mo⟩, ?_⟩
    have e : (be (j + 1) x).map UInt8.toNat = [x / 2 ^ (8 * j) % 256] ++ (be j x).map UInt8.toNat := by
      rw [be_succ, List.map_cons, show (UInt8.ofNat (x / 256 ^ j)).toNat = x / 256 ^ j % 256 from rfl, Nat.pow_mul]; rfl
    rw [e, ← List.append_assoc]
    exact h3
theorem cput_spec {lv : Value} {l : List (Nat × Int)} (hv : ScN B lv (2 * l.length) 1 (pairC l)) (hl : l.length < 1000) (hne : l ≠ []) (hx : ∀ p ∈ l, 1 ≤ p.1 ∧ p.1 ≤ 4 ∧ 0 ≤ p.2 ∧ p.2 < 4294967296) (hS : St H0 B0 B L H) :
    Ev (fun k _ => rn k 54 [lv] H) (fun r => r.1 = str (encP l) ∧ ∃ B', MoC B B' ∧ St H0 B0 B' L r.2) := by
  refine Ev.fn (fun k => f54_eq k _ H) ?_
  have hlen : ∀ i, i ≤ l.length → (encP (l.take i)).length ≤ 4 * i := by
    intro i
    induction i with
    | zero => intro _; simp [encP]
    | succ i ih =>
      intro hi
      have h1 := ih (by omega)
      have hp := hx _ (List.getElem_mem (show i < l.length by omega))
      rw [List.take_add_one, List.getElem?_eq_getElem (by omega)]
      unfold encP at h1 ⊢
      rw [List.flatMap_append, List.length_append]
      simp only [Option.toList, List.flatMap_cons, List.flatMap_nil, List.append_nil, be_len]
      omega
  have key : ∀ (m i : Nat) (B1 H1 : AH) (ov : Value), i + m = l.length → Mo B B1 → BAcc 5 H0 B0 B1 L H1 ov ((encP (l.take i)).map UInt8.toNat) →
      Ev (fun K K2 => f54_L0 K lv ov (i64 (2 * i)) K2 H1) (fun o => ∃ B' H' ov', o = (.exit 0, f54_X_L0 ov', H') ∧ MoC B1 B' ∧ BAcc 5 H0 B0 B' L H' ov' ((encP l).map UInt8.toNat)) := by
    intro m
    induction m with
    | zero =>
      intro i B1 H1 ov hi hB hA
      refine Ev.succ (fun K K2 => f54_L0_succ K _ _ _ K2 H1) ?_
      have hll := hv.len (Und.eq (P := Tryz.prog) (t := 82))
      repeat (first|refine zA ?_|refine zB fun _ _ _=>?_|refine zC fun _ _ _=>?_|refine zD fun _ _=>?_|refine zE ?_|refine zF ?_)
      refine Ev.prim hll ?_
      repeat (first|refine zA ?_|refine zB fun _ _ _=>?_|refine zC fun _ _ _=>?_|refine zD fun _ _=>?_|refine zE ?_|refine zF ?_)
      rw [decide_eq_false (by omega)]
      repeat (first|refine zA ?_|refine zB fun _ _ _=>?_|refine zC fun _ _ _=>?_|refine zD fun _ _=>?_|refine zE ?_|refine zF ?_)
      rw [List.take_of_length_le (by omega)] at hA
      exact Ev.ret ⟨B1, H1, ov, rfl, ⟨Mo.refl B1⟩, hA⟩
    | succ m ih =>
      intro i B1 H1 ov hi hB hA
      refine Ev.succ (fun K K2 => f54_L0_succ K _ _ _ K2 H1) ?_
      have hll := hv.len (Und.eq (P := Tryz.prog) (t := 82))
      repeat (first|refine zA ?_|refine zB fun _ _ _=>?_|refine zC fun _ _ _=>?_|refine zD fun _ _=>?_|refine zE ?_|refine zF ?_)
      refine Ev.prim hll ?_
      repeat (first|refine zA ?_|refine zB fun _ _ _=>?_|refine zC fun _ _ _=>?_|refine zD fun _ _=>?_|refine zE ?_|refine zF ?_)
      rw [decide_eq_true (by omega)]
      repeat (first|refine zA ?_|refine zB fun _ _ _=>?_|refine zC fun _ _ _=>?_|refine zD fun _ _=>?_|refine zE ?_|refine zF ?_)
      have hS1 := hA.st
      obtain ⟨⟨k, x⟩, hp⟩ : ∃ p, l[i]? = some p := ⟨_, List.getElem?_eq_getElem (by omega)⟩
      obtain ⟨hk1, hk4, hx0, hx1⟩ := hx _ (List.mem_of_getElem? hp)
      obtain ⟨q, rfl⟩ : ∃ q : Nat, x = q := ⟨x.toNat, by dsimp only at hx0; omega⟩
      obtain ⟨e1, e2⟩ := pairC_at hp
      dsimp only at e1 e2 hk1 hk4 hx1
      refine Ev.ixN (t := 82) (x := i64 k) (ScN.mono (hB.trans hS1.le) hv) (2 * i) rfl (by omega) e1 fun pp hpp => ?_
      refine Ev.prim (hpp.eq H1 (Mo.refl H1)) ?_
      refine Ev.prim (bin_sub64 (by omega)) ?_
      have hli := hlen i (by omega)
      refine Ev.bind (Ev.loop (cput_inner hv (by omega) (by omega) (by omega) e2 k B1 H1 ov _ (by omega) hB (by rw [List.length_map]; omega) hA)) ?_
      rintro _ ⟨B2, H2, ov2, rfl, hm2, hA2⟩
      refine Ev.eq (fun K K2 => f54_A1_x2 K K2 _ _ _ H2) ?_
      repeat (first|refine zA ?_|refine zB fun _ _ _=>?_|refine zC fun _ _ _=>?_|refine zD fun _ _=>?_|refine zE ?_|refine zF ?_)
      rw [show 2 * i + 2 = 2 * (i + 1) by omega]
      have e3 : (encP (l.take i)).map UInt8.toNat ++ (be k q).map UInt8.toNat = (encP (l.take (i + 1))).map UInt8.toNat := by
        rw [List.take_add_one, hp, ← List.map_append]
        unfold encP
        rw [List.flatMap_append]
        simp [Option.toList]
      rw [e3] at hA2
      refine (ih (i + 1) B2 H2 ov2 (by omega) (hB.trans hm2.mo) hA2).mono ?_
      rintro o ⟨B', H', ov', h1, h2, h3⟩
      exact ⟨B', H', ov', h1, ⟨hm2.mo.trans h2.mo⟩, h3⟩
  refine Ev.bind (Ev.loop (key l.length 0 B H (.slice none 0 0) (by omega) (Mo.refl B) (BAcc.nil hS))) ?_
  rintro _ ⟨B1, H1, ov, rfl, hm1, hA⟩
  refine Ev.eq (fun K _ => f54_A0_x0 K _ H1) ?_
  have hpos : (encP l) ≠ [] := by
    cases l with
    | nil => exact (hne rfl).elim
    | cons p r =>
      have hp := hx p (.head _)
      intro h0
      have := congrArg List.length h0
      unfold encP at this
      rw [List.flatMap_cons, List.length_append, be_len] at this
      simp at this
      omega
  have hbl := hlen l.length (Nat.le_refl _)
  rw [List.take_length] at hbl
  rcases hA with ⟨h1, _⟩ | ⟨b, rfl, hS1⟩
  · exact (hpos (List.map_eq_nil_iff.1 h1)).elim
  · have hl2 : ((encP l).map UInt8.toNat).length = (encP l).length := List.length_map ..
    have hS2 : St H0 B0 B1 ((b, ⟨byts (encP l), 5, .buf⟩) :: L) H1 := hS1
    refine Ev.prim (cvS_part (d := 9) (bs := encP l) hS2 (.head _) (Nat.le_succ _) (by omega)) ?_
    rw [hl2, List.drop_zero, List.take_length]
    exact Ev.ret ⟨rfl, B1, hm1, hS2.drop1⟩
end
end Go.AM.E
namespace Go.AM.E
open Go Go.AM Go.Proofs
attribute [local irreducible] run bin un ld st box newV mkS fldA fld ixA ix slc slc3 build buildS cv cvS ap cpy lenV gOp pickV b2 aIf aChk evalK resume iterD Option.bind

theorem pairsV_len (l : Vers) : (pairsV l).length = 2 * l.length := by
  unfold pairsV
  induction l with
  | nil => rfl
  | cons v r ih => simp only [List.flatMap_cons, List.length_append, List.length_cons, List.length_nil] at ih ⊢; omega
theorem pairsV_snoc {l : Vers} {i : Nat} {v : Int × Int} (h : l[i]? = some v) : pairsV (l.take (i + 1)) = pairsV (l.take i) ++ [(4, v.1), (2, v.2)] := by
  rw [List.take_add_one, h]; unfold pairsV; simp [Option.toList]
theorem pairC_app (a b : List (Nat × Int)) : pairC (a ++ b) = pairC a ++ pairC b := by unfold pairC; simp
theorem decV_snoc : ∀ (i : Nat) (s : List UInt8), decV (i + 1) s = decV i s ++ [(((getN ((s.drop (6 * i)).take 4) : Nat) : Int), ((getN (((s.drop (6 * i)).drop 4).take 2) : Nat) : Int))]
  | 0, s => by simp [decV]
  | i + 1, s => by
    rw [decV, decV_snoc i (s.drop 6), decV, List.drop_drop, show 6 + 6 * i = 6 * (i + 1) by omega]; rfl
theorem decV_len : ∀ (i : Nat) (s : List UInt8), (decV i s).length = i
  | 0, _ => rfl
  | i + 1, s => by rw [decV, List.length_cons, decV_len i]
section
variable {B B0 H0 H : AH} {L : List (Nat × Blk)}
theorem cenc_loop {sv : Value} {l : Vers} {next : Int} {Bl : AH} (hv : ScN Bl sv l.length 2 (verC l)) (hl : l.length ≤ 12) : ∀ (m i : Nat) (B1 H : AH) (s4 : Value), i + m = l.length → Mo Bl B1 → GAcc 3 1 H0 B0 B1 L H s4 (2 + 4 * i) (pairC ((4, next) :: pairsV (l.take i))) →
    Ev (fun k K => f21_L0 k s4 sv (i64 l.length) (i64 i) K H) (fun o => ∃ B' H' s4', o = (.exit 0, f21_X_L0 s4', H') ∧ MoC B1 B' ∧ GAcc 3 1 H0 B0 B' L H' s4' (2 + 4 * l.length) (pairC ((4, next) :: pairsV l))) := by
  intro m
  induction m with
  | zero =>
    intro i B1 H s4 hi hB hA
    refine Ev.succ (fun k K => f21_L0_succ k _ _ _ _ K H) ?_
    repeat (first | (first|refine zA ?_|refine zB fun _ _ _=>?_|refine zC fun _ _ _=>?_|refine zD fun _ _=>?_|refine zE ?_|refine zF ?_) | rw [decide_eq_true (by omega)] | rw [decide_eq_false (by omega)])
    have : i = l.length := by omega
    subst this
    rw [List.take_length] at hA
    exact Ev.ret ⟨B1, H, s4, rfl, ⟨Mo.refl B1⟩, hA⟩
  | succ m ih =>
    intro i B1 H s4 hi hB hA
    refine Ev.succ (fun k K => f21_L0_succ k _ _ _ _ K H) ?_
    repeat (first | (first|refine zA ?_|refine zB fun _ _ _=>?_|refine zC fun _ _ _=>?_|refine zD fun _ _=>?_|refine zE ?_|refine zF ?_) | rw [decide_eq_true (by omega)] | rw [decide_eq_false (by omega)])
    obtain ⟨v, hvi⟩ : ∃ v, l[i]? = some v := ⟨_, List.getElem?_eq_getElem (by omega)⟩
    obtain ⟨Lx, hS, back, hsub⟩ := hA.split
    have hN := ScN.mono (hB.trans hS.le) hv
    obtain ⟨p, q1, q2⟩ := hN.ldAt (P := Tryz.prog) (t := 22) (k := .i64) (i := i) (by omega) (AggOf.eq (P := Tryz.prog) (t := 71))
    rw [verC_at hvi] at q2
    refine Ev.prim q1 ?_
    refine Ev.prim q2 ?_
    clear q1 q2 hN
    repeat (first|refine zA ?_|refine zB fun _ _ _=>?_|refine zC fun _ _ _=>?_|refine zD fun _ _=>?_|refine zE ?_|refine zF ?_)
    rename_i b1 H1 hS1 H2 hS2
    clear hS hS1
    refine Ev.bsC (by decide) fun bb H3 hS3 => ?_
    clear hS2
    have hA3 : GAcc 3 1 H0 B0 B1 L H3 s4 (2 + 4 * i) (pairC ((4, next) :: pairsV (l.take i))) := back _ _ hS3.drop1.drop1
    have hw : ScN H3 (sl bb 0 4 4) 4 1 (pairC [(4, v.1), (2, v.2)]) := .inr ⟨bb, 0, 4, rfl, Nat.le_refl _, rfl, .inr ⟨_, hS3.get (.head _), rfl⟩⟩
    refine GAcc.more (t := 82) (Und.eq (P := Tryz.prog) (t := 82)) hA3 hw rfl (by omega) fun v' B4 H4 hm4 hA4 => ?_
    clear hS3
    repeat (first | (first|refine zA ?_|refine zB fun _ _ _=>?_|refine zC fun _ _ _=>?_|refine zD fun _ _=>?_|refine zE ?_|refine zF ?_) | rw [decide_eq_true (by omega)] | rw [decide_eq_false (by omega)])
    rw [← pairC_app, List.cons_append, ← pairsV_snoc hvi, show 2 + 4 * i + 4 = 2 + 4 * (i + 1) by omega] at hA4
    refine (ih (i + 1) B4 H4 v' (by omega) (hB.trans hm4.mo) hA4).mono ?_
    rintro o ⟨B', H', s4', h1, h2, h3⟩
    exact ⟨B', H', s4', h1, ⟨hm4.mo.trans h2.mo⟩, h3⟩
theorem cEncode_spec {next : Int} {sv : Value} {l : Vers} (hv : ScN B sv l.length 2 (verC l)) (hl : l.length < 1000000000) (hS : St H0 B0 B L H) :
    Ev (fun k _ => rn k 21 [.agg #[.int .i64 next, sv]] H) (fun r => r.1 = (if rightC next l = true then .tuple #[str (encC next l), .int .i64 0] else .tuple #[str [], .int .i64 1]) ∧ ∃ B', MoC B B' ∧ St H0 B0 B' L r.2) := by
  refine Ev.fn (fun k => f21_eq k _ H) ?_
  have hcell := hv.cell
  have hlen := hv.len (Und.eq (P := Tryz.prog) (t := 22))
  repeat (first|refine zA ?_|refine zB fun _ _ _=>?_|refine zC fun _ _ _=>?_|refine zD fun _ _=>?_|refine zE ?_|refine zF ?_)
  rename_i c H1 hS1
  clear hS
  refine Ev.b2 (cRight_spec hv hl hS1) ?_
  rintro _ H2 ⟨rfl, hS2⟩
  dsimp only at hS2
  clear hS1
  by_cases hr : rightC next l = true
  case neg =>
    rw [Bool.not_eq_true] at hr
    rw [hr]
    repeat (first|refine zA ?_|refine zB fun _ _ _=>?_|refine zC fun _ _ _=>?_|refine zD fun _ _=>?_|refine zE ?_|refine zF ?_)
    rw [if_neg (fun h => by cases h)]
    exact Ev.ret ⟨rfl, B, ⟨Mo.refl B⟩, hS2.drop1⟩
  rw [hr, if_pos rfl]
  have hr0 := hr
  simp only [rightC, Bool.and_eq_true, decide_eq_true_eq] at hr0
  obtain ⟨⟨⟨h1, h2⟩, h3⟩, h4⟩ := hr0
  have hmem := rightV_mem l 0 (by omega) h4
  repeat (first|refine zA ?_|refine zB fun _ _ _=>?_|refine zC fun _ _ _=>?_|refine zD fun _ _=>?_|refine zE ?_|refine zF ?_)
  refine Ev.bsC (by decide) fun bb H3 hS3 => ?_
  clear hS2
  repeat (first|refine zA ?_|refine zB fun _ _ _=>?_|refine zC fun _ _ _=>?_|refine zD fun _ _=>?_|refine zE ?_|refine zF ?_)
  refine Ev.prim hlen ?_
  have hA : GAcc 3 1 H0 B0 B ((c, ⟨[.int .i64 next, sv], 24, .fix⟩) :: L) H3 (sl bb 0 2 2) (2 + 4 * 0) (pairC ((4, next) :: pairsV (l.take 0))) := .inr ⟨by decide, rfl, bb, .fix, 2, rfl, .inr ⟨rfl, rfl⟩, hS3⟩
  refine Ev.bind (Ev.loop (cenc_loop hv h3 l.length 0 B H3 _ (by omega) (Mo.refl B) hA)) ?_
  rintro _ ⟨B4, H4, s4, rfl, hm4, hA4⟩
  refine Ev.eq (fun k _ => f21_A0_x0 k _ H4) ?_
  obtain ⟨B5, hm5, hN5, hS5⟩ := hA4.freeze
  clear hS3
  have hpl : ((4, next) :: pairsV l : List (Nat × Int)).length = 1 + 2 * l.length := by rw [List.length_cons, pairsV_len]; omega
  refine Ev.b2 (cput_spec (l := (4, next) :: pairsV l) (by rw [hpl, show 2 * (1 + 2 * l.length) = 2 + 4 * l.length by omega]; exact hN5) (by rw [hpl]; omega) (by simp) (fun p hp => ?_) hS5) ?_
  · rcases List.mem_cons.1 hp with rfl | hp
    · exact ⟨show 1 ≤ 4 by decide, show 4 ≤ 4 by decide, by show 0 ≤ next; omega, by show next < _; omega⟩
    · unfold pairsV at hp
      obtain ⟨v, hv2, hp⟩ := List.mem_flatMap.1 hp
      have := hmem v hv2
      rcases List.mem_cons.1 hp with rfl | hp
      · exact ⟨show 1 ≤ 4 by decide, show 4 ≤ 4 by decide, by show 0 ≤ v.1; omega, by show v.1 < _; omega⟩
      · rw [List.mem_singleton.1 hp]
        exact ⟨show 1 ≤ 2 by decide, show 2 ≤ 4 by decide, by show 0 ≤ v.2; omega, by show v.2 < _; omega⟩
  rintro _ H6 ⟨rfl, B6, hm6, hS6⟩
  dsimp only at hS6
  rw [encP_pairs]
  exact Ev.ret ⟨rfl, B6, ⟨hm4.mo.trans (hm5.mo.trans hm6.mo)⟩, hS6.drop1⟩
theorem cdec_loop {a c k : Nat} {n : Int} {s : List UInt8} (hs : s.length = 6 * k) (hk : k ≤ 1000000) : ∀ (m i : Nat) (B H : AH) (v : Value), i + m = k → GAcc 71 2 H0 B0 B ((c, ⟨[.int .i64 n, v], 24, .fix⟩) :: (a, ⟨[.int .i64 0, .slice none 0 0], 24, .fix⟩) :: L) H v i (verC (decV i s)) →
    Ev (fun K K2 => f24_L0 K (ptr a 0) (ptr c 0) (str (s.drop (6 * i))) K2 H) (fun o => ∃ B' H' v', o = (.exit 0, f24_X_L0 (ptr a 0) (ptr c 0), H') ∧ MoC B B' ∧ GAcc 71 2 H0 B0 B' ((c, ⟨[.int .i64 n, v'], 24, .fix⟩) :: (a, ⟨[.int .i64 0, .slice none 0 0], 24, .fix⟩) :: L) H' v' k (verC (decV k s))) := by
  intro m
  induction m with
  | zero =>
    intro i B H v hi hA
    refine Ev.succ (fun K K2 => f24_L0_succ K _ _ _ K2 H) ?_
    have : i = k := by omega
    subst this
    rw [List.drop_of_length_le (by omega)]
    repeat (first | (first|refine zA ?_|refine zB fun _ _ _=>?_|refine zC fun _ _ _=>?_|refine zD fun _ _=>?_|refine zE ?_|refine zF ?_) | rw [decide_eq_true (by omega)] | rw [decide_eq_false (by omega)])
    exact Ev.ret ⟨B, H, v, rfl, ⟨Mo.refl B⟩, hA⟩
  | succ m ih =>
    intro i B H v hi hA
    refine Ev.succ (fun K K2 => f24_L0_succ K _ _ _ K2 H) ?_
    have hlen : (s.drop (6 * i)).length = s.length - 6 * i := List.length_drop
    have hne : s.drop (6 * i) ≠ [] := fun h => by rw [h] at hlen; simp at hlen; omega
    obtain ⟨Lx, hS, back, hsub⟩ := hA.split
    have hcell := hA.cell
    repeat (first|refine zA ?_|refine zB fun _ _ _=>?_|refine zC fun _ _ _=>?_|refine zD fun _ _=>?_|refine zE ?_|refine zF ?_)
    rw [decide_eq_true hne]
    have hg : blk H c = some ⟨[.int .i64 n, v], 24, .fix⟩ := hS.get (hsub _ (.head _))
    have hld : ld Tryz.prog 22 H (ptr c 1) = some v := by rw [ld_blk hg]; exact PrimEq.eq
    repeat (first|refine zA ?_|refine zB fun _ _ _=>?_|refine zC fun _ _ _=>?_|refine zD fun _ _=>?_|refine zE ?_|refine zF ?_)
    refine Ev.prim hld ?_
    refine Ev.prim (slc_strT (l := s.drop (6 * i)) (i := 4) (by omega)) ?_
    refine Ev.b2 (cget_spec (s := (s.drop (6 * i)).take 4) (by rw [List.length_take]; omega)) ?_
    rintro _ _ h
    cases h
    refine Ev.chk hld ?_
    refine Ev.prim (slc_str2 (l := s.drop (6 * i)) 4 6 rfl rfl (by omega) (by omega)) ?_
    refine Ev.b2 (cget_spec (s := ((s.drop (6 * i)).drop 4).take (6 - 4)) (by rw [List.length_take]; omega)) ?_
    rintro _ _ h
    cases h
    refine Ev.chk hld ?_
    repeat (first|refine zA ?_|refine zB fun _ _ _=>?_|refine zC fun _ _ _=>?_|refine zD fun _ _=>?_|refine zE ?_|refine zF ?_)
    refine GAcc.push (t := 22) (ds := [i64 (getN ((s.drop (6 * i)).take 4)), i64 (getN (((s.drop (6 * i)).drop 4).take 2))]) hA rfl rfl rfl rfl (by decide) (by omega) fun v' B4 H4 hm4 hA4 => ?_
    have hcell4 := hA4.cell
    repeat (first|refine zA ?_|refine zB fun _ _ _=>?_|refine zC fun _ _ _=>?_|refine zD fun _ _=>?_|refine zE ?_|refine zF ?_)
    refine GAcc.stC hA4 fun H5 hA5 => ?_
    refine Ev.prim (slc_str (l := s.drop (6 * i)) 6 rfl (by omega)) ?_
    rw [List.drop_drop, show 6 * i + 6 = 6 * (i + 1) by omega]
    have e : verC (decV i s) ++ [i64 (getN ((s.drop (6 * i)).take 4)), i64 (getN (((s.drop (6 * i)).drop 4).take 2))] = verC (decV (i + 1) s) := by rw [decV_snoc, verC_snoc]
    rw [e] at hA5
    refine (ih (i + 1) B4 H5 v' (by omega) hA5).mono ?_
    rintro o ⟨B', H', v2, h1, h2, h3⟩
    exact ⟨B', H', v2, h1, ⟨hm4.mo.trans h2.mo⟩, h3⟩
def CDecV (B' : AH) (s : List UInt8) (v : Value) : Prop :=
  (decC s = none ∧ v = .tuple #[.agg #[.int .i64 0, .slice none 0 0], .int .i64 2]) ∨ ∃ n l sv, decC s = some (n, l) ∧ v = .tuple #[.agg #[.int .i64 n, sv], .int .i64 0] ∧ ScN B' sv l.length 2 (verC l)
theorem cDecode_spec {s : List UInt8} (hs : s.length ≤ 1100000) (hS : St H0 B0 B L H) :
    Ev (fun k _ => rn k 24 [str s] H) (fun r => ∃ B', CDecV B' s r.1 ∧ MoC B B' ∧ St H0 B0 B' L r.2) := by
  refine Ev.fn (fun k => f24_eq k _ H) ?_
  repeat (first|refine zA ?_|refine zB fun _ _ _=>?_|refine zC fun _ _ _=>?_|refine zD fun _ _=>?_|refine zE ?_|refine zF ?_)
  rename_i a H1 hS1
  clear hS
  by_cases h0 : s.length < 4
  · rw [decide_eq_true h0]
    repeat (first|refine zA ?_|refine zB fun _ _ _=>?_|refine zC fun _ _ _=>?_|refine zD fun _ _=>?_|refine zE ?_|refine zF ?_)
    have hd : decC s = none := by unfold decC; rw [if_pos (.inl h0)]
    rename_i H2 hS2
    exact Ev.ret ⟨B, .inl ⟨hd, rfl⟩, ⟨Mo.refl B⟩, hS2.drop1⟩
  rw [decide_eq_false h0]
  repeat (first|refine zA ?_|refine zB fun _ _ _=>?_|refine zC fun _ _ _=>?_|refine zD fun _ _=>?_|refine zE ?_|refine zF ?_)
  by_cases h1 : (s.length - 4) % 6 = 0
  case neg =>
    rw [decide_eq_true (by omega)]
    repeat (first|refine zA ?_|refine zB fun _ _ _=>?_|refine zC fun _ _ _=>?_|refine zD fun _ _=>?_|refine zE ?_|refine zF ?_)
    have hd : decC s = none := by unfold decC; rw [if_pos (.inr h1)]
    rename_i H2 hS2
    exact Ev.ret ⟨B, .inl ⟨hd, rfl⟩, ⟨Mo.refl B⟩, hS2.drop1⟩
  rw [decide_eq_false (by omega)]
  repeat (first|refine zA ?_|refine zB fun _ _ _=>?_|refine zC fun _ _ _=>?_|refine zD fun _ _=>?_|refine zE ?_|refine zF ?_)
  refine Ev.prim (slc_strT (l := s) (i := 4) (by omega)) ?_
  refine Ev.b2 (cget_spec (s := s.take 4) (by rw [List.length_take]; omega)) ?_
  rintro _ _ h
  cases h
  repeat (first|refine zA ?_|refine zB fun _ _ _=>?_|refine zC fun _ _ _=>?_|refine zD fun _ _=>?_|refine zE ?_|refine zF ?_)
  rename_i c H2 hS2 H3 hS3
  clear hS1 hS2
  refine Ev.prim (slc_str (l := s) 4 rfl (by omega)) ?_
  have hlen : (s.drop 4).length = 6 * ((s.length - 4) / 6) := by rw [List.length_drop]; omega
  refine Ev.bind (Ev.loop (cdec_loop (s := s.drop 4) (k := (s.length - 4) / 6) hlen (by omega) ((s.length - 4) / 6) 0 B H3 (.slice none 0 0) (by omega) (GAcc.nil hS3))) ?_
  rintro _ ⟨B4, H4, v, rfl, hm4, hA4⟩
  refine Ev.eq (fun k _ => f24_A0_x0 k _ _ H4) ?_
  have hcell := hA4.cell
  obtain ⟨B5, hm5, hN5, hS5⟩ := hA4.freeze
  clear hS3
  repeat (first|refine zA ?_|refine zB fun _ _ _=>?_|refine zC fun _ _ _=>?_|refine zD fun _ _=>?_|refine zE ?_|refine zF ?_)
  have hN5' : ScN B5 v (decV ((s.length - 4) / 6) (s.drop 4)).length 2 (verC (decV ((s.length - 4) / 6) (s.drop 4))) := by rw [decV_len]; exact hN5
  refine Ev.b2 (cRight_spec hN5' (by rw [decV_len]; omega) hS5) ?_
  rintro _ H6 ⟨rfl, hS6⟩
  dsimp only at hS6
  clear hS5
  by_cases hr : rightC ((getN (s.take 4) : Nat) : Int) (decV ((s.length - 4) / 6) (s.drop 4)) = true
  · rw [hr]
    repeat (first|refine zA ?_|refine zB fun _ _ _=>?_|refine zC fun _ _ _=>?_|refine zD fun _ _=>?_|refine zE ?_|refine zF ?_)
    rename_i H7 hS7
    refine Ev.ret ⟨B5, .inr ⟨_, _, v, ?_, rfl, hN5'⟩, ⟨hm4.mo.trans hm5.mo⟩, hS7.drop1.drop1⟩
    unfold decC
    rw [if_neg (by omega), if_pos hr]
  · have hr2 := hr
    rw [Bool.not_eq_true] at hr2
    rw [hr2]
    repeat (first|refine zA ?_|refine zB fun _ _ _=>?_|refine zC fun _ _ _=>?_|refine zD fun _ _=>?_|refine zE ?_|refine zF ?_)
    rename_i H7 hS7
    refine Ev.ret ⟨B5, .inl ⟨?_, rfl⟩, ⟨hm4.mo.trans hm5.mo⟩, hS7.drop1.drop1⟩
    unfold decC
    rw [if_neg (by omega), if_neg hr]
end
end Go.AM.E
