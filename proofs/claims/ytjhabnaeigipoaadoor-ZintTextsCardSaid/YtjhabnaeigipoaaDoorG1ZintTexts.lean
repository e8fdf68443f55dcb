/-
  Facts of the abstract evaluator and of the functions that the law reaches, part 1. Conditions: none.
-/
import Derived.Test.YtjhabnaeigipoaaDoorG0ZintTexts
set_option linter.unusedVariables false
set_option linter.unusedSimpArgs false
set_option linter.unnecessarySimpa false
set_option exponentiation.threshold 200000
set_option maxRecDepth 100000
set_option linter.unusedVariables false
set_option maxRecDepth 100000
namespace Go.AM.Z
open Go Go.AM Go.Proofs
noncomputable section
theorem f43_eq (k : Nat) (a0 : Value) (H : AH) : rn (k + 1) 43 [a0] H =
b2 (box 24 H a0) fun v1 h1 =>
b2 (newV Tryd.prog 59 h1) fun v2 h2 =>
(fldA Tryd.prog 24 v1 1).bind fun v3 =>
(ld Tryd.prog 22 h2 v3).bind fun v4 =>
b2 (rn k 70 [v4] h2) fun v5 h5 =>
(build Tryd.prog 57 [(0, v5)]).bind fun v6 =>
(fldA Tryd.prog 24 v1 0).bind fun v7 =>
(ld Tryd.prog 4 h5 v7).bind fun v8 =>
b2 (gOp v8 true (some (v5, h5)) h5) fun v9 h9 =>
b2 (gOp v8 true ((lenV Tryd.prog 22 v9).bind fun v => some (v, h9)) h9) fun v10 h10 =>
b2 (gOp v8 true ((bin Tryd.prog .gtr 3 v10 (.int .i64 0)).bind fun v => some (v, h10)) h10) fun v11 h11 =>
(pickV v8 v11 (.bool false)).bind fun v12 =>
(build Tryd.prog 59 [(0, v6), (1, v12)]).bind fun v13 =>
(st Tryd.prog 59 h11 v2 v13).bind fun h14 =>
((ld Tryd.prog 59 h14 v2).bind fun v15 => some (v15 :: [])).bind fun vs => some (oneOf vs, h14) := by kernel_rfl
abbrev f44_T_L0 (s0 s1 s23 s24 : Value) : List Value := [s0, s1, unk, unk, unk, unk, unk, unk, unk, unk, unk, unk, unk, unk, unk, unk, unk, unk, unk, unk, unk, unk, unk, s23, s24, unk, unk, unk, unk, unk, unk, unk, unk, unk, unk, unk, unk, unk, unk, unk, unk, unk, unk, unk, unk, unk, unk, unk, unk, unk, unk, unk]
abbrev f44_X_L0 (s4 : Value) : List Value := [unk, unk, unk, unk, s4, unk, unk, unk, unk, unk, unk, unk, unk, unk, unk, unk, unk, unk, unk, unk, unk, unk, unk, unk, unk, unk, unk, unk, unk, unk, unk, unk, unk, unk, unk, unk, unk, unk, unk, unk, unk, unk, unk, unk, unk, unk, unk, unk, unk, unk, unk, unk]
@[irreducible] def f44_L0 (k : Nat) (s0 s1 s23 s24 : Value) (n : Nat) (H : AH) : Option Out := iterD (fun T H K => evalK Tryd.prog (rn k) k (tbs 44) (codeAt (bodyOf Tryd.f44) [1, 1, 1, 0, 1, 0, 0]) T H K) (cutT (tbs 44) 22) (cutT (tbs 44) 23) n (f44_T_L0 s0 s1 s23 s24) H
@[irreducible] def f44_A0 (k : Nat) (e : EX) (T : List Value) (H : AH) : Option (Value × AH) := resume Tryd.prog (rn k) k (tbs 44) (bodyOf Tryd.f44) [1, 1, 1, 0, 1, 0] e T H (resK Tryd.prog Tryd.f44.results.toList)
theorem f44_L0_succ (k : Nat) (s0 s1 s23 s24 : Value) (n : Nat) (H : AH) : f44_L0 k s0 s1 s23 s24 (n + 1) H =
(bin Tryd.prog .lss 3 s24 s23).bind fun v10 =>
aIf v10
 ((lenV Tryd.prog 22 s0).bind fun v11 =>
 (bin Tryd.prog .sub 3 v11 (.int .i64 1)).bind fun v12 =>
 (bin Tryd.prog .sub 3 v12 s24).bind fun v13 =>
 (ixA Tryd.prog 22 s0 v13).bind fun v14 =>
 (ld Tryd.prog 70 H v14).bind fun v15 =>
 (lenV Tryd.prog 22 s1).bind fun v16 =>
 (bin Tryd.prog .sub 3 v16 (.int .i64 1)).bind fun v17 =>
 (bin Tryd.prog .sub 3 v17 s24).bind fun v18 =>
 (ixA Tryd.prog 22 s1 v18).bind fun v19 =>
 (ld Tryd.prog 70 H v19).bind fun v20 =>
 (bin Tryd.prog .lss 70 v15 v20).bind fun v21 =>
 aIf v21
  (some (.ret, (f44_X_L0 (.int .i64 (-1))), H))
  ((bin Tryd.prog .gtr 70 v15 v20).bind fun v22 =>
  aIf v22
   (some (.ret, (f44_X_L0 (.int .i64 1)), H))
   ((bin Tryd.prog .add 3 s24 (.int .i64 1)).bind fun v23 =>
   f44_L0 k s0 s1 s23 v23 n H)))
 (some ((.exit 0), (f44_X_L0 unk), H)) := by kernel_rfl
theorem f44_A0_x0 (k : Nat) (s4 : Value) (H : AH) : f44_A0 k (.exit 0) (f44_X_L0 s4) H =
some ((.int .i64 0), H) := by kernel_rfl
theorem f44_A0_ret (k : Nat) (s4 : Value) (H : AH) : f44_A0 k .ret (f44_X_L0 s4) H =
some (s4, H) := by kernel_rfl
theorem f44_eq (k : Nat) (a0 a1 : Value) (H : AH) : rn (k + 1) 44 [a0, a1] H =
b2 (rn k 71 [a0] H) fun v1 h1 =>
b2 (rn k 71 [a1] h1) fun v2 h2 =>
(lenV Tryd.prog 22 v1).bind fun v3 =>
(lenV Tryd.prog 22 v2).bind fun v4 =>
(bin Tryd.prog .neq 3 v3 v4).bind fun v5 =>
aIf v5
 ((lenV Tryd.prog 22 v1).bind fun v6 =>
 (lenV Tryd.prog 22 v2).bind fun v7 =>
 (bin Tryd.prog .lss 3 v6 v7).bind fun v8 =>
 aIf v8
  (some ((.int .i64 (-1)), h2))
  (some ((.int .i64 1), h2)))
 ((lenV Tryd.prog 22 v1).bind fun v9 =>
 (f44_L0 k v1 v2 v9 (.int .i64 0) k h2).bind fun p => f44_A0 k p.1 p.2.1 p.2.2) := by kernel_rfl
theorem f45_eq (k : Nat) (a0 : Value) (H : AH) : rn (k + 1) 45 [a0] H =
(cv Tryd.prog 62 70 a0).bind fun v1 =>
(bin Tryd.prog .shr 62 a0 (.int .u64 32)).bind fun v2 =>
(cv Tryd.prog 62 70 v2).bind fun v3 =>
b2 (buildS Tryd.prog 22 H 2 [(0, v1), (1, v3)]) fun v4 h4 =>
b2 (rn k 71 [v4] h4) fun v5 h5 =>
some (v5, h5) := by kernel_rfl
abbrev f46_T_J0 (s0 s1 : Value) : List Value := [s0, s1, unk, unk, unk, unk, unk, unk, unk, unk, unk, unk, unk, unk, unk, unk, unk, unk, unk, unk, unk, unk, unk, unk, unk, unk, unk, unk, unk, unk, unk, unk, unk, unk, unk, unk, unk, unk, unk, unk, unk, unk, unk, unk, unk, unk, unk, unk, unk, unk, unk, unk, unk, unk]
abbrev f46_T_L0 (s0 s1 s5 s6 s21 s22 : Value) : List Value := [s0, s1, unk, unk, unk, s5, s6, unk, unk, unk, unk, unk, unk, unk, unk, unk, unk, unk, unk, unk, unk, s21, s22, unk, unk, unk, unk, unk, unk, unk, unk, unk, unk, unk, unk, unk, unk, unk, unk, unk, unk, unk, unk, unk, unk, unk, unk, unk, unk, unk, unk, unk, unk, unk]
abbrev f46_X_L0 (s0 s5 s6 : Value) : List Value := [s0, unk, unk, unk, unk, s5, s6, unk, unk, unk, unk, unk, unk, unk, unk, unk, unk, unk, unk, unk, unk, unk, unk, unk, unk, unk, unk, unk, unk, unk, unk, unk, unk, unk, unk, unk, unk, unk, unk, unk, unk, unk, unk, unk, unk, unk, unk, unk, unk, unk, unk, unk, unk, unk]
abbrev f46_T_J1 (s0 s1 s5 s6 s7 s8 s21 s22 : Value) : List Value := [s0, s1, unk, unk, unk, s5, s6, s7, s8, unk, unk, unk, unk, unk, unk, unk, unk, unk, unk, unk, unk, s21, s22, unk, unk, unk, unk, unk, unk, unk, unk, unk, unk, unk, unk, unk, unk, unk, unk, unk, unk, unk, unk, unk, unk, unk, unk, unk, unk, unk, unk, unk, unk, unk]
@[irreducible] def f46_J0 (k : Nat) (s0 s1 : Value) (H : AH) : Option (Value × AH) := resume Tryd.prog (rn k) k (tbs 46) (bodyOf Tryd.f46) [1, 0] .normal (f46_T_J0 s0 s1) H (resK Tryd.prog Tryd.f46.results.toList)
@[irreducible] def f46_L0 (k : Nat) (s0 s1 s5 s6 s21 s22 : Value) (n : Nat) (H : AH) : Option Out := iterD (fun T H K => evalK Tryd.prog (rn k) k (tbs 46) (codeAt (bodyOf Tryd.f46) [1, 1, 1, 1, 0, 1, 0, 0]) T H K) (cutT (tbs 46) 19) (cutT (tbs 46) 20) n (f46_T_L0 s0 s1 s5 s6 s21 s22) H
@[irreducible] def f46_A0 (k : Nat) (e : EX) (T : List Value) (H : AH) : Option (Value × AH) := resume Tryd.prog (rn k) k (tbs 46) (bodyOf Tryd.f46) [1, 1, 1, 1, 0, 1, 0] e T H (resK Tryd.prog Tryd.f46.results.toList)
@[irreducible] def f46_J1 (k : Nat) (n : Nat) (s0 s1 s5 s6 s7 s8 s21 s22 : Value) (H : AH) : Option Out := resume Tryd.prog (rn k) k (tbs 46) (codeAt (bodyOf Tryd.f46) [1, 1, 1, 1, 0, 1, 0, 0]) [1, 1, 0, 0, 1, 1, 0] .normal (f46_T_J1 s0 s1 s5 s6 s7 s8 s21 s22) H (loopK (iterD (fun T H K => evalK Tryd.prog (rn k) k (tbs 46) (codeAt (bodyOf Tryd.f46) [1, 1, 1, 1, 0, 1, 0, 0]) T H K) (cutT (tbs 46) 19) (cutT (tbs 46) 20) n) (cutT (tbs 46) 19) (cutT (tbs 46) 20))
theorem f46_J0_eq (k : Nat) (s0 s1 : Value) (H : AH) : f46_J0 k s0 s1 H =
(lenV Tryd.prog 22 s0).bind fun v4 =>
(bin Tryd.prog .add 3 v4 (.int .i64 1)).bind fun v5 =>
b2 (mkS Tryd.prog 22 H v5 v5) fun v6 h6 =>
(lenV Tryd.prog 22 s0).bind fun v7 =>
(f46_L0 k s0 s1 v6 (.int .u32 0) v7 (.int .i64 0) k h6).bind fun p => f46_A0 k p.1 p.2.1 p.2.2 := by kernel_rfl
theorem f46_L0_succ (k : Nat) (s0 s1 s5 s6 s21 s22 : Value) (n : Nat) (H : AH) : f46_L0 k s0 s1 s5 s6 s21 s22 (n + 1) H =
(bin Tryd.prog .lss 3 s22 s21).bind fun v8 =>
aIf v8
 ((lenV Tryd.prog 22 s1).bind fun v9 =>
 (bin Tryd.prog .lss 3 s22 v9).bind fun v10 =>
 aIf v10
  ((ixA Tryd.prog 22 s1 s22).bind fun v11 =>
  (ld Tryd.prog 70 H v11).bind fun v12 =>
  f46_J1 k n s0 s1 s5 s6 s22 v12 s21 s22 H)
  (f46_J1 k n s0 s1 s5 s6 s22 (.int .u32 0) s21 s22 H))
 (some ((.exit 0), (f46_X_L0 s0 s5 s6), H)) := by kernel_rfl
theorem f46_A0_x0 (k : Nat) (s0 s5 s6 : Value) (H : AH) : f46_A0 k (.exit 0) (f46_X_L0 s0 s5 s6) H =
(lenV Tryd.prog 22 s0).bind fun v13 =>
(ixA Tryd.prog 22 s5 v13).bind fun v14 =>
(st Tryd.prog 70 H v14 s6).bind fun h15 =>
b2 (rn k 71 [s5] h15) fun v16 h16 =>
some (v16, h16) := by kernel_rfl
theorem f46_J1_eq (k : Nat) (n : Nat) (s0 s1 s5 s6 s7 s8 s21 s22 : Value) (H : AH) : f46_J1 k n s0 s1 s5 s6 s7 s8 s21 s22 H =
(ixA Tryd.prog 22 s0 s7).bind fun v17 =>
(ld Tryd.prog 70 H v17).bind fun v18 =>
b2 (rn k 72 [v18, s8, s6] H) fun v19 h19 =>
(ext v19 0).bind fun v20 =>
(ext v19 1).bind fun v21 =>
(ixA Tryd.prog 22 s5 s7).bind fun v22 =>
(st Tryd.prog 70 h19 v22 v20).bind fun h23 =>
(bin Tryd.prog .add 3 s22 (.int .i64 1)).bind fun v24 =>
f46_L0 k s0 s1 s5 v21 s21 v24 n h23 := by kernel_rfl
theorem f46_eq (k : Nat) (a0 a1 : Value) (H : AH) : rn (k + 1) 46 [a0, a1] H =
(lenV Tryd.prog 22 a0).bind fun v1 =>
(lenV Tryd.prog 22 a1).bind fun v2 =>
(bin Tryd.prog .lss 3 v1 v2).bind fun v3 =>
aIf v3
 (f46_J0 k a1 a0 H)
 (f46_J0 k a0 a1 H) := by kernel_rfl
abbrev f47_T_L0 (s0 s1 s6 s7 s23 s24 : Value) : List Value := [s0, s1, unk, unk, unk, unk, s6, s7, unk, unk, unk, unk, unk, unk, unk, unk, unk, unk, unk, unk, unk, unk, unk, s23, s24, unk, unk, unk, unk, unk, unk, unk, unk, unk, unk, unk, unk, unk, unk, unk, unk, unk, unk, unk, unk, unk, unk, unk, unk, unk, unk, unk, unk]
abbrev f47_X_L0 (s6 s7 : Value) : List Value := [unk, unk, unk, unk, unk, unk, s6, s7, unk, unk, unk, unk, unk, unk, unk, unk, unk, unk, unk, unk, unk, unk, unk, unk, unk, unk, unk, unk, unk, unk, unk, unk, unk, unk, unk, unk, unk, unk, unk, unk, unk, unk, unk, unk, unk, unk, unk, unk, unk, unk, unk, unk, unk]
abbrev f47_T_J0 (s0 s1 s6 s7 s8 s9 s23 s24 : Value) : List Value := [s0, s1, unk, unk, unk, unk, s6, s7, s8, s9, unk, unk, unk, unk, unk, unk, unk, unk, unk, unk, unk, unk, unk, s23, s24, unk, unk, unk, unk, unk, unk, unk, unk, unk, unk, unk, unk, unk, unk, unk, unk, unk, unk, unk, unk, unk, unk, unk, unk, unk, unk, unk, unk]
@[irreducible] def f47_L0 (k : Nat) (s0 s1 s6 s7 s23 s24 : Value) (n : Nat) (H : AH) : Option Out := iterD (fun T H K => evalK Tryd.prog (rn k) k (tbs 47) (codeAt (bodyOf Tryd.f47) [1, 1, 1, 1, 1, 0, 1, 0, 0]) T H K) (cutT (tbs 47) 22) (cutT (tbs 47) 23) n (f47_T_L0 s0 s1 s6 s7 s23 s24) H
@[irreducible] def f47_A0 (k : Nat) (e : EX) (T : List Value) (H : AH) : Option (Value × AH) := resume Tryd.prog (rn k) k (tbs 47) (bodyOf Tryd.f47) [1, 1, 1, 1, 1, 0, 1, 0] e T H (resK Tryd.prog Tryd.f47.results.toList)
@[irreducible] def f47_J0 (k : Nat) (n : Nat) (s0 s1 s6 s7 s8 s9 s23 s24 : Value) (H : AH) : Option Out := resume Tryd.prog (rn k) k (tbs 47) (codeAt (bodyOf Tryd.f47) [1, 1, 1, 1, 1, 0, 1, 0, 0]) [1, 1, 0, 0, 1, 1, 0] .normal (f47_T_J0 s0 s1 s6 s7 s8 s9 s23 s24) H (loopK (iterD (fun T H K => evalK Tryd.prog (rn k) k (tbs 47) (codeAt (bodyOf Tryd.f47) [1, 1, 1, 1, 1, 0, 1, 0, 0]) T H K) (cutT (tbs 47) 22) (cutT (tbs 47) 23) n) (cutT (tbs 47) 22) (cutT (tbs 47) 23))
theorem f47_L0_succ (k : Nat) (s0 s1 s6 s7 s23 s24 : Value) (n : Nat) (H : AH) : f47_L0 k s0 s1 s6 s7 s23 s24 (n + 1) H =
(bin Tryd.prog .lss 3 s24 s23).bind fun v9 =>
aIf v9
 ((lenV Tryd.prog 22 s1).bind fun v10 =>
 (bin Tryd.prog .lss 3 s24 v10).bind fun v11 =>
 aIf v11
  ((ixA Tryd.prog 22 s1 s24).bind fun v12 =>
  (ld Tryd.prog 70 H v12).bind fun v13 =>
  f47_J0 k n s0 s1 s6 s7 s24 v13 s23 s24 H)
  (f47_J0 k n s0 s1 s6 s7 s24 (.int .u32 0) s23 s24 H))
 (some ((.exit 0), (f47_X_L0 s6 s7), H)) := by kernel_rfl
theorem f47_A0_x0 (k : Nat) (s6 s7 : Value) (H : AH) : f47_A0 k (.exit 0) (f47_X_L0 s6 s7) H =
(bin Tryd.prog .gtr 70 s7 (.int .u32 0)).bind fun v14 =>
aIf v14
 (some ((.tuple #[(.slice none 0 0), (.bool false)]), H))
 (b2 (rn k 71 [s6] H) fun v15 h15 =>
 some ((.tuple #[v15, (.bool true)]), h15)) := by kernel_rfl
theorem f47_J0_eq (k : Nat) (n : Nat) (s0 s1 s6 s7 s8 s9 s23 s24 : Value) (H : AH) : f47_J0 k n s0 s1 s6 s7 s8 s9 s23 s24 H =
(ixA Tryd.prog 22 s0 s8).bind fun v16 =>
(ld Tryd.prog 70 H v16).bind fun v17 =>
b2 (rn k 73 [v17, s9, s7] H) fun v18 h18 =>
(ext v18 0).bind fun v19 =>
(ext v18 1).bind fun v20 =>
(ixA Tryd.prog 22 s6 s8).bind fun v21 =>
(st Tryd.prog 70 h18 v21 v19).bind fun h22 =>
(bin Tryd.prog .add 3 s24 (.int .i64 1)).bind fun v23 =>
f47_L0 k s0 s1 s6 v20 s23 v23 n h22 := by kernel_rfl
theorem f47_eq (k : Nat) (a0 a1 : Value) (H : AH) : rn (k + 1) 47 [a0, a1] H =
b2 (rn k 71 [a0] H) fun v1 h1 =>
b2 (rn k 71 [a1] h1) fun v2 h2 =>
(lenV Tryd.prog 22 v1).bind fun v3 =>
(lenV Tryd.prog 22 v2).bind fun v4 =>
(bin Tryd.prog .lss 3 v3 v4).bind fun v5 =>
aIf v5
 (some ((.tuple #[(.slice none 0 0), (.bool false)]), h2))
 ((lenV Tryd.prog 22 v1).bind fun v6 =>
 b2 (mkS Tryd.prog 22 h2 v6 v6) fun v7 h7 =>
 (lenV Tryd.prog 22 v1).bind fun v8 =>
 (f47_L0 k v1 v2 v7 (.int .u32 0) v8 (.int .i64 0) k h7).bind fun p => f47_A0 k p.1 p.2.1 p.2.2) := by kernel_rfl
theorem f48_eq (k : Nat) (a0 a1 : Value) (H : AH) : rn (k + 1) 48 [a0, a1] H =
b2 (rn k 70 [a1] H) fun v1 h1 =>
b2 (rn k 70 [a0] h1) fun v2 h2 =>
(lenV Tryd.prog 22 v1).bind fun v3 =>
(bin Tryd.prog .eql 3 v3 (.int .i64 0)).bind fun v4 =>
aIf v4
 (some ((.tuple #[(.slice none 0 0), (.slice none 0 0), (.bool false)]), h2))
 (b2 (rn k 44 [v2, v1] h2) fun v5 h5 =>
 (bin Tryd.prog .lss 3 v5 (.int .i64 0)).bind fun v6 =>
 aIf v6
  (some ((.tuple #[(.slice none 0 0), v2, (.bool true)]), h5))
  ((lenV Tryd.prog 22 v1).bind fun v7 =>
  (bin Tryd.prog .eql 3 v7 (.int .i64 1)).bind fun v8 =>
  aIf v8
   ((ixA Tryd.prog 22 v1 (.int .i64 0)).bind fun v9 =>
   (ld Tryd.prog 70 h5 v9).bind fun v10 =>
   b2 (rn k 74 [v2, v10] h5) fun v11 h11 =>
   (ext v11 0).bind fun v12 =>
   (ext v11 1).bind fun v13 =>
   (ext v11 2).bind fun v14 =>
   some ((.tuple #[v12, v13, v14]), h11))
   (b2 (rn k 75 [v2, v1] h5) fun v15 h15 =>
   (ext v15 0).bind fun v16 =>
   (ext v15 1).bind fun v17 =>
   (ext v15 2).bind fun v18 =>
   some ((.tuple #[v16, v17, v18]), h15)))) := by kernel_rfl
theorem f49_eq (k : Nat) (a0 : Value) (H : AH) : rn (k + 1) 49 [a0] H =
b2 (box 59 H a0) fun v1 h1 =>
b2 (newV Tryd.prog 24 h1) fun v2 h2 =>
(fldA Tryd.prog 59 v1 1).bind fun v3 =>
(ld Tryd.prog 4 h2 v3).bind fun v4 =>
b2 (gOp v4 true ((fldA Tryd.prog 59 v1 0).bind fun v => some (v, h2)) h2) fun v5 h5 =>
b2 (gOp v4 true ((ld Tryd.prog 57 h5 v5).bind fun v => some (v, h5)) h5) fun v6 h6 =>
b2 (gOp v4 true (b2 (rn k 62 [v6] h5) fun v h => some (v, h)) h5) fun v7 h7 =>
b2 (gOp v4 true ((un Tryd.prog .not v7).bind fun v => some (v, h7)) h7) fun v8 h8 =>
(pickV v4 v8 (.bool false)).bind fun v9 =>
(fldA Tryd.prog 59 v1 0).bind fun v10 =>
(fldA Tryd.prog 57 v10 0).bind fun v11 =>
(ld Tryd.prog 22 h8 v11).bind fun v12 =>
aChk (ld Tryd.prog 22 h5 v11 = some v12) <|
(build Tryd.prog 24 [(0, v9), (1, v12)]).bind fun v13 =>
(st Tryd.prog 24 h8 v2 v13).bind fun h14 =>
((ld Tryd.prog 24 h14 v2).bind fun v15 => some (v15 :: [])).bind fun vs => some (oneOf vs, h14) := by kernel_rfl
abbrev f53_T_L0 (s2 s3 s5 : Value) : List Value := [unk, unk, s2, s3, unk, s5, unk, unk, unk, unk, unk, unk, unk, unk, unk, unk, unk, unk, unk, unk, unk, unk, unk, unk, unk, unk, unk, unk, unk, unk, unk, unk, unk, unk, unk, unk, unk, unk]
abbrev f53_X_L0 (s4 : Value) : List Value := [unk, unk, unk, unk, s4, unk, unk, unk, unk, unk, unk, unk, unk, unk, unk, unk, unk, unk, unk, unk, unk, unk, unk, unk, unk, unk, unk, unk, unk, unk, unk, unk, unk, unk, unk, unk, unk, unk]
@[irreducible] def f53_L0 (k : Nat) (s2 s3 s5 : Value) (n : Nat) (H : AH) : Option Out := iterD (fun T H K => evalK Tryd.prog (rn k) k (tbs 53) (codeAt (bodyOf Tryd.f53) [1, 1, 0, 1, 0, 0]) T H K) (cutT (tbs 53) 13) (cutT (tbs 53) 14) n (f53_T_L0 s2 s3 s5) H
@[irreducible] def f53_A0 (k : Nat) (e : EX) (T : List Value) (H : AH) : Option (Value × AH) := resume Tryd.prog (rn k) k (tbs 53) (bodyOf Tryd.f53) [1, 1, 0, 1, 0] e T H (resK Tryd.prog Tryd.f53.results.toList)
theorem f53_L0_succ (k : Nat) (s2 s3 s5 : Value) (n : Nat) (H : AH) : f53_L0 k s2 s3 s5 (n + 1) H =
(fldA Tryd.prog 24 s2 1).bind fun v16 =>
(ld Tryd.prog 22 H v16).bind fun v17 =>
(lenV Tryd.prog 22 v17).bind fun v18 =>
(bin Tryd.prog .lss 3 s5 v18).bind fun v19 =>
aIf v19
 ((fldA Tryd.prog 24 s2 1).bind fun v20 =>
 (ld Tryd.prog 22 H v20).bind fun v21 =>
 (ixA Tryd.prog 22 v21 s5).bind fun v22 =>
 (ld Tryd.prog 70 H v22).bind fun v23 =>
 (fldA Tryd.prog 24 s3 1).bind fun v24 =>
 (ld Tryd.prog 22 H v24).bind fun v25 =>
 (ixA Tryd.prog 22 v25 s5).bind fun v26 =>
 (ld Tryd.prog 70 H v26).bind fun v27 =>
 (bin Tryd.prog .neq 70 v23 v27).bind fun v28 =>
 aIf v28
  (some (.ret, (f53_X_L0 (.bool false)), H))
  ((bin Tryd.prog .add 3 s5 (.int .i64 1)).bind fun v29 =>
  f53_L0 k s2 s3 v29 n H))
 (some ((.exit 0), (f53_X_L0 unk), H)) := by kernel_rfl
theorem f53_A0_x0 (k : Nat) (s4 : Value) (H : AH) : f53_A0 k (.exit 0) (f53_X_L0 s4) H =
some ((.bool true), H) := by kernel_rfl
theorem f53_A0_ret (k : Nat) (s4 : Value) (H : AH) : f53_A0 k .ret (f53_X_L0 s4) H =
some (s4, H) := by kernel_rfl
theorem f53_eq (k : Nat) (a0 a1 : Value) (H : AH) : rn (k + 1) 53 [a0, a1] H =
b2 (box 24 H a0) fun v1 h1 =>
b2 (box 24 h1 a1) fun v2 h2 =>
(fldA Tryd.prog 24 v1 0).bind fun v3 =>
(ld Tryd.prog 4 h2 v3).bind fun v4 =>
(fldA Tryd.prog 24 v2 0).bind fun v5 =>
(ld Tryd.prog 4 h2 v5).bind fun v6 =>
(bin Tryd.prog .neq 4 v4 v6).bind fun v7 =>
b2 (gOp v7 false ((fldA Tryd.prog 24 v1 1).bind fun v => some (v, h2)) h2) fun v8 h8 =>
b2 (gOp v7 false ((ld Tryd.prog 22 h8 v8).bind fun v => some (v, h8)) h8) fun v9 h9 =>
b2 (gOp v7 false ((lenV Tryd.prog 22 v9).bind fun v => some (v, h9)) h9) fun v10 h10 =>
b2 (gOp v7 false ((fldA Tryd.prog 24 v2 1).bind fun v => some (v, h10)) h10) fun v11 h11 =>
b2 (gOp v7 false ((ld Tryd.prog 22 h11 v11).bind fun v => some (v, h11)) h11) fun v12 h12 =>
b2 (gOp v7 false ((lenV Tryd.prog 22 v12).bind fun v => some (v, h12)) h12) fun v13 h13 =>
b2 (gOp v7 false ((bin Tryd.prog .neq 3 v10 v13).bind fun v => some (v, h13)) h13) fun v14 h14 =>
(pickV v7 (.bool true) v14).bind fun v15 =>
aIf v15
 (some ((.bool false), h14))
 ((f53_L0 k v1 v2 (.int .i64 0) k h14).bind fun p => f53_A0 k p.1 p.2.1 p.2.2) := by kernel_rfl
abbrev f54_T_L0 (s1 s6 s25 s26 s27 : Value) : List Value := [unk, s1, unk, unk, unk, unk, s6, unk, unk, unk, unk, unk, unk, unk, unk, unk, unk, unk, unk, unk, unk, unk, unk, unk, unk, s25, s26, s27, unk, unk, unk, unk, unk, unk, unk, unk, unk, unk, unk, unk, unk, unk, unk, unk, unk, unk, unk, unk, unk, unk, unk, unk, unk, unk, unk, unk, unk, unk, unk, unk, unk]
abbrev f54_X_L0 (s6 : Value) : List Value := [unk, unk, unk, unk, unk, unk, s6, unk, unk, unk, unk, unk, unk, unk, unk, unk, unk, unk, unk, unk, unk, unk, unk, unk, unk, unk, unk, unk, unk, unk, unk, unk, unk, unk, unk, unk, unk, unk, unk, unk, unk, unk, unk, unk, unk, unk, unk, unk, unk, unk, unk, unk, unk, unk, unk, unk, unk, unk, unk, unk, unk]
@[irreducible] def f54_L0 (k : Nat) (s1 s6 s25 s26 s27 : Value) (n : Nat) (H : AH) : Option Out := iterD (fun T H K => evalK Tryd.prog (rn k) k (tbs 54) (codeAt (bodyOf Tryd.f54) [1, 1, 1, 1, 0, 1, 0, 0]) T H K) (cutT (tbs 54) 19) (cutT (tbs 54) 20) n (f54_T_L0 s1 s6 s25 s26 s27) H
@[irreducible] def f54_A0 (k : Nat) (e : EX) (T : List Value) (H : AH) : Option (Value × AH) := resume Tryd.prog (rn k) k (tbs 54) (bodyOf Tryd.f54) [1, 1, 1, 1, 0, 1, 0] e T H (resK Tryd.prog Tryd.f54.results.toList)
theorem f54_L0_succ (k : Nat) (s1 s6 s25 s26 s27 : Value) (n : Nat) (H : AH) : f54_L0 k s1 s6 s25 s26 s27 (n + 1) H =
(bin Tryd.prog .lss 3 s27 s26).bind fun v12 =>
aIf v12
 ((ixA Tryd.prog 22 s25 s27).bind fun v13 =>
 (ld Tryd.prog 70 H v13).bind fun v14 =>
 (cv Tryd.prog 70 62 v14).bind fun v15 =>
 (bin Tryd.prog .rem 3 s1 (.int .i64 32)).bind fun v16 =>
 (bin Tryd.prog .shl 62 v15 v16).bind fun v17 =>
 (bin Tryd.prog .quo 3 s1 (.int .i64 32)).bind fun v18 =>
 (bin Tryd.prog .add 3 v18 s27).bind fun v19 =>
 (ixA Tryd.prog 22 s6 v19).bind fun v20 =>
 (ld Tryd.prog 70 H v20).bind fun v21 =>
 (cv Tryd.prog 62 70 v17).bind fun v22 =>
 (bin Tryd.prog .or 70 v21 v22).bind fun v23 =>
 (ixA Tryd.prog 22 s6 v19).bind fun v24 =>
 (st Tryd.prog 70 H v24 v23).bind fun h25 =>
 (bin Tryd.prog .quo 3 s1 (.int .i64 32)).bind fun v26 =>
 (bin Tryd.prog .add 3 v26 s27).bind fun v27 =>
 (bin Tryd.prog .add 3 v27 (.int .i64 1)).bind fun v28 =>
 (bin Tryd.prog .shr 62 v17 (.int .u64 32)).bind fun v29 =>
 (cv Tryd.prog 62 70 v29).bind fun v30 =>
 (ixA Tryd.prog 22 s6 v28).bind fun v31 =>
 (st Tryd.prog 70 h25 v31 v30).bind fun h32 =>
 (bin Tryd.prog .add 3 s27 (.int .i64 1)).bind fun v33 =>
 f54_L0 k s1 s6 s25 s26 v33 n h32)
 (some ((.exit 0), (f54_X_L0 s6), H)) := by kernel_rfl
theorem f54_A0_x0 (k : Nat) (s6 : Value) (H : AH) : f54_A0 k (.exit 0) (f54_X_L0 s6) H =
b2 (rn k 71 [s6] H) fun v34 h34 =>
some ((.tuple #[v34, (.bool true)]), h34) := by kernel_rfl
theorem f54_eq (k : Nat) (a0 a1 : Value) (H : AH) : rn (k + 1) 54 [a0, a1] H =
(bin Tryd.prog .lss 3 a1 (.int .i64 0)).bind fun v1 =>
b2 (gOp v1 false (some (a1, H)) H) fun v2 h2 =>
b2 (gOp v1 false ((bin Tryd.prog .gtr 3 v2 (.int .i64 100000)).bind fun v => some (v, h2)) h2) fun v3 h3 =>
(pickV v1 (.bool true) v3).bind fun v4 =>
aIf v4
 (some ((.tuple #[(.slice none 0 0), (.bool false)]), h3))
 (b2 (rn k 71 [a0] h3) fun v5 h5 =>
 (bin Tryd.prog .quo 3 a1 (.int .i64 32)).bind fun v6 =>
 (lenV Tryd.prog 22 v5).bind fun v7 =>
 (bin Tryd.prog .add 3 v6 v7).bind fun v8 =>
 (bin Tryd.prog .add 3 v8 (.int .i64 1)).bind fun v9 =>
 b2 (mkS Tryd.prog 22 h5 v9 v9) fun v10 h10 =>
 (lenV Tryd.prog 22 v5).bind fun v11 =>
 (f54_L0 k a1 v10 v5 v11 (.int .i64 0) k h10).bind fun p => f54_A0 k p.1 p.2.1 p.2.2) := by kernel_rfl
abbrev f55_T_L0 (s0 s1 s5 s27 s28 : Value) : List Value := [s0, s1, unk, unk, unk, s5, unk, unk, unk, unk, unk, unk, unk, unk, unk, unk, unk, unk, unk, unk, unk, unk, unk, unk, unk, unk, unk, s27, s28, unk, unk, unk, unk, unk, unk, unk, unk, unk, unk, unk, unk, unk, unk, unk, unk, unk, unk, unk, unk, unk, unk, unk, unk, unk, unk, unk, unk, unk, unk, unk, unk]
abbrev f55_X_L0 (s5 : Value) : List Value := [unk, unk, unk, unk, unk, s5, unk, unk, unk, unk, unk, unk, unk, unk, unk, unk, unk, unk, unk, unk, unk, unk, unk, unk, unk, unk, unk, unk, unk, unk, unk, unk, unk, unk, unk, unk, unk, unk, unk, unk, unk, unk, unk, unk, unk, unk, unk, unk, unk, unk, unk, unk, unk, unk, unk, unk, unk, unk, unk, unk, unk]
abbrev f55_T_J0 (s0 s1 s5 s6 s7 s27 s28 : Value) : List Value := [s0, s1, unk, unk, unk, s5, s6, s7, unk, unk, unk, unk, unk, unk, unk, unk, unk, unk, unk, unk, unk, unk, unk, unk, unk, unk, unk, s27, s28, unk, unk, unk, unk, unk, unk, unk, unk, unk, unk, unk, unk, unk, unk, unk, unk, unk, unk, unk, unk, unk, unk, unk, unk, unk, unk, unk, unk, unk, unk, unk, unk]
@[irreducible] def f55_L0 (k : Nat) (s0 s1 s5 s27 s28 : Value) (n : Nat) (H : AH) : Option Out := iterD (fun T H K => evalK Tryd.prog (rn k) k (tbs 55) (codeAt (bodyOf Tryd.f55) [1, 1, 1, 1, 1, 1, 0, 1, 0, 0]) T H K) (cutT (tbs 55) 28) (cutT (tbs 55) 29) n (f55_T_L0 s0 s1 s5 s27 s28) H
@[irreducible] def f55_A0 (k : Nat) (e : EX) (T : List Value) (H : AH) : Option (Value × AH) := resume Tryd.prog (rn k) k (tbs 55) (bodyOf Tryd.f55) [1, 1, 1, 1, 1, 1, 0, 1, 0] e T H (resK Tryd.prog Tryd.f55.results.toList)
@[irreducible] def f55_J0 (k : Nat) (n : Nat) (s0 s1 s5 s6 s7 s27 s28 : Value) (H : AH) : Option Out := resume Tryd.prog (rn k) k (tbs 55) (codeAt (bodyOf Tryd.f55) [1, 1, 1, 1, 1, 1, 0, 1, 0, 0]) [1, 1, 0, 0, 1, 1, 0] .normal (f55_T_J0 s0 s1 s5 s6 s7 s27 s28) H (loopK (iterD (fun T H K => evalK Tryd.prog (rn k) k (tbs 55) (codeAt (bodyOf Tryd.f55) [1, 1, 1, 1, 1, 1, 0, 1, 0, 0]) T H K) (cutT (tbs 55) 28) (cutT (tbs 55) 29) n) (cutT (tbs 55) 28) (cutT (tbs 55) 29))
theorem f55_L0_succ (k : Nat) (s0 s1 s5 s27 s28 : Value) (n : Nat) (H : AH) : f55_L0 k s0 s1 s5 s27 s28 (n + 1) H =
(bin Tryd.prog .lss 3 s28 s27).bind fun v12 =>
aIf v12
 ((ixA Tryd.prog 22 s0 s28).bind fun v13 =>
 (ld Tryd.prog 70 H v13).bind fun v14 =>
 (cv Tryd.prog 70 62 v14).bind fun v15 =>
 (bin Tryd.prog .add 3 s28 (.int .i64 1)).bind fun v16 =>
 (lenV Tryd.prog 22 s0).bind fun v17 =>
 (bin Tryd.prog .lss 3 v16 v17).bind fun v18 =>
 aIf v18
  ((bin Tryd.prog .add 3 s28 (.int .i64 1)).bind fun v19 =>
  (ixA Tryd.prog 22 s0 v19).bind fun v20 =>
  (ld Tryd.prog 70 H v20).bind fun v21 =>
  (cv Tryd.prog 70 62 v21).bind fun v22 =>
  (bin Tryd.prog .shl 62 v22 (.int .u64 32)).bind fun v23 =>
  (bin Tryd.prog .or 62 v15 v23).bind fun v24 =>
  f55_J0 k n s0 s1 s5 s28 v24 s27 s28 H)
  (f55_J0 k n s0 s1 s5 s28 v15 s27 s28 H))
 (some ((.exit 0), (f55_X_L0 s5), H)) := by kernel_rfl
theorem f55_A0_x0 (k : Nat) (s5 : Value) (H : AH) : f55_A0 k (.exit 0) (f55_X_L0 s5) H =
b2 (rn k 71 [s5] H) fun v25 h25 =>
some (v25, h25) := by kernel_rfl
theorem f55_J0_eq (k : Nat) (n : Nat) (s0 s1 s5 s6 s7 s27 s28 : Value) (H : AH) : f55_J0 k n s0 s1 s5 s6 s7 s27 s28 H =
(bin Tryd.prog .rem 3 s1 (.int .i64 32)).bind fun v26 =>
(bin Tryd.prog .shr 62 s7 v26).bind fun v27 =>
(cv Tryd.prog 62 70 v27).bind fun v28 =>
(ixA Tryd.prog 22 s5 s6).bind fun v29 =>
(st Tryd.prog 70 H v29 v28).bind fun h30 =>
(bin Tryd.prog .add 3 s28 (.int .i64 1)).bind fun v31 =>
f55_L0 k s0 s1 s5 s27 v31 n h30 := by kernel_rfl
theorem f55_eq (k : Nat) (a0 a1 : Value) (H : AH) : rn (k + 1) 55 [a0, a1] H =
b2 (rn k 71 [a0] H) fun v1 h1 =>
(bin Tryd.prog .lss 3 a1 (.int .i64 0)).bind fun v2 =>
aIf v2
 (b2 (rn k 80 [v1] h1) fun v3 h3 =>
 some (v3, h3))
 ((bin Tryd.prog .quo 3 a1 (.int .i64 32)).bind fun v4 =>
 (lenV Tryd.prog 22 v1).bind fun v5 =>
 (bin Tryd.prog .geq 3 v4 v5).bind fun v6 =>
 aIf v6
  (some ((.slice none 0 0), h1))
  ((bin Tryd.prog .quo 3 a1 (.int .i64 32)).bind fun v7 =>
  (slc Tryd.prog 22 v1 (some v7) none).bind fun v8 =>
  (lenV Tryd.prog 22 v8).bind fun v9 =>
  b2 (mkS Tryd.prog 22 h1 v9 v9) fun v10 h10 =>
  (lenV Tryd.prog 22 v8).bind fun v11 =>
  (f55_L0 k v8 a1 v10 v11 (.int .i64 0) k h10).bind fun p => f55_A0 k p.1 p.2.1 p.2.2)) := by kernel_rfl
abbrev f59_T_L0 (s1 s5 s22 s23 s24 : Value) : List Value := [unk, s1, unk, unk, unk, s5, unk, unk, unk, unk, unk, unk, unk, unk, unk, unk, unk, unk, unk, unk, unk, unk, s22, s23, s24, unk, unk, unk, unk, unk, unk, unk, unk, unk, unk, unk, unk, unk, unk, unk, unk, unk, unk, unk, unk, unk, unk, unk, unk, unk, unk, unk, unk, unk, unk, unk, unk, unk, unk, unk, unk, unk, unk, unk, unk, unk, unk, unk, unk, unk, unk, unk]
abbrev f59_X_L0 (s5 : Value) : List Value := [unk, unk, unk, unk, unk, s5, unk, unk, unk, unk, unk, unk, unk, unk, unk, unk, unk, unk, unk, unk, unk, unk, unk, unk, unk, unk, unk, unk, unk, unk, unk, unk, unk, unk, unk, unk, unk, unk, unk, unk, unk, unk, unk, unk, unk, unk, unk, unk, unk, unk, unk, unk, unk, unk, unk, unk, unk, unk, unk, unk, unk, unk, unk, unk, unk, unk, unk, unk, unk, unk, unk, unk]
abbrev f59_T_L1 (s1 s5 s6 s7 s8 s22 s23 s24 s29 s30 s31 : Value) : List Value := [unk, s1, unk, unk, unk, s5, s6, s7, s8, unk, unk, unk, unk, unk, unk, unk, unk, unk, unk, unk, unk, unk, s22, s23, s24, unk, unk, unk, unk, s29, s30, s31, unk, unk, unk, unk, unk, unk, unk, unk, unk, unk, unk, unk, unk, unk, unk, unk, unk, unk, unk, unk, unk, unk, unk, unk, unk, unk, unk, unk, unk, unk, unk, unk, unk, unk, unk, unk, unk, unk, unk, unk]
abbrev f59_X_L1 (s1 s5 s6 s8 s22 s23 s24 : Value) : List Value := [unk, s1, unk, unk, unk, s5, s6, unk, s8, unk, unk, unk, unk, unk, unk, unk, unk, unk, unk, unk, unk, unk, s22, s23, s24, unk, unk, unk, unk, unk, unk, unk, unk, unk, unk, unk, unk, unk, unk, unk, unk, unk, unk, unk, unk, unk, unk, unk, unk, unk, unk, unk, unk, unk, unk, unk, unk, unk, unk, unk, unk, unk, unk, unk, unk, unk, unk, unk, unk, unk, unk, unk]
@[irreducible] def f59_L0 (k : Nat) (s1 s5 s22 s23 s24 : Value) (n : Nat) (H : AH) : Option Out := iterD (fun T H K => evalK Tryd.prog (rn k) k (tbs 59) (codeAt (bodyOf Tryd.f59) [1, 1, 1, 0, 1, 0, 0]) T H K) (cutT (tbs 59) 13) (cutT (tbs 59) 14) n (f59_T_L0 s1 s5 s22 s23 s24) H
@[irreducible] def f59_A0 (k : Nat) (e : EX) (T : List Value) (H : AH) : Option (Value × AH) := resume Tryd.prog (rn k) k (tbs 59) (bodyOf Tryd.f59) [1, 1, 1, 0, 1, 0] e T H (resK Tryd.prog Tryd.f59.results.toList)
@[irreducible] def f59_L1 (k : Nat) (s1 s5 s6 s7 s8 s22 s23 s24 s29 s30 s31 : Value) (n : Nat) (H : AH) : Option Out := iterD (fun T H K => evalK Tryd.prog (rn k) k (tbs 59) (codeAt (bodyOf Tryd.f59) [1, 1, 1, 0, 1, 0, 0, 1, 1, 0, 0, 1, 1, 0, 1, 0, 0]) T H K) (cutT (tbs 59) 25) (cutT (tbs 59) 26) n (f59_T_L1 s1 s5 s6 s7 s8 s22 s23 s24 s29 s30 s31) H
@[irreducible] def f59_A1 (k : Nat) (n : Nat) (e : EX) (T : List Value) (H : AH) : Option Out := resume Tryd.prog (rn k) k (tbs 59) (codeAt (bodyOf Tryd.f59) [1, 1, 1, 0, 1, 0, 0]) [1, 1, 0, 0, 1, 1, 0, 1, 0] e T H (loopK (iterD (fun T H K => evalK Tryd.prog (rn k) k (tbs 59) (codeAt (bodyOf Tryd.f59) [1, 1, 1, 0, 1, 0, 0]) T H K) (cutT (tbs 59) 13) (cutT (tbs 59) 14) n) (cutT (tbs 59) 13) (cutT (tbs 59) 14))
theorem f59_L0_succ (k : Nat) (s1 s5 s22 s23 s24 : Value) (n : Nat) (H : AH) : f59_L0 k s1 s5 s22 s23 s24 (n + 1) H =
(bin Tryd.prog .lss 3 s24 s23).bind fun v8 =>
aIf v8
 ((ixA Tryd.prog 22 s22 s24).bind fun v9 =>
 (ld Tryd.prog 70 H v9).bind fun v10 =>
 (lenV Tryd.prog 22 s1).bind fun v11 =>
 (f59_L1 k s1 s5 s24 v10 (.int .u64 0) s22 s23 s24 s1 v11 (.int .i64 0) k H).bind fun p => f59_A1 k n p.1 p.2.1 p.2.2)
 (some ((.exit 0), (f59_X_L0 s5), H)) := by kernel_rfl
theorem f59_A0_x0 (k : Nat) (s5 : Value) (H : AH) : f59_A0 k (.exit 0) (f59_X_L0 s5) H =
b2 (rn k 71 [s5] H) fun v12 h12 =>
some (v12, h12) := by kernel_rfl
theorem f59_L1_succ (k : Nat) (s1 s5 s6 s7 s8 s22 s23 s24 s29 s30 s31 : Value) (n : Nat) (H : AH) : f59_L1 k s1 s5 s6 s7 s8 s22 s23 s24 s29 s30 s31 (n + 1) H =
(bin Tryd.prog .lss 3 s31 s30).bind fun v13 =>
aIf v13
 ((ixA Tryd.prog 22 s29 s31).bind fun v14 =>
 (ld Tryd.prog 70 H v14).bind fun v15 =>
 (cv Tryd.prog 70 62 s7).bind fun v16 =>
 (cv Tryd.prog 70 62 v15).bind fun v17 =>
 (bin Tryd.prog .mul 62 v16 v17).bind fun v18 =>
 (bin Tryd.prog .add 3 s6 s31).bind fun v19 =>
 (ixA Tryd.prog 22 s5 v19).bind fun v20 =>
 (ld Tryd.prog 70 H v20).bind fun v21 =>
 (cv Tryd.prog 70 62 v21).bind fun v22 =>
 (bin Tryd.prog .add 62 v18 v22).bind fun v23 =>
 (bin Tryd.prog .add 62 v23 s8).bind fun v24 =>
 (bin Tryd.prog .add 3 s6 s31).bind fun v25 =>
 (cv Tryd.prog 62 70 v24).bind fun v26 =>
 (bin Tryd.prog .shr 62 v24 (.int .u64 32)).bind fun v27 =>
 (ixA Tryd.prog 22 s5 v25).bind fun v28 =>
 (st Tryd.prog 70 H v28 v26).bind fun h29 =>
 (bin Tryd.prog .add 3 s31 (.int .i64 1)).bind fun v30 =>
 f59_L1 k s1 s5 s6 s7 v27 s22 s23 s24 s29 s30 v30 n h29)
 (some ((.exit 2), (f59_X_L1 s1 s5 s6 s8 s22 s23 s24), H)) := by kernel_rfl
theorem f59_A1_x2 (k : Nat) (n : Nat) (s1 s5 s6 s8 s22 s23 s24 : Value) (H : AH) : f59_A1 k n (.exit 2) (f59_X_L1 s1 s5 s6 s8 s22 s23 s24) H =
(lenV Tryd.prog 22 s1).bind fun v31 =>
(bin Tryd.prog .add 3 s6 v31).bind fun v32 =>
(cv Tryd.prog 62 70 s8).bind fun v33 =>
(ixA Tryd.prog 22 s5 v32).bind fun v34 =>
(st Tryd.prog 70 H v34 v33).bind fun h35 =>
(bin Tryd.prog .add 3 s24 (.int .i64 1)).bind fun v36 =>
f59_L0 k s1 s5 s22 s23 v36 n h35 := by kernel_rfl
theorem f59_eq (k : Nat) (a0 a1 : Value) (H : AH) : rn (k + 1) 59 [a0, a1] H =
b2 (rn k 71 [a0] H) fun v1 h1 =>
b2 (rn k 71 [a1] h1) fun v2 h2 =>
(lenV Tryd.prog 22 v1).bind fun v3 =>
(lenV Tryd.prog 22 v2).bind fun v4 =>
(bin Tryd.prog .add 3 v3 v4).bind fun v5 =>
b2 (mkS Tryd.prog 22 h2 v5 v5) fun v6 h6 =>
(lenV Tryd.prog 22 v1).bind fun v7 =>
(f59_L0 k v2 v6 v1 v7 (.int .i64 0) k h6).bind fun p => f59_A0 k p.1 p.2.1 p.2.2 := by kernel_rfl
theorem f60_eq (k : Nat) (a0 : Value) (H : AH) : rn (k + 1) 60 [a0] H =
b2 (rn k 71 [a0] H) fun v1 h1 =>
(lenV Tryd.prog 22 v1).bind fun v2 =>
(bin Tryd.prog .eql 3 v2 (.int .i64 0)).bind fun v3 =>
aIf v3
 (some ((.tuple #[(.int .u64 0), (.bool true)]), h1))
 ((bin Tryd.prog .eql 3 v2 (.int .i64 1)).bind fun v4 =>
 aIf v4
  ((ixA Tryd.prog 22 v1 (.int .i64 0)).bind fun v5 =>
  (ld Tryd.prog 70 h1 v5).bind fun v6 =>
  (cv Tryd.prog 70 62 v6).bind fun v7 =>
  some ((.tuple #[v7, (.bool true)]), h1))
  ((bin Tryd.prog .eql 3 v2 (.int .i64 2)).bind fun v8 =>
  aIf v8
   ((ixA Tryd.prog 22 v1 (.int .i64 1)).bind fun v9 =>
   (ld Tryd.prog 70 h1 v9).bind fun v10 =>
   (cv Tryd.prog 70 62 v10).bind fun v11 =>
   (bin Tryd.prog .shl 62 v11 (.int .u64 32)).bind fun v12 =>
   (ixA Tryd.prog 22 v1 (.int .i64 0)).bind fun v13 =>
   (ld Tryd.prog 70 h1 v13).bind fun v14 =>
   (cv Tryd.prog 70 62 v14).bind fun v15 =>
   (bin Tryd.prog .or 62 v12 v15).bind fun v16 =>
   some ((.tuple #[v16, (.bool true)]), h1))
   (some ((.tuple #[(.int .u64 0), (.bool false)]), h1)))) := by kernel_rfl
abbrev f61_T_L0 (s3 s10 s11 s12 : Value) : List Value := [unk, unk, unk, s3, unk, unk, unk, unk, unk, unk, s10, s11, s12, unk, unk, unk, unk, unk, unk, unk, unk, unk, unk, unk, unk, unk, unk, unk, unk, unk, unk, unk, unk]
abbrev f61_X_L0 (s3 : Value) : List Value := [unk, unk, unk, s3, unk, unk, unk, unk, unk, unk, unk, unk, unk, unk, unk, unk, unk, unk, unk, unk, unk, unk, unk, unk, unk, unk, unk, unk, unk, unk, unk, unk, unk]
@[irreducible] def f61_L0 (k : Nat) (s3 s10 s11 s12 : Value) (n : Nat) (H : AH) : Option Out := iterD (fun T H K => evalK Tryd.prog (rn k) k (tbs 61) (codeAt (bodyOf Tryd.f61) [1, 1, 0, 1, 0, 0]) T H K) (cutT (tbs 61) 10) (cutT (tbs 61) 11) n (f61_T_L0 s3 s10 s11 s12) H
@[irreducible] def f61_A0 (k : Nat) (e : EX) (T : List Value) (H : AH) : Option (Value × AH) := resume Tryd.prog (rn k) k (tbs 61) (bodyOf Tryd.f61) [1, 1, 0, 1, 0] e T H (resK Tryd.prog Tryd.f61.results.toList)
theorem f61_L0_succ (k : Nat) (s3 s10 s11 s12 : Value) (n : Nat) (H : AH) : f61_L0 k s3 s10 s11 s12 (n + 1) H =
(bin Tryd.prog .lss 3 s12 s11).bind fun v5 =>
aIf v5
 ((ixA Tryd.prog 22 s10 s12).bind fun v6 =>
 (ld Tryd.prog 70 H v6).bind fun v7 =>
 (cv Tryd.prog 70 5 v7).bind fun v8 =>
 (bin Tryd.prog .shr 70 v7 (.int .u64 8)).bind fun v9 =>
 (cv Tryd.prog 70 5 v9).bind fun v10 =>
 (bin Tryd.prog .shr 70 v7 (.int .u64 16)).bind fun v11 =>
 (cv Tryd.prog 70 5 v11).bind fun v12 =>
 (bin Tryd.prog .shr 70 v7 (.int .u64 24)).bind fun v13 =>
 (cv Tryd.prog 70 5 v13).bind fun v14 =>
 b2 (buildS Tryd.prog 76 H 4 [(0, v8), (1, v10), (2, v12), (3, v14)]) fun v15 h15 =>
 b2 (ap Tryd.prog 76 76 h15 s3 v15) fun v16 h16 =>
 (bin Tryd.prog .add 3 s12 (.int .i64 1)).bind fun v17 =>
 f61_L0 k v16 s10 s11 v17 n h16)
 (some ((.exit 0), (f61_X_L0 s3), H)) := by kernel_rfl
theorem f61_A0_x0 (k : Nat) (s3 : Value) (H : AH) : f61_A0 k (.exit 0) (f61_X_L0 s3) H =
(cvS Tryd.prog 76 9 H s3).bind fun v18 =>
some (v18, H) := by kernel_rfl
theorem f61_eq (k : Nat) (a0 : Value) (H : AH) : rn (k + 1) 61 [a0] H =
(lenV Tryd.prog 22 a0).bind fun v1 =>
(bin Tryd.prog .mul 3 (.int .i64 4) v1).bind fun v2 =>
b2 (mkS Tryd.prog 76 H (.int .i64 0) v2) fun v3 h3 =>
(lenV Tryd.prog 22 a0).bind fun v4 =>
(f61_L0 k v3 a0 v4 (.int .i64 0) k h3).bind fun p => f61_A0 k p.1 p.2.1 p.2.2 := by kernel_rfl
theorem f62_eq (k : Nat) (a0 : Value) (H : AH) : rn (k + 1) 62 [a0] H =
b2 (box 57 H a0) fun v1 h1 =>
(fldA Tryd.prog 57 v1 0).bind fun v2 =>
(ld Tryd.prog 22 h1 v2).bind fun v3 =>
(lenV Tryd.prog 22 v3).bind fun v4 =>
(bin Tryd.prog .eql 3 v4 (.int .i64 0)).bind fun v5 =>
some (v5, h1) := by kernel_rfl
abbrev f63_T_L0 (s0 s2 s3 : Value) : List Value := [s0, unk, s2, s3, unk, unk, unk, unk, unk, unk, unk, unk, unk, unk, unk, unk, unk, unk, unk, unk, unk, unk, unk, unk, unk, unk, unk, unk]
abbrev f63_X_L0 : List Value := [unk, unk, unk, unk, unk, unk, unk, unk, unk, unk, unk, unk, unk, unk, unk, unk, unk, unk, unk, unk, unk, unk, unk, unk, unk, unk, unk, unk]
@[irreducible] def f63_L0 (k : Nat) (s0 s2 s3 : Value) (n : Nat) (H : AH) : Option Out := iterD (fun T H K => evalK Tryd.prog (rn k) k (tbs 63) (codeAt (bodyOf Tryd.f63) [1, 0, 0]) T H K) (cutT (tbs 63) 4) (cutT (tbs 63) 5) n (f63_T_L0 s0 s2 s3) H
@[irreducible] def f63_A0 (k : Nat) (e : EX) (T : List Value) (H : AH) : Option (Value × AH) := resume Tryd.prog (rn k) k (tbs 63) (bodyOf Tryd.f63) [1, 0] e T H (resK Tryd.prog Tryd.f63.results.toList)
theorem f63_L0_succ (k : Nat) (s0 s2 s3 : Value) (n : Nat) (H : AH) : f63_L0 k s0 s2 s3 (n + 1) H =
(bin Tryd.prog .lss 3 s2 s3).bind fun v3 =>
aIf v3
 ((ixA Tryd.prog 78 s0 s3).bind fun v4 =>
 (ld Tryd.prog 9 H v4).bind fun v5 =>
 (ixA Tryd.prog 78 s0 s2).bind fun v6 =>
 (ld Tryd.prog 9 H v6).bind fun v7 =>
 (ixA Tryd.prog 78 s0 s2).bind fun v8 =>
 (st Tryd.prog 9 H v8 v5).bind fun h9 =>
 (ixA Tryd.prog 78 s0 s3).bind fun v10 =>
 (st Tryd.prog 9 h9 v10 v7).bind fun h11 =>
 (bin Tryd.prog .add 3 s2 (.int .i64 1)).bind fun v12 =>
 (bin Tryd.prog .sub 3 s3 (.int .i64 1)).bind fun v13 =>
 f63_L0 k s0 v12 v13 n h11)
 (some ((.exit 0), f63_X_L0, H)) := by kernel_rfl
theorem f63_A0_x0 (k : Nat) (H : AH) : f63_A0 k (.exit 0) f63_X_L0 H =
some ((.tuple #[]), H) := by kernel_rfl
theorem f63_eq (k : Nat) (a0 : Value) (H : AH) : rn (k + 1) 63 [a0] H =
(lenV Tryd.prog 78 a0).bind fun v1 =>
(bin Tryd.prog .sub 3 v1 (.int .i64 1)).bind fun v2 =>
(f63_L0 k a0 (.int .i64 0) v2 k H).bind fun p => f63_A0 k p.1 p.2.1 p.2.2 := by kernel_rfl
theorem f64_eq (k : Nat) (a0 a1 : Value) (H : AH) : rn (k + 1) 64 [a0, a1] H =
(bin Tryd.prog .eql 9 a0 (.string ⟨#[]⟩)).bind fun v1 =>
b2 (gOp v1 false (some (a1, H)) H) fun v2 h2 =>
b2 (gOp v1 false ((bin Tryd.prog .eql 9 v2 (.string ⟨#[]⟩)).bind fun v => some (v, h2)) h2) fun v3 h3 =>
(pickV v1 (.bool true) v3).bind fun v4 =>
aIf v4
 (some (a0, h3))
 ((lenV Tryd.prog 9 a1).bind fun v5 =>
 (bin Tryd.prog .eql 3 v5 (.int .i64 1)).bind fun v6 =>
 b2 (gOp v6 true (some (a1, h3)) h3) fun v7 h7 =>
 b2 (gOp v6 true ((ix Tryd.prog 9 v7 (.int .i64 0)).bind fun v => some (v, h7)) h7) fun v8 h8 =>
 b2 (gOp v6 true ((bin Tryd.prog .lss 5 v8 (.int .u8 128)).bind fun v => some (v, h8)) h8) fun v9 h9 =>
 (pickV v6 v9 (.bool false)).bind fun v10 =>
 aIf v10
  ((ix Tryd.prog 9 a1 (.int .i64 0)).bind fun v11 =>
  b2 (rn k 81 [a0, v11] h9) fun v12 h12 =>
  some (v12, h12))
  (b2 (rn k 82 [a1] h9) fun v13 h13 =>
  (ext v13 0).bind fun v14 =>
  (ext v13 1).bind fun v15 =>
  b2 (newV Tryd.prog 93 h13) fun v16 h16 =>
  (st Tryd.prog 93 h16 v16 v14).bind fun h17 =>
  aIf v15
   (b2 (rn k 83 [a0, v16] h17) fun v18 h18 =>
   some (v18, h18))
   (b2 (rn k 84 [a0, a1] h17) fun v19 h19 =>
   some (v19, h19)))) := by kernel_rfl
abbrev f65_T_J0 (s0 s1 s5 : Value) : List Value := [s0, s1, unk, unk, unk, s5, unk, unk, unk, unk, unk, unk, unk, unk, unk, unk, unk, unk, unk, unk, unk, unk, unk, unk, unk, unk, unk, unk, unk, unk, unk, unk, unk, unk, unk, unk, unk, unk, unk, unk, unk, unk, unk, unk, unk, unk, unk, unk, unk, unk, unk, unk, unk, unk, unk, unk, unk, unk, unk, unk, unk, unk, unk, unk, unk, unk, unk, unk, unk, unk, unk, unk, unk, unk, unk]
abbrev f65_T_J1 (s0 s1 s5 : Value) : List Value := [s0, s1, unk, unk, unk, s5, unk, unk, unk, unk, unk, unk, unk, unk, unk, unk, unk, unk, unk, unk, unk, unk, unk, unk, unk, unk, unk, unk, unk, unk, unk, unk, unk, unk, unk, unk, unk, unk, unk, unk, unk, unk, unk, unk, unk, unk, unk, unk, unk, unk, unk, unk, unk, unk, unk, unk, unk, unk, unk, unk, unk, unk, unk, unk, unk, unk, unk, unk, unk, unk, unk, unk, unk, unk, unk]
abbrev f65_T_L0 (s0 s1 s5 s39 s40 s41 : Value) : List Value := [s0, s1, unk, unk, unk, s5, unk, unk, unk, unk, unk, unk, unk, unk, unk, unk, unk, unk, unk, unk, unk, unk, unk, unk, unk, unk, unk, unk, unk, unk, unk, unk, unk, unk, unk, unk, unk, unk, unk, s39, s40, s41, unk, unk, unk, unk, unk, unk, unk, unk, unk, unk, unk, unk, unk, unk, unk, unk, unk, unk, unk, unk, unk, unk, unk, unk, unk, unk, unk, unk, unk, unk, unk, unk, unk]
abbrev f65_X_L0 (s0 s1 s5 : Value) : List Value := [s0, s1, unk, unk, unk, s5, unk, unk, unk, unk, unk, unk, unk, unk, unk, unk, unk, unk, unk, unk, unk, unk, unk, unk, unk, unk, unk, unk, unk, unk, unk, unk, unk, unk, unk, unk, unk, unk, unk, unk, unk, unk, unk, unk, unk, unk, unk, unk, unk, unk, unk, unk, unk, unk, unk, unk, unk, unk, unk, unk, unk, unk, unk, unk, unk, unk, unk, unk, unk, unk, unk, unk, unk, unk, unk]
abbrev f65_T_J2 (s0 s1 s5 s7 s39 s40 s41 : Value) : List Value := [s0, s1, unk, unk, unk, s5, unk, s7, unk, unk, unk, unk, unk, unk, unk, unk, unk, unk, unk, unk, unk, unk, unk, unk, unk, unk, unk, unk, unk, unk, unk, unk, unk, unk, unk, unk, unk, unk, unk, s39, s40, s41, unk, unk, unk, unk, unk, unk, unk, unk, unk, unk, unk, unk, unk, unk, unk, unk, unk, unk, unk, unk, unk, unk, unk, unk, unk, unk, unk, unk, unk, unk, unk, unk, unk]
abbrev f65_T_L1 (s1 s8 s63 s64 s65 : Value) : List Value := [unk, s1, unk, unk, unk, unk, unk, unk, s8, unk, unk, unk, unk, unk, unk, unk, unk, unk, unk, unk, unk, unk, unk, unk, unk, unk, unk, unk, unk, unk, unk, unk, unk, unk, unk, unk, unk, unk, unk, unk, unk, unk, unk, unk, unk, unk, unk, unk, unk, unk, unk, unk, unk, unk, unk, unk, unk, unk, unk, unk, unk, unk, unk, s63, s64, s65, unk, unk, unk, unk, unk, unk, unk, unk, unk]
abbrev f65_X_L1 (s8 : Value) : List Value := [unk, unk, unk, unk, unk, unk, unk, unk, s8, unk, unk, unk, unk, unk, unk, unk, unk, unk, unk, unk, unk, unk, unk, unk, unk, unk, unk, unk, unk, unk, unk, unk, unk, unk, unk, unk, unk, unk, unk, unk, unk, unk, unk, unk, unk, unk, unk, unk, unk, unk, unk, unk, unk, unk, unk, unk, unk, unk, unk, unk, unk, unk, unk, unk, unk, unk, unk, unk, unk, unk, unk, unk, unk, unk, unk]
@[irreducible] def f65_J0 (k : Nat) (s0 s1 s5 : Value) (H : AH) : Option (Value × AH) := resume Tryd.prog (rn k) k (tbs 65) (bodyOf Tryd.f65) [1, 1, 1, 0, 1, 1, 0] .normal (f65_T_J0 s0 s1 s5) H (resK Tryd.prog Tryd.f65.results.toList)
@[irreducible] def f65_J1 (k : Nat) (s0 s1 s5 : Value) (H : AH) : Option (Value × AH) := resume Tryd.prog (rn k) k (tbs 65) (bodyOf Tryd.f65) [1, 1, 1, 0] .normal (f65_T_J1 s0 s1 s5) H (resK Tryd.prog Tryd.f65.results.toList)
@[irreducible] def f65_L0 (k : Nat) (s0 s1 s5 s39 s40 s41 : Value) (n : Nat) (H : AH) : Option Out := iterD (fun T H K => evalK Tryd.prog (rn k) k (tbs 65) (codeAt (bodyOf Tryd.f65) [1, 1, 1, 1, 0, 1, 0, 0]) T H K) (cutT (tbs 65) 37) (cutT (tbs 65) 38) n (f65_T_L0 s0 s1 s5 s39 s40 s41) H
@[irreducible] def f65_A0 (k : Nat) (e : EX) (T : List Value) (H : AH) : Option (Value × AH) := resume Tryd.prog (rn k) k (tbs 65) (bodyOf Tryd.f65) [1, 1, 1, 1, 0, 1, 0] e T H (resK Tryd.prog Tryd.f65.results.toList)
@[irreducible] def f65_J2 (k : Nat) (n : Nat) (s0 s1 s5 s7 s39 s40 s41 : Value) (H : AH) : Option Out := resume Tryd.prog (rn k) k (tbs 65) (codeAt (bodyOf Tryd.f65) [1, 1, 1, 1, 0, 1, 0, 0]) [1, 1, 0, 0, 1, 0] .normal (f65_T_J2 s0 s1 s5 s7 s39 s40 s41) H (loopK (iterD (fun T H K => evalK Tryd.prog (rn k) k (tbs 65) (codeAt (bodyOf Tryd.f65) [1, 1, 1, 1, 0, 1, 0, 0]) T H K) (cutT (tbs 65) 37) (cutT (tbs 65) 38) n) (cutT (tbs 65) 37) (cutT (tbs 65) 38))
@[irreducible] def f65_L1 (k : Nat) (s1 s8 s63 s64 s65 : Value) (n : Nat) (H : AH) : Option Out := iterD (fun T H K => evalK Tryd.prog (rn k) k (tbs 65) (codeAt (bodyOf Tryd.f65) [1, 1, 1, 1, 1, 1, 1, 1, 0, 1, 0, 0]) T H K) (cutT (tbs 65) 67) (cutT (tbs 65) 68) n (f65_T_L1 s1 s8 s63 s64 s65) H
@[irreducible] def f65_A1 (k : Nat) (e : EX) (T : List Value) (H : AH) : Option (Value × AH) := resume Tryd.prog (rn k) k (tbs 65) (bodyOf Tryd.f65) [1, 1, 1, 1, 1, 1, 1, 1, 0, 1, 0] e T H (resK Tryd.prog Tryd.f65.results.toList)
theorem f65_J1_eq (k : Nat) (s0 s1 s5 : Value) (H : AH) : f65_J1 k s0 s1 s5 H =
(lenV Tryd.prog 78 s0).bind fun v18 =>
(f65_L0 k s0 s1 s5 s0 v18 (.int .i64 0) k H).bind fun p => f65_A0 k p.1 p.2.1 p.2.2 := by kernel_rfl
theorem f65_L0_succ (k : Nat) (s0 s1 s5 s39 s40 s41 : Value) (n : Nat) (H : AH) : f65_L0 k s0 s1 s5 s39 s40 s41 (n + 1) H =
(bin Tryd.prog .lss 3 s41 s40).bind fun v19 =>
aIf v19
 ((ixA Tryd.prog 78 s39 s41).bind fun v20 =>
 (ld Tryd.prog 9 H v20).bind fun v21 =>
 (lenV Tryd.prog 9 v21).bind fun v22 =>
 (bin Tryd.prog .sub 3 (.int .i64 9223372036854775807) s5).bind fun v23 =>
 (bin Tryd.prog .gtr 3 v22 v23).bind fun v24 =>
 aIf v24
  (none)
  (f65_J2 k n s0 s1 s5 v21 s39 s40 s41 H))
 (some ((.exit 1), (f65_X_L0 s0 s1 s5), H)) := by kernel_rfl
theorem f65_A0_x1 (k : Nat) (s0 s1 s5 : Value) (H : AH) : f65_A0 k (.exit 1) (f65_X_L0 s0 s1 s5) H =
b2 (newV Tryd.prog 100 H) fun v25 h25 =>
b2 (rn k 85 [v25, s5] h25) fun v26 h26 =>
(ixA Tryd.prog 78 s0 (.int .i64 0)).bind fun v27 =>
(ld Tryd.prog 9 h26 v27).bind fun v28 =>
b2 (rn k 86 [v25, v28] h26) fun v29 h29 =>
(slc Tryd.prog 78 s0 (some (.int .i64 1)) none).bind fun v30 =>
(lenV Tryd.prog 78 v30).bind fun v31 =>
(f65_L1 k s1 v25 v30 v31 (.int .i64 0) k h29).bind fun p => f65_A1 k p.1 p.2.1 p.2.2 := by kernel_rfl
theorem f65_J2_eq (k : Nat) (n : Nat) (s0 s1 s5 s7 s39 s40 s41 : Value) (H : AH) : f65_J2 k n s0 s1 s5 s7 s39 s40 s41 H =
(lenV Tryd.prog 9 s7).bind fun v32 =>
(bin Tryd.prog .add 3 s5 v32).bind fun v33 =>
(bin Tryd.prog .add 3 s41 (.int .i64 1)).bind fun v34 =>
f65_L0 k s0 s1 v33 s39 s40 v34 n H := by kernel_rfl
theorem f65_L1_succ (k : Nat) (s1 s8 s63 s64 s65 : Value) (n : Nat) (H : AH) : f65_L1 k s1 s8 s63 s64 s65 (n + 1) H =
(bin Tryd.prog .lss 3 s65 s64).bind fun v35 =>
aIf v35
 ((ixA Tryd.prog 78 s63 s65).bind fun v36 =>
 (ld Tryd.prog 9 H v36).bind fun v37 =>
 b2 (rn k 86 [s8, s1] H) fun v38 h38 =>
 b2 (rn k 86 [s8, v37] h38) fun v39 h39 =>
 (bin Tryd.prog .add 3 s65 (.int .i64 1)).bind fun v40 =>
 f65_L1 k s1 s8 s63 s64 v40 n h39)
 (some ((.exit 3), (f65_X_L1 s8), H)) := by kernel_rfl
theorem f65_A1_x3 (k : Nat) (s8 : Value) (H : AH) : f65_A1 k (.exit 3) (f65_X_L1 s8) H =
b2 (rn k 87 [s8] H) fun v41 h41 =>
some (v41, h41) := by kernel_rfl
theorem f65_eq (k : Nat) (a0 a1 : Value) (H : AH) : rn (k + 1) 65 [a0, a1] H =
(lenV Tryd.prog 78 a0).bind fun v1 =>
(bin Tryd.prog .eql 3 v1 (.int .i64 0)).bind fun v2 =>
aIf v2
 (some ((.string ⟨#[]⟩), H))
 ((bin Tryd.prog .eql 3 v1 (.int .i64 1)).bind fun v3 =>
 aIf v3
  ((ixA Tryd.prog 78 a0 (.int .i64 0)).bind fun v4 =>
  (ld Tryd.prog 9 H v4).bind fun v5 =>
  some (v5, H))
  ((lenV Tryd.prog 9 a1).bind fun v6 =>
  (bin Tryd.prog .gtr 3 v6 (.int .i64 0)).bind fun v7 =>
  aIf v7
   ((lenV Tryd.prog 9 a1).bind fun v8 =>
   (lenV Tryd.prog 78 a0).bind fun v9 =>
   (bin Tryd.prog .sub 3 v9 (.int .i64 1)).bind fun v10 =>
   (bin Tryd.prog .quo 3 (.int .i64 9223372036854775807) v10).bind fun v11 =>
   (bin Tryd.prog .geq 3 v8 v11).bind fun v12 =>
   aIf v12
    (none)
    (f65_J0 k a0 a1 (.int .i64 0) H))
   (f65_J1 k a0 a1 (.int .i64 0) H))) := by kernel_rfl
theorem f70_eq (k : Nat) (a0 : Value) (H : AH) : rn (k + 1) 70 [a0] H =
b2 (rn k 71 [a0] H) fun v1 h1 =>
b2 (rn k 80 [v1] h1) fun v2 h2 =>
some (v2, h2) := by kernel_rfl
abbrev f71_T_L0 (s0 : Value) : List Value := [s0, unk, unk, unk, unk, unk, unk, unk, unk, unk, unk, unk, unk, unk, unk, unk, unk, unk, unk, unk, unk]
abbrev f71_X_L0 (s0 : Value) : List Value := [s0, unk, unk, unk, unk, unk, unk, unk, unk, unk, unk, unk, unk, unk, unk, unk, unk, unk, unk, unk, unk]
@[irreducible] def f71_L0 (k : Nat) (s0 : Value) (n : Nat) (H : AH) : Option Out := iterD (fun T H K => evalK Tryd.prog (rn k) k (tbs 71) (codeAt (bodyOf Tryd.f71) [1, 0, 0, 0]) T H K) (cutT (tbs 71) 4) (cutT (tbs 71) 5) n (f71_T_L0 s0) H
@[irreducible] def f71_A0 (k : Nat) (e : EX) (T : List Value) (H : AH) : Option (Value × AH) := resume Tryd.prog (rn k) k (tbs 71) (bodyOf Tryd.f71) [1, 0, 0] e T H (resK Tryd.prog Tryd.f71.results.toList)
theorem f71_L0_succ (k : Nat) (s0 : Value) (n : Nat) (H : AH) : f71_L0 k s0 (n + 1) H =
(lenV Tryd.prog 22 s0).bind fun v1 =>
(bin Tryd.prog .gtr 3 v1 (.int .i64 0)).bind fun v2 =>
b2 (gOp v2 true (some (s0, H)) H) fun v3 h3 =>
b2 (gOp v2 true (some (s0, h3)) h3) fun v4 h4 =>
b2 (gOp v2 true ((lenV Tryd.prog 22 v4).bind fun v => some (v, h4)) h4) fun v5 h5 =>
b2 (gOp v2 true ((bin Tryd.prog .sub 3 v5 (.int .i64 1)).bind fun v => some (v, h5)) h5) fun v6 h6 =>
b2 (gOp v2 true ((ixA Tryd.prog 22 v3 v6).bind fun v => some (v, h6)) h6) fun v7 h7 =>
b2 (gOp v2 true ((ld Tryd.prog 70 h7 v7).bind fun v => some (v, h7)) h7) fun v8 h8 =>
b2 (gOp v2 true ((bin Tryd.prog .eql 70 v8 (.int .u32 0)).bind fun v => some (v, h8)) h8) fun v9 h9 =>
(pickV v2 v9 (.bool false)).bind fun v10 =>
aIf v10
 ((lenV Tryd.prog 22 s0).bind fun v11 =>
 (bin Tryd.prog .sub 3 v11 (.int .i64 1)).bind fun v12 =>
 (slc Tryd.prog 22 s0 none (some v12)).bind fun v13 =>
 f71_L0 k v13 n h9)
 (some ((.exit 0), (f71_X_L0 s0), h9)) := by kernel_rfl
theorem f71_A0_x0 (k : Nat) (s0 : Value) (H : AH) : f71_A0 k (.exit 0) (f71_X_L0 s0) H =
some (s0, H) := by kernel_rfl
theorem f71_eq (k : Nat) (a0 : Value) (H : AH) : rn (k + 1) 71 [a0] H =
(f71_L0 k a0 k H).bind fun p => f71_A0 k p.1 p.2.1 p.2.2 := by kernel_rfl
theorem f72_eq (k : Nat) (a0 a1 a2 : Value) (H : AH) : rn (k + 1) 72 [a0, a1, a2] H =
(cv Tryd.prog 70 62 a0).bind fun v1 =>
(cv Tryd.prog 70 62 a1).bind fun v2 =>
(bin Tryd.prog .add 62 v1 v2).bind fun v3 =>
(cv Tryd.prog 70 62 a2).bind fun v4 =>
(bin Tryd.prog .add 62 v3 v4).bind fun v5 =>
(cv Tryd.prog 62 70 v5).bind fun v6 =>
(bin Tryd.prog .shr 62 v5 (.int .u64 32)).bind fun v7 =>
(cv Tryd.prog 62 70 v7).bind fun v8 =>
some ((.tuple #[v6, v8]), H) := by kernel_rfl
theorem f73_eq (k : Nat) (a0 a1 a2 : Value) (H : AH) : rn (k + 1) 73 [a0, a1, a2] H =
(bin Tryd.prog .sub 70 a0 a1).bind fun v1 =>
(bin Tryd.prog .sub 70 v1 a2).bind fun v2 =>
(un Tryd.prog .xor a0).bind fun v3 =>
(bin Tryd.prog .and 70 v3 a1).bind fun v4 =>
(bin Tryd.prog .xor 70 a0 a1).bind fun v5 =>
(un Tryd.prog .xor v5).bind fun v6 =>
(bin Tryd.prog .and 70 v6 v2).bind fun v7 =>
(bin Tryd.prog .or 70 v4 v7).bind fun v8 =>
(bin Tryd.prog .shr 70 v8 (.int .u64 31)).bind fun v9 =>
some ((.tuple #[v2, v9]), H) := by kernel_rfl
abbrev f74_T_L0 (s0 s1 s4 s7 s14 s15 : Value) : List Value := [s0, s1, unk, unk, s4, unk, unk, s7, unk, unk, unk, unk, unk, unk, s14, s15, unk, unk, unk, unk, unk, unk, unk, unk, unk, unk, unk, unk, unk, unk, unk, unk, unk, unk, unk, unk, unk, unk, unk, unk, unk, unk]
abbrev f74_X_L0 (s4 s7 : Value) : List Value := [unk, unk, unk, unk, s4, unk, unk, s7, unk, unk, unk, unk, unk, unk, unk, unk, unk, unk, unk, unk, unk, unk, unk, unk, unk, unk, unk, unk, unk, unk, unk, unk, unk, unk, unk, unk, unk, unk, unk, unk, unk, unk]
@[irreducible] def f74_L0 (k : Nat) (s0 s1 s4 s7 s14 s15 : Value) (n : Nat) (H : AH) : Option Out := iterD (fun T H K => evalK Tryd.prog (rn k) k (tbs 74) (codeAt (bodyOf Tryd.f74) [1, 1, 1, 0, 1, 0, 0]) T H K) (cutT (tbs 74) 13) (cutT (tbs 74) 14) n (f74_T_L0 s0 s1 s4 s7 s14 s15) H
@[irreducible] def f74_A0 (k : Nat) (e : EX) (T : List Value) (H : AH) : Option (Value × AH) := resume Tryd.prog (rn k) k (tbs 74) (bodyOf Tryd.f74) [1, 1, 1, 0, 1, 0] e T H (resK Tryd.prog Tryd.f74.results.toList)
theorem f74_L0_succ (k : Nat) (s0 s1 s4 s7 s14 s15 : Value) (n : Nat) (H : AH) : f74_L0 k s0 s1 s4 s7 s14 s15 (n + 1) H =
(bin Tryd.prog .lss 3 s15 s14).bind fun v4 =>
aIf v4
 ((lenV Tryd.prog 22 s0).bind fun v5 =>
 (bin Tryd.prog .sub 3 v5 (.int .i64 1)).bind fun v6 =>
 (bin Tryd.prog .sub 3 v6 s15).bind fun v7 =>
 (ixA Tryd.prog 22 s0 v7).bind fun v8 =>
 (ld Tryd.prog 70 H v8).bind fun v9 =>
 b2 (rn k 88 [s7, v9, s1] H) fun v10 h10 =>
 (ext v10 0).bind fun v11 =>
 (ext v10 1).bind fun v12 =>
 (ixA Tryd.prog 22 s4 v7).bind fun v13 =>
 (st Tryd.prog 70 h10 v13 v11).bind fun h14 =>
 (bin Tryd.prog .add 3 s15 (.int .i64 1)).bind fun v15 =>
 f74_L0 k s0 s1 s4 v12 s14 v15 n h14)
 (some ((.exit 0), (f74_X_L0 s4 s7), H)) := by kernel_rfl
theorem f74_A0_x0 (k : Nat) (s4 s7 : Value) (H : AH) : f74_A0 k (.exit 0) (f74_X_L0 s4 s7) H =
b2 (rn k 70 [s4] H) fun v16 h16 =>
(cv Tryd.prog 70 62 s7).bind fun v17 =>
b2 (rn k 45 [v17] h16) fun v18 h18 =>
some ((.tuple #[v16, v18, (.bool true)]), h18) := by kernel_rfl
theorem f74_eq (k : Nat) (a0 a1 : Value) (H : AH) : rn (k + 1) 74 [a0, a1] H =
(lenV Tryd.prog 22 a0).bind fun v1 =>
b2 (mkS Tryd.prog 22 H v1 v1) fun v2 h2 =>
(lenV Tryd.prog 22 a0).bind fun v3 =>
(f74_L0 k a0 a1 v2 (.int .u32 0) v3 (.int .i64 0) k h2).bind fun p => f74_A0 k p.1 p.2.1 p.2.2 := by kernel_rfl
abbrev f75_T_L0 (s1 s4 s7 s8 s9 s12 : Value) : List Value := [unk, s1, unk, unk, s4, unk, unk, s7, s8, s9, unk, unk, s12, unk, unk, unk, unk, unk, unk, unk, unk, unk, unk, unk, unk, unk, unk, unk, unk, unk, unk, unk, unk, unk, unk, unk, unk, unk, unk, unk, unk, unk, unk, unk, unk, unk, unk, unk, unk, unk, unk, unk, unk, unk, unk, unk, unk, unk, unk, unk, unk, unk, unk, unk, unk, unk, unk, unk, unk, unk, unk, unk, unk, unk, unk, unk, unk, unk, unk, unk, unk, unk, unk, unk, unk, unk, unk, unk, unk, unk, unk, unk, unk, unk, unk, unk, unk, unk, unk, unk, unk, unk, unk, unk, unk, unk, unk, unk, unk, unk, unk, unk, unk, unk, unk, unk, unk, unk, unk, unk, unk, unk, unk, unk, unk, unk, unk, unk, unk, unk, unk, unk, unk, unk, unk, unk, unk, unk, unk, unk, unk, unk, unk, unk, unk, unk, unk, unk, unk, unk, unk, unk, unk, unk, unk, unk, unk, unk, unk, unk]
abbrev f75_X_L0 (s4 s7 s8 s9 : Value) : List Value := [unk, unk, unk, unk, s4, unk, unk, s7, s8, s9, unk, unk, unk, unk, unk, unk, unk, unk, unk, unk, unk, unk, unk, unk, unk, unk, unk, unk, unk, unk, unk, unk, unk, unk, unk, unk, unk, unk, unk, unk, unk, unk, unk, unk, unk, unk, unk, unk, unk, unk, unk, unk, unk, unk, unk, unk, unk, unk, unk, unk, unk, unk, unk, unk, unk, unk, unk, unk, unk, unk, unk, unk, unk, unk, unk, unk, unk, unk, unk, unk, unk, unk, unk, unk, unk, unk, unk, unk, unk, unk, unk, unk, unk, unk, unk, unk, unk, unk, unk, unk, unk, unk, unk, unk, unk, unk, unk, unk, unk, unk, unk, unk, unk, unk, unk, unk, unk, unk, unk, unk, unk, unk, unk, unk, unk, unk, unk, unk, unk, unk, unk, unk, unk, unk, unk, unk, unk, unk, unk, unk, unk, unk, unk, unk, unk, unk, unk, unk, unk, unk, unk, unk, unk, unk, unk, unk, unk, unk, unk, unk]
abbrev f75_T_L1 (s1 s4 s7 s8 s9 s12 s14 s15 : Value) : List Value := [unk, s1, unk, unk, s4, unk, unk, s7, s8, s9, unk, unk, s12, unk, s14, s15, unk, unk, unk, unk, unk, unk, unk, unk, unk, unk, unk, unk, unk, unk, unk, unk, unk, unk, unk, unk, unk, unk, unk, unk, unk, unk, unk, unk, unk, unk, unk, unk, unk, unk, unk, unk, unk, unk, unk, unk, unk, unk, unk, unk, unk, unk, unk, unk, unk, unk, unk, unk, unk, unk, unk, unk, unk, unk, unk, unk, unk, unk, unk, unk, unk, unk, unk, unk, unk, unk, unk, unk, unk, unk, unk, unk, unk, unk, unk, unk, unk, unk, unk, unk, unk, unk, unk, unk, unk, unk, unk, unk, unk, unk, unk, unk, unk, unk, unk, unk, unk, unk, unk, unk, unk, unk, unk, unk, unk, unk, unk, unk, unk, unk, unk, unk, unk, unk, unk, unk, unk, unk, unk, unk, unk, unk, unk, unk, unk, unk, unk, unk, unk, unk, unk, unk, unk, unk, unk, unk, unk, unk, unk, unk]
abbrev f75_X_L1 (s1 s4 s7 s8 s9 s12 s14 : Value) : List Value := [unk, s1, unk, unk, s4, unk, unk, s7, s8, s9, unk, unk, s12, unk, s14, unk, unk, unk, unk, unk, unk, unk, unk, unk, unk, unk, unk, unk, unk, unk, unk, unk, unk, unk, unk, unk, unk, unk, unk, unk, unk, unk, unk, unk, unk, unk, unk, unk, unk, unk, unk, unk, unk, unk, unk, unk, unk, unk, unk, unk, unk, unk, unk, unk, unk, unk, unk, unk, unk, unk, unk, unk, unk, unk, unk, unk, unk, unk, unk, unk, unk, unk, unk, unk, unk, unk, unk, unk, unk, unk, unk, unk, unk, unk, unk, unk, unk, unk, unk, unk, unk, unk, unk, unk, unk, unk, unk, unk, unk, unk, unk, unk, unk, unk, unk, unk, unk, unk, unk, unk, unk, unk, unk, unk, unk, unk, unk, unk, unk, unk, unk, unk, unk, unk, unk, unk, unk, unk, unk, unk, unk, unk, unk, unk, unk, unk, unk, unk, unk, unk, unk, unk, unk, unk, unk, unk, unk, unk, unk, unk]
abbrev f75_T_J0 (s1 s4 s7 s8 s9 s12 s14 : Value) : List Value := [unk, s1, unk, unk, s4, unk, unk, s7, s8, s9, unk, unk, s12, unk, s14, unk, unk, unk, unk, unk, unk, unk, unk, unk, unk, unk, unk, unk, unk, unk, unk, unk, unk, unk, unk, unk, unk, unk, unk, unk, unk, unk, unk, unk, unk, unk, unk, unk, unk, unk, unk, unk, unk, unk, unk, unk, unk, unk, unk, unk, unk, unk, unk, unk, unk, unk, unk, unk, unk, unk, unk, unk, unk, unk, unk, unk, unk, unk, unk, unk, unk, unk, unk, unk, unk, unk, unk, unk, unk, unk, unk, unk, unk, unk, unk, unk, unk, unk, unk, unk, unk, unk, unk, unk, unk, unk, unk, unk, unk, unk, unk, unk, unk, unk, unk, unk, unk, unk, unk, unk, unk, unk, unk, unk, unk, unk, unk, unk, unk, unk, unk, unk, unk, unk, unk, unk, unk, unk, unk, unk, unk, unk, unk, unk, unk, unk, unk, unk, unk, unk, unk, unk, unk, unk, unk, unk, unk, unk, unk, unk]
@[irreducible] def f75_L0 (k : Nat) (s1 s4 s7 s8 s9 s12 : Value) (n : Nat) (H : AH) : Option Out := iterD (fun T H K => evalK Tryd.prog (rn k) k (tbs 75) (codeAt (bodyOf Tryd.f75) [1, 1, 1, 1, 1, 1, 1, 1, 0, 1, 0, 0]) T H K) (cutT (tbs 75) 28) (cutT (tbs 75) 29) n (f75_T_L0 s1 s4 s7 s8 s9 s12) H
@[irreducible] def f75_A0 (k : Nat) (e : EX) (T : List Value) (H : AH) : Option (Value × AH) := resume Tryd.prog (rn k) k (tbs 75) (bodyOf Tryd.f75) [1, 1, 1, 1, 1, 1, 1, 1, 0, 1, 0] e T H (resK Tryd.prog Tryd.f75.results.toList)
@[irreducible] def f75_L1 (k : Nat) (s1 s4 s7 s8 s9 s12 s14 s15 : Value) (n : Nat) (H : AH) : Option Out := iterD (fun T H K => evalK Tryd.prog (rn k) k (tbs 75) (codeAt (bodyOf Tryd.f75) [1, 1, 1, 1, 1, 1, 1, 1, 0, 1, 0, 0, 1, 0, 0, 0, 1, 1, 1, 0, 0, 0]) T H K) (cutT (tbs 75) 40) (cutT (tbs 75) 41) n (f75_T_L1 s1 s4 s7 s8 s9 s12 s14 s15) H
@[irreducible] def f75_A1 (k : Nat) (n : Nat) (e : EX) (T : List Value) (H : AH) : Option Out := resume Tryd.prog (rn k) k (tbs 75) (codeAt (bodyOf Tryd.f75) [1, 1, 1, 1, 1, 1, 1, 1, 0, 1, 0, 0]) [1, 0, 0, 0, 1, 1, 1, 0, 0] e T H (loopK (iterD (fun T H K => evalK Tryd.prog (rn k) k (tbs 75) (codeAt (bodyOf Tryd.f75) [1, 1, 1, 1, 1, 1, 1, 1, 0, 1, 0, 0]) T H K) (cutT (tbs 75) 28) (cutT (tbs 75) 29) n) (cutT (tbs 75) 28) (cutT (tbs 75) 29))
@[irreducible] def f75_J0 (k : Nat) (n : Nat) (s1 s4 s7 s8 s9 s12 s14 : Value) (H : AH) : Option Out := resume Tryd.prog (rn k) k (tbs 75) (codeAt (bodyOf Tryd.f75) [1, 1, 1, 1, 1, 1, 1, 1, 0, 1, 0, 0]) [1, 0, 0, 0, 1, 1, 1, 1, 0] .normal (f75_T_J0 s1 s4 s7 s8 s9 s12 s14) H (loopK (iterD (fun T H K => evalK Tryd.prog (rn k) k (tbs 75) (codeAt (bodyOf Tryd.f75) [1, 1, 1, 1, 1, 1, 1, 1, 0, 1, 0, 0]) T H K) (cutT (tbs 75) 28) (cutT (tbs 75) 29) n) (cutT (tbs 75) 28) (cutT (tbs 75) 29))
theorem f75_L0_succ (k : Nat) (s1 s4 s7 s8 s9 s12 : Value) (n : Nat) (H : AH) : f75_L0 k s1 s4 s7 s8 s9 s12 (n + 1) H =
(bin Tryd.prog .geq 3 s12 (.int .i64 0)).bind fun v23 =>
aIf v23
 ((bin Tryd.prog .add 3 s12 s8).bind fun v24 =>
 (ixA Tryd.prog 22 s9 v24).bind fun v25 =>
 (ld Tryd.prog 70 H v25).bind fun v26 =>
 (cv Tryd.prog 70 62 v26).bind fun v27 =>
 (bin Tryd.prog .shl 62 v27 (.int .u64 32)).bind fun v28 =>
 (bin Tryd.prog .add 3 s12 s8).bind fun v29 =>
 (bin Tryd.prog .sub 3 v29 (.int .i64 1)).bind fun v30 =>
 (ixA Tryd.prog 22 s9 v30).bind fun v31 =>
 (ld Tryd.prog 70 H v31).bind fun v32 =>
 (cv Tryd.prog 70 62 v32).bind fun v33 =>
 (bin Tryd.prog .or 62 v28 v33).bind fun v34 =>
 (bin Tryd.prog .sub 3 s8 (.int .i64 1)).bind fun v35 =>
 (ixA Tryd.prog 22 s1 v35).bind fun v36 =>
 (ld Tryd.prog 70 H v36).bind fun v37 =>
 (cv Tryd.prog 70 62 v37).bind fun v38 =>
 (bin Tryd.prog .quo 62 v34 v38).bind fun v39 =>
 (bin Tryd.prog .sub 3 s8 (.int .i64 1)).bind fun v40 =>
 (ixA Tryd.prog 22 s1 v40).bind fun v41 =>
 (ld Tryd.prog 70 H v41).bind fun v42 =>
 (cv Tryd.prog 70 62 v42).bind fun v43 =>
 (bin Tryd.prog .rem 62 v34 v43).bind fun v44 =>
 (f75_L1 k s1 s4 s7 s8 s9 s12 v39 v44 k H).bind fun p => f75_A1 k n p.1 p.2.1 p.2.2)
 (some ((.exit 0), (f75_X_L0 s4 s7 s8 s9), H)) := by kernel_rfl
theorem f75_A0_x0 (k : Nat) (s4 s7 s8 s9 : Value) (H : AH) : f75_A0 k (.exit 0) (f75_X_L0 s4 s7 s8 s9) H =
b2 (rn k 70 [s4] H) fun v45 h45 =>
(slc Tryd.prog 22 s9 none (some s8)).bind fun v46 =>
b2 (rn k 55 [v46, s7] h45) fun v47 h47 =>
some ((.tuple #[v45, v47, (.bool true)]), h47) := by kernel_rfl
theorem f75_L1_succ (k : Nat) (s1 s4 s7 s8 s9 s12 s14 s15 : Value) (n : Nat) (H : AH) : f75_L1 k s1 s4 s7 s8 s9 s12 s14 s15 (n + 1) H =
(bin Tryd.prog .geq 62 s14 (.int .u64 4294967296)).bind fun v48 =>
b2 (gOp v48 false (some (s14, H)) H) fun v49 h49 =>
b2 (gOp v48 false (some (s1, h49)) h49) fun v50 h50 =>
b2 (gOp v48 false (some (s8, h50)) h50) fun v51 h51 =>
b2 (gOp v48 false ((bin Tryd.prog .sub 3 v51 (.int .i64 2)).bind fun v => some (v, h51)) h51) fun v52 h52 =>
b2 (gOp v48 false ((ixA Tryd.prog 22 v50 v52).bind fun v => some (v, h52)) h52) fun v53 h53 =>
b2 (gOp v48 false ((ld Tryd.prog 70 h53 v53).bind fun v => some (v, h53)) h53) fun v54 h54 =>
b2 (gOp v48 false ((cv Tryd.prog 70 62 v54).bind fun v => some (v, h53)) h53) fun v55 h55 =>
b2 (gOp v48 false ((bin Tryd.prog .mul 62 v49 v55).bind fun v => some (v, h55)) h55) fun v56 h56 =>
b2 (gOp v48 false (some (s15, h56)) h56) fun v57 h57 =>
b2 (gOp v48 false ((bin Tryd.prog .shl 62 v57 (.int .u64 32)).bind fun v => some (v, h57)) h57) fun v58 h58 =>
b2 (gOp v48 false (some (s9, h58)) h58) fun v59 h59 =>
b2 (gOp v48 false (some (s12, h59)) h59) fun v60 h60 =>
b2 (gOp v48 false (some (s8, h60)) h60) fun v61 h61 =>
b2 (gOp v48 false ((bin Tryd.prog .add 3 v60 v61).bind fun v => some (v, h61)) h61) fun v62 h62 =>
b2 (gOp v48 false ((bin Tryd.prog .sub 3 v62 (.int .i64 2)).bind fun v => some (v, h62)) h62) fun v63 h63 =>
b2 (gOp v48 false ((ixA Tryd.prog 22 v59 v63).bind fun v => some (v, h63)) h63) fun v64 h64 =>
b2 (gOp v48 false ((ld Tryd.prog 70 h64 v64).bind fun v => some (v, h64)) h64) fun v65 h65 =>
b2 (gOp v48 false ((cv Tryd.prog 70 62 v65).bind fun v => some (v, h64)) h64) fun v66 h66 =>
b2 (gOp v48 false ((bin Tryd.prog .or 62 v58 v66).bind fun v => some (v, h66)) h66) fun v67 h67 =>
b2 (gOp v48 false ((bin Tryd.prog .gtr 62 v56 v67).bind fun v => some (v, h67)) h67) fun v68 h68 =>
(pickV v48 (.bool true) v68).bind fun v69 =>
aIf v69
 ((bin Tryd.prog .sub 62 s14 (.int .u64 1)).bind fun v70 =>
 (bin Tryd.prog .sub 3 s8 (.int .i64 1)).bind fun v71 =>
 (ixA Tryd.prog 22 s1 v71).bind fun v72 =>
 (ld Tryd.prog 70 h68 v72).bind fun v73 =>
 (cv Tryd.prog 70 62 v73).bind fun v74 =>
 (bin Tryd.prog .add 62 s15 v74).bind fun v75 =>
 (bin Tryd.prog .geq 62 v75 (.int .u64 4294967296)).bind fun v76 =>
 aIf v76
  (some ((.exit 2), (f75_X_L1 s1 s4 s7 s8 s9 s12 v70), h68))
  (f75_L1 k s1 s4 s7 s8 s9 s12 v70 v75 n h68))
 (some ((.exit 2), (f75_X_L1 s1 s4 s7 s8 s9 s12 s14), h68)) := by kernel_rfl
theorem f75_A1_x2 (k : Nat) (n : Nat) (s1 s4 s7 s8 s9 s12 s14 : Value) (H : AH) : f75_A1 k n (.exit 2) (f75_X_L1 s1 s4 s7 s8 s9 s12 s14) H =
(bin Tryd.prog .add 3 s12 s8).bind fun v77 =>
(bin Tryd.prog .add 3 v77 (.int .i64 1)).bind fun v78 =>
(slc Tryd.prog 22 s9 (some s12) (some v78)).bind fun v79 =>
b2 (rn k 90 [v79, s1, s14] H) fun v80 h80 =>
aIf v80
 ((bin Tryd.prog .sub 62 s14 (.int .u64 1)).bind fun v81 =>
 (bin Tryd.prog .add 3 s12 s8).bind fun v82 =>
 (bin Tryd.prog .add 3 v82 (.int .i64 1)).bind fun v83 =>
 (slc Tryd.prog 22 s9 (some s12) (some v83)).bind fun v84 =>
 b2 (rn k 91 [v84, s1] h80) fun v85 h85 =>
 f75_J0 k n s1 s4 s7 s8 s9 s12 v81 h85)
 (f75_J0 k n s1 s4 s7 s8 s9 s12 s14 h80) := by kernel_rfl
theorem f75_J0_eq (k : Nat) (n : Nat) (s1 s4 s7 s8 s9 s12 s14 : Value) (H : AH) : f75_J0 k n s1 s4 s7 s8 s9 s12 s14 H =
(cv Tryd.prog 62 70 s14).bind fun v86 =>
(ixA Tryd.prog 22 s4 s12).bind fun v87 =>
(st Tryd.prog 70 H v87 v86).bind fun h88 =>
(bin Tryd.prog .sub 3 s12 (.int .i64 1)).bind fun v89 =>
f75_L0 k s1 s4 s7 s8 s9 v89 n h88 := by kernel_rfl
theorem f75_eq (k : Nat) (a0 a1 : Value) (H : AH) : rn (k + 1) 75 [a0, a1] H =
(lenV Tryd.prog 22 a1).bind fun v1 =>
(bin Tryd.prog .sub 3 v1 (.int .i64 1)).bind fun v2 =>
(ixA Tryd.prog 22 a1 v2).bind fun v3 =>
(ld Tryd.prog 70 H v3).bind fun v4 =>
b2 (rn k 89 [v4] H) fun v5 h5 =>
b2 (rn k 54 [a1, v5] h5) fun v6 h6 =>
(ext v6 0).bind fun v7 =>
(ext v6 1).bind fun v8 =>
(lenV Tryd.prog 22 v7).bind fun v9 =>
(lenV Tryd.prog 22 a0).bind fun v10 =>
(bin Tryd.prog .add 3 v10 (.int .i64 1)).bind fun v11 =>
b2 (mkS Tryd.prog 22 h6 v11 v11) fun v12 h12 =>
b2 (rn k 54 [a0, v5] h12) fun v13 h13 =>
(ext v13 0).bind fun v14 =>
(ext v13 1).bind fun v15 =>
b2 (cpy Tryd.prog 22 h13 v12 v14) fun v16 h16 =>
(lenV Tryd.prog 22 a0).bind fun v17 =>
(bin Tryd.prog .sub 3 v17 v9).bind fun v18 =>
(bin Tryd.prog .add 3 v18 (.int .i64 1)).bind fun v19 =>
b2 (mkS Tryd.prog 22 h16 v19 v19) fun v20 h20 =>
(lenV Tryd.prog 22 a0).bind fun v21 =>
(bin Tryd.prog .sub 3 v21 v9).bind fun v22 =>
(f75_L0 k v7 v20 v5 v9 v12 v22 k h20).bind fun p => f75_A0 k p.1 p.2.1 p.2.2 := by kernel_rfl
theorem f80_eq (k : Nat) (a0 : Value) (H : AH) : rn (k + 1) 80 [a0] H =
(bin Tryd.prog .eql 22 a0 (.slice none 0 0)).bind fun v1 =>
aIf v1
 (some ((.slice none 0 0), H))
 (b2 (buildS Tryd.prog 22 H 0 []) fun v2 h2 =>
 b2 (ap Tryd.prog 22 22 h2 v2 a0) fun v3 h3 =>
 some (v3, h3)) := by kernel_rfl
abbrev f81_T_L0 (s0 s1 : Value) : List Value := [s0, s1, unk, unk, unk, unk, unk, unk, unk, unk, unk, unk, unk, unk, unk, unk, unk]
abbrev f81_X_L0 (s0 : Value) : List Value := [s0, unk, unk, unk, unk, unk, unk, unk, unk, unk, unk, unk, unk, unk, unk, unk, unk]
@[irreducible] def f81_L0 (k : Nat) (s0 s1 : Value) (n : Nat) (H : AH) : Option Out := iterD (fun T H K => evalK Tryd.prog (rn k) k (tbs 81) (codeAt (bodyOf Tryd.f81) [1, 0, 0, 0]) T H K) (cutT (tbs 81) 4) (cutT (tbs 81) 5) n (f81_T_L0 s0 s1) H
@[irreducible] def f81_A0 (k : Nat) (e : EX) (T : List Value) (H : AH) : Option (Value × AH) := resume Tryd.prog (rn k) k (tbs 81) (bodyOf Tryd.f81) [1, 0, 0] e T H (resK Tryd.prog Tryd.f81.results.toList)
theorem f81_L0_succ (k : Nat) (s0 s1 : Value) (n : Nat) (H : AH) : f81_L0 k s0 s1 (n + 1) H =
(lenV Tryd.prog 9 s0).bind fun v1 =>
(bin Tryd.prog .gtr 3 v1 (.int .i64 0)).bind fun v2 =>
b2 (gOp v2 true (some (s0, H)) H) fun v3 h3 =>
b2 (gOp v2 true ((ix Tryd.prog 9 v3 (.int .i64 0)).bind fun v => some (v, h3)) h3) fun v4 h4 =>
b2 (gOp v2 true (some (s1, h4)) h4) fun v5 h5 =>
b2 (gOp v2 true ((bin Tryd.prog .eql 5 v4 v5).bind fun v => some (v, h5)) h5) fun v6 h6 =>
(pickV v2 v6 (.bool false)).bind fun v7 =>
aIf v7
 ((slc Tryd.prog 9 s0 (some (.int .i64 1)) none).bind fun v8 =>
 f81_L0 k v8 s1 n h6)
 (some ((.exit 0), (f81_X_L0 s0), h6)) := by kernel_rfl
theorem f81_A0_x0 (k : Nat) (s0 : Value) (H : AH) : f81_A0 k (.exit 0) (f81_X_L0 s0) H =
some (s0, H) := by kernel_rfl
theorem f81_eq (k : Nat) (a0 a1 : Value) (H : AH) : rn (k + 1) 81 [a0, a1] H =
(f81_L0 k a0 a1 k H).bind fun p => f81_A0 k p.1 p.2.1 p.2.2 := by kernel_rfl
theorem f86_eq (k : Nat) (a0 a1 : Value) (H : AH) : rn (k + 1) 86 [a0, a1] H =
b2 (rn k 95 [a0] H) fun v1 h1 =>
(nilChk a0).bind fun v2 =>
(fldA Tryd.prog 100 v2 1).bind fun v3 =>
(ld Tryd.prog 76 h1 v3).bind fun v4 =>
b2 (ap Tryd.prog 76 9 h1 v4 a1) fun v5 h5 =>
(nilChk a0).bind fun v6 =>
(fldA Tryd.prog 100 v6 1).bind fun v7 =>
(st Tryd.prog 76 h5 v7 v5).bind fun h8 =>
(lenV Tryd.prog 9 a1).bind fun v9 =>
some ((.tuple #[v9, .nilIface]), h8) := by kernel_rfl
theorem f87_eq (k : Nat) (a0 : Value) (H : AH) : rn (k + 1) 87 [a0] H =
(nilChk a0).bind fun v1 =>
(fldA Tryd.prog 100 v1 1).bind fun v2 =>
(ld Tryd.prog 76 H v2).bind fun v3 =>
(sdV v3).bind fun v4 =>
(nilChk a0).bind fun v5 =>
(fldA Tryd.prog 100 v5 1).bind fun v6 =>
(ld Tryd.prog 76 H v6).bind fun v7 =>
(lenV Tryd.prog 76 v7).bind fun v8 =>
b2 (usV Tryd.prog 114 H v4 v8) fun v9 h9 =>
some (v9, h9) := by kernel_rfl
end
end Go.AM.Z
set_option linter.unusedVariables false
set_option maxRecDepth 100000
namespace Go.AM.Z
open Go Go.AM Go.Proofs
noncomputable section
abbrev f88_T_J0 (s0 s1 s2 : Value) : List Value := [s0, s1, s2, unk, unk, unk, unk, unk, unk, unk, unk, unk, unk, unk, unk, unk, unk, unk, unk, unk, unk, unk, unk, unk, unk, unk, unk, unk, unk, unk, unk, unk, unk]
@[irreducible] def f88_J0 (k : Nat) (s0 s1 s2 : Value) (H : AH) : Option (Value × AH) := resume Tryd.prog (rn k) k (tbs 88) (bodyOf Tryd.f88) [1, 0] .normal (f88_T_J0 s0 s1 s2) H (resK Tryd.prog Tryd.f88.results.toList)
theorem f88_J0_eq (k : Nat) (s0 s1 s2 : Value) (H : AH) : f88_J0 k s0 s1 s2 H =
(cv Tryd.prog 70 62 s0).bind fun v7 =>
(bin Tryd.prog .shl 62 v7 (.int .u64 32)).bind fun v8 =>
(cv Tryd.prog 70 62 s1).bind fun v9 =>
(bin Tryd.prog .or 62 v8 v9).bind fun v10 =>
(cv Tryd.prog 70 62 s2).bind fun v11 =>
(bin Tryd.prog .quo 62 v10 v11).bind fun v12 =>
(cv Tryd.prog 62 70 v12).bind fun v13 =>
(cv Tryd.prog 70 62 s2).bind fun v14 =>
(bin Tryd.prog .rem 62 v10 v14).bind fun v15 =>
(cv Tryd.prog 62 70 v15).bind fun v16 =>
some ((.tuple #[v13, v16]), H) := by kernel_rfl
theorem f88_eq (k : Nat) (a0 a1 a2 : Value) (H : AH) : rn (k + 1) 88 [a0, a1, a2] H =
(bin Tryd.prog .neq 70 a2 (.int .u32 0)).bind fun v1 =>
b2 (gOp v1 true (some (a2, H)) H) fun v2 h2 =>
b2 (gOp v1 true (some (a0, h2)) h2) fun v3 h3 =>
b2 (gOp v1 true ((bin Tryd.prog .leq 70 v2 v3).bind fun v => some (v, h3)) h3) fun v4 h4 =>
(pickV v1 v4 (.bool false)).bind fun v5 =>
aIf v5
 (none)
 (f88_J0 k a0 a1 a2 h4) := by kernel_rfl
theorem f89_eq (k : Nat) (a0 : Value) (H : AH) : rn (k + 1) 89 [a0] H =
b2 (rn k 97 [a0] H) fun v1 h1 =>
(bin Tryd.prog .sub 3 (.int .i64 32) v1).bind fun v2 =>
some (v2, h1) := by kernel_rfl
abbrev f90_T_L0 (s0 s1 s2 s7 s8 s12 s13 s14 : Value) : List Value := [s0, s1, s2, unk, unk, unk, unk, s7, s8, unk, unk, unk, s12, s13, s14, unk, unk, unk, unk, unk, unk, unk, unk, unk, unk, unk, unk, unk, unk, unk, unk, unk, unk, unk, unk, unk, unk, unk, unk, unk, unk, unk, unk, unk, unk, unk, unk, unk, unk, unk, unk, unk, unk, unk, unk, unk, unk, unk, unk, unk]
abbrev f90_X_L0 (s0 s1 s7 s8 : Value) : List Value := [s0, s1, unk, unk, unk, unk, unk, s7, s8, unk, unk, unk, unk, unk, unk, unk, unk, unk, unk, unk, unk, unk, unk, unk, unk, unk, unk, unk, unk, unk, unk, unk, unk, unk, unk, unk, unk, unk, unk, unk, unk, unk, unk, unk, unk, unk, unk, unk, unk, unk, unk, unk, unk, unk, unk, unk, unk, unk, unk, unk]
@[irreducible] def f90_L0 (k : Nat) (s0 s1 s2 s7 s8 s12 s13 s14 : Value) (n : Nat) (H : AH) : Option Out := iterD (fun T H K => evalK Tryd.prog (rn k) k (tbs 90) (codeAt (bodyOf Tryd.f90) [1, 1, 1, 0, 1, 0, 0]) T H K) (cutT (tbs 90) 13) (cutT (tbs 90) 14) n (f90_T_L0 s0 s1 s2 s7 s8 s12 s13 s14) H
@[irreducible] def f90_A0 (k : Nat) (e : EX) (T : List Value) (H : AH) : Option (Value × AH) := resume Tryd.prog (rn k) k (tbs 90) (bodyOf Tryd.f90) [1, 1, 1, 0, 1, 0] e T H (resK Tryd.prog Tryd.f90.results.toList)
theorem f90_L0_succ (k : Nat) (s0 s1 s2 s7 s8 s12 s13 s14 : Value) (n : Nat) (H : AH) : f90_L0 k s0 s1 s2 s7 s8 s12 s13 s14 (n + 1) H =
(bin Tryd.prog .lss 3 s14 s13).bind fun v2 =>
aIf v2
 ((ixA Tryd.prog 22 s12 s14).bind fun v3 =>
 (ld Tryd.prog 70 H v3).bind fun v4 =>
 (cv Tryd.prog 70 62 v4).bind fun v5 =>
 (bin Tryd.prog .mul 62 v5 s2).bind fun v6 =>
 (bin Tryd.prog .add 62 v6 s7).bind fun v7 =>
 (bin Tryd.prog .shr 62 v7 (.int .u64 32)).bind fun v8 =>
 (ixA Tryd.prog 22 s0 s14).bind fun v9 =>
 (ld Tryd.prog 70 H v9).bind fun v10 =>
 (cv Tryd.prog 62 70 v7).bind fun v11 =>
 b2 (rn k 73 [v10, v11, s8] H) fun v12 h12 =>
 (ext v12 0).bind fun v13 =>
 (ext v12 1).bind fun v14 =>
 (ixA Tryd.prog 22 s0 s14).bind fun v15 =>
 (st Tryd.prog 70 h12 v15 v13).bind fun h16 =>
 (bin Tryd.prog .add 3 s14 (.int .i64 1)).bind fun v17 =>
 f90_L0 k s0 s1 s2 v8 v14 s12 s13 v17 n h16)
 (some ((.exit 0), (f90_X_L0 s0 s1 s7 s8), H)) := by kernel_rfl
theorem f90_A0_x0 (k : Nat) (s0 s1 s7 s8 : Value) (H : AH) : f90_A0 k (.exit 0) (f90_X_L0 s0 s1 s7 s8) H =
(lenV Tryd.prog 22 s1).bind fun v18 =>
(lenV Tryd.prog 22 s1).bind fun v19 =>
(ixA Tryd.prog 22 s0 v19).bind fun v20 =>
(ld Tryd.prog 70 H v20).bind fun v21 =>
(cv Tryd.prog 62 70 s7).bind fun v22 =>
b2 (rn k 73 [v21, v22, s8] H) fun v23 h23 =>
(ext v23 0).bind fun v24 =>
(ext v23 1).bind fun v25 =>
(ixA Tryd.prog 22 s0 v18).bind fun v26 =>
(st Tryd.prog 70 h23 v26 v24).bind fun h27 =>
(bin Tryd.prog .gtr 70 v25 (.int .u32 0)).bind fun v28 =>
some (v28, h27) := by kernel_rfl
theorem f90_eq (k : Nat) (a0 a1 a2 : Value) (H : AH) : rn (k + 1) 90 [a0, a1, a2] H =
(lenV Tryd.prog 22 a1).bind fun v1 =>
(f90_L0 k a0 a1 a2 (.int .u64 0) (.int .u32 0) a1 v1 (.int .i64 0) k H).bind fun p => f90_A0 k p.1 p.2.1 p.2.2 := by kernel_rfl
abbrev f91_T_L0 (s0 s1 s4 s7 s8 s9 : Value) : List Value := [s0, s1, unk, unk, s4, unk, unk, s7, s8, s9, unk, unk, unk, unk, unk, unk, unk, unk, unk, unk, unk, unk, unk, unk, unk, unk, unk, unk, unk, unk, unk, unk, unk, unk, unk, unk]
abbrev f91_X_L0 (s0 s1 s4 : Value) : List Value := [s0, s1, unk, unk, s4, unk, unk, unk, unk, unk, unk, unk, unk, unk, unk, unk, unk, unk, unk, unk, unk, unk, unk, unk, unk, unk, unk, unk, unk, unk, unk, unk, unk, unk, unk, unk]
@[irreducible] def f91_L0 (k : Nat) (s0 s1 s4 s7 s8 s9 : Value) (n : Nat) (H : AH) : Option Out := iterD (fun T H K => evalK Tryd.prog (rn k) k (tbs 91) (codeAt (bodyOf Tryd.f91) [1, 0, 1, 0, 0]) T H K) (cutT (tbs 91) 7) (cutT (tbs 91) 8) n (f91_T_L0 s0 s1 s4 s7 s8 s9) H
@[irreducible] def f91_A0 (k : Nat) (e : EX) (T : List Value) (H : AH) : Option (Value × AH) := resume Tryd.prog (rn k) k (tbs 91) (bodyOf Tryd.f91) [1, 0, 1, 0] e T H (resK Tryd.prog Tryd.f91.results.toList)
theorem f91_L0_succ (k : Nat) (s0 s1 s4 s7 s8 s9 : Value) (n : Nat) (H : AH) : f91_L0 k s0 s1 s4 s7 s8 s9 (n + 1) H =
(bin Tryd.prog .lss 3 s9 s8).bind fun v2 =>
aIf v2
 ((ixA Tryd.prog 22 s7 s9).bind fun v3 =>
 (ld Tryd.prog 70 H v3).bind fun v4 =>
 (ixA Tryd.prog 22 s0 s9).bind fun v5 =>
 (ld Tryd.prog 70 H v5).bind fun v6 =>
 b2 (rn k 72 [v6, v4, s4] H) fun v7 h7 =>
 (ext v7 0).bind fun v8 =>
 (ext v7 1).bind fun v9 =>
 (ixA Tryd.prog 22 s0 s9).bind fun v10 =>
 (st Tryd.prog 70 h7 v10 v8).bind fun h11 =>
 (bin Tryd.prog .add 3 s9 (.int .i64 1)).bind fun v12 =>
 f91_L0 k s0 s1 v9 s7 s8 v12 n h11)
 (some ((.exit 0), (f91_X_L0 s0 s1 s4), H)) := by kernel_rfl
theorem f91_A0_x0 (k : Nat) (s0 s1 s4 : Value) (H : AH) : f91_A0 k (.exit 0) (f91_X_L0 s0 s1 s4) H =
(lenV Tryd.prog 22 s1).bind fun v13 =>
(ixA Tryd.prog 22 s0 v13).bind fun v14 =>
(ld Tryd.prog 70 H v14).bind fun v15 =>
(bin Tryd.prog .add 70 v15 s4).bind fun v16 =>
(ixA Tryd.prog 22 s0 v13).bind fun v17 =>
(st Tryd.prog 70 H v17 v16).bind fun h18 =>
some ((.tuple #[]), h18) := by kernel_rfl
theorem f91_eq (k : Nat) (a0 a1 : Value) (H : AH) : rn (k + 1) 91 [a0, a1] H =
(lenV Tryd.prog 22 a1).bind fun v1 =>
(f91_L0 k a0 a1 (.int .u32 0) a1 v1 (.int .i64 0) k H).bind fun p => f91_A0 k p.1 p.2.1 p.2.2 := by kernel_rfl
abbrev f97_T_J0 (s0 s2 : Value) : List Value := [s0, unk, s2, unk, unk, unk, unk, unk, unk, unk, unk, unk, unk, unk, unk, unk, unk, unk, unk]
abbrev f97_T_J1 (s0 s2 : Value) : List Value := [s0, unk, s2, unk, unk, unk, unk, unk, unk, unk, unk, unk, unk, unk, unk, unk, unk, unk, unk]
@[irreducible] def f97_J0 (k : Nat) (s0 s2 : Value) (H : AH) : Option (Value × AH) := resume Tryd.prog (rn k) k (tbs 97) (bodyOf Tryd.f97) [1, 0] .normal (f97_T_J0 s0 s2) H (resK Tryd.prog Tryd.f97.results.toList)
@[irreducible] def f97_J1 (k : Nat) (s0 s2 : Value) (H : AH) : Option (Value × AH) := resume Tryd.prog (rn k) k (tbs 97) (bodyOf Tryd.f97) [1, 1, 0] .normal (f97_T_J1 s0 s2) H (resK Tryd.prog Tryd.f97.results.toList)
theorem f97_J0_eq (k : Nat) (s0 s2 : Value) (H : AH) : f97_J0 k s0 s2 H =
(bin Tryd.prog .geq 70 s0 (.int .u32 256)).bind fun v3 =>
aIf v3
 ((bin Tryd.prog .shr 70 s0 (.int .u64 8)).bind fun v4 =>
 (bin Tryd.prog .add 3 s2 (.int .i64 8)).bind fun v5 =>
 f97_J1 k v4 v5 H)
 (f97_J1 k s0 s2 H) := by kernel_rfl
theorem f97_J1_eq (k : Nat) (s0 s2 : Value) (H : AH) : f97_J1 k s0 s2 H =
(cv Tryd.prog 70 5 s0).bind fun v6 =>
(ix Tryd.prog 9 (.string long0) v6).bind fun v7 =>
(cv Tryd.prog 5 3 v7).bind fun v8 =>
(bin Tryd.prog .add 3 s2 v8).bind fun v9 =>
some (v9, H) := by kernel_rfl
theorem f97_eq (k : Nat) (a0 : Value) (H : AH) : rn (k + 1) 97 [a0] H =
(bin Tryd.prog .geq 70 a0 (.int .u32 65536)).bind fun v1 =>
aIf v1
 ((bin Tryd.prog .shr 70 a0 (.int .u64 16)).bind fun v2 =>
 f97_J0 k v2 (.int .i64 16) H)
 (f97_J0 k a0 (.int .i64 0) H) := by kernel_rfl
end
end Go.AM.Z
set_option linter.unusedVariables false
set_option linter.unusedSimpArgs false
namespace Go.AM
variable {α β R : Type} {P : Program}


def Ev (g : Nat → Nat → Option α) (Q : α → Prop) : Prop := ∃ r, Q r ∧ ∃ N, ∀ k n, N ≤ k → N ≤ n → g k n = some r

theorem Ev.ret {Q : α → Prop} {r : α} (h : Q r) : Ev (fun _ _ => some r) Q := ⟨r, h, 0, fun _ _ _ _ => rfl⟩
theorem Ev.mono {g : Nat → Nat → Option α} {Q Q' : α → Prop} (h : Ev g Q) (hq : ∀ r, Q r → Q' r) : Ev g Q' :=
  h.elim fun r hr => ⟨r, hq r hr.1, hr.2⟩
theorem Ev.eq {g h : Nat → Nat → Option α} {Q : α → Prop} (e : ∀ k n, g k n = h k n) (hh : Ev h Q) : Ev g Q := by
  obtain ⟨r, hr, N, hN⟩ := hh
  exact ⟨r, hr, N, fun k n a b => (e k n).trans (hN k n a b)⟩
theorem Ev.bind {g : Nat → Nat → Option α} {f : Nat → Nat → α → Option β} {Q1 : α → Prop} {Q : β → Prop} (h1 : Ev g Q1) (h2 : ∀ r, Q1 r → Ev (fun k n => f k n r) Q) :
    Ev (fun k n => (g k n).bind (f k n)) Q := by
  obtain ⟨r, hr, N, hN⟩ := h1
  obtain ⟨s, hs, M, hM⟩ := h2 r hr
  refine ⟨s, hs, max N M, fun k n a b => ?_⟩
  show (g k n).bind (f k n) = some s
  rw [hN k n (by omega) (by omega)]
  exact hM k n (by omega) (by omega)
theorem Ev.prim {E : Option α} {a : α} {f : Nat → Nat → α → Option β} {Q : β → Prop} (h : E = some a) (h2 : Ev (fun k n => f k n a) Q) : Ev (fun k n => E.bind (f k n)) Q :=
  Ev.eq (fun _ _ => by rw [h]; rfl) h2
theorem Ev.assoc {g : Nat → Nat → Option α} {f : Nat → Nat → α → Option β} {f2 : Nat → Nat → β → Option R} {Q : R → Prop} (h : Ev (fun k n => (g k n).bind fun x => (f k n x).bind (f2 k n)) Q) :
    Ev (fun k n => ((g k n).bind (f k n)).bind (f2 k n)) Q := Ev.eq (fun _ _ => Option.bind_assoc ..) h
theorem Ev.b2 {g : Nat → Nat → Option (Value × AH)} {f : Nat → Nat → Value → AH → Option R} {Q1 : Value × AH → Prop} {Q : R → Prop} (h1 : Ev g Q1) (h2 : ∀ v H, Q1 (v, H) → Ev (fun k n => f k n v H) Q) :
    Ev (fun k n => Go.AM.b2 (g k n) (f k n)) Q := Ev.bind h1 fun r hr => h2 r.1 r.2 hr
theorem Ev.prim2 {E : Option (Value × AH)} {v : Value} {H : AH} {f : Nat → Nat → Value → AH → Option R} {Q : R → Prop} (h : E = some (v, H)) (h2 : Ev (fun k n => f k n v H) Q) :
    Ev (fun k n => Go.AM.b2 E (f k n)) Q := Ev.eq (fun _ _ => by rw [h]; rfl) h2
theorem Ev.tt {x y : Nat → Nat → Option α} {Q : α → Prop} (h : Ev x Q) : Ev (fun k n => aIf (.bool true) (x k n) (y k n)) Q := h
theorem Ev.ff {x y : Nat → Nat → Option α} {Q : α → Prop} (h : Ev y Q) : Ev (fun k n => aIf (.bool false) (x k n) (y k n)) Q := h
theorem Ev.ifb {x y : Nat → Nat → Option α} {Q : α → Prop} {b : Bool} (h1 : b = true → Ev x Q) (h2 : b = false → Ev y Q) : Ev (fun k n => aIf (.bool b) (x k n) (y k n)) Q := by
  cases b
  · exact h2 rfl
  · exact h1 rfl
theorem Ev.ifp {x y : Nat → Nat → Option α} {Q : α → Prop} {p : Prop} {_ : Decidable p} (h1 : p → Ev x Q) (h2 : ¬ p → Ev y Q) : Ev (fun k n => aIf (.bool (decide p)) (x k n) (y k n)) Q :=
  Ev.ifb (fun h => h1 (of_decide_eq_true h)) (fun h => h2 (of_decide_eq_false h))
theorem Ev.chk {x : Nat → Nat → Option α} {Q : α → Prop} {p : Prop} (hp : p) (h : Ev x Q) : Ev (fun k n => aChk p (x k n)) Q :=
  Ev.eq (fun _ _ => by unfold aChk; exact if_pos hp) h
/-- A guarded operation that is done. -/
theorem Ev.gDo {w : Bool} {E : Nat → Nat → Option (Value × AH)} {H : AH} {f : Nat → Nat → Value → AH → Option R} {Q : R → Prop} (h : Ev (fun k n => Go.AM.b2 (E k n) (f k n)) Q) :
    Ev (fun k n => Go.AM.b2 (gOp (.bool w) w (E k n) H) (f k n)) Q := Ev.eq (fun _ _ => by unfold gOp; simp) h
theorem Ev.gSkip {w : Bool} {E : Nat → Nat → Option (Value × AH)} {H : AH} {f : Nat → Nat → Value → AH → Option R} {Q : R → Prop} (h : Ev (fun k n => f k n undef H) Q) :
    Ev (fun k n => Go.AM.b2 (gOp (.bool w) (!w) (E k n) H) (f k n)) Q := Ev.eq (fun _ _ => by unfold gOp; cases w <;> simp [Go.AM.b2]) h
theorem Ev.gSkipT {E : Nat → Nat → Option (Value × AH)} {H : AH} {f : Nat → Nat → Value → AH → Option R} {Q : R → Prop} (h : Ev (fun k n => f k n undef H) Q) :
    Ev (fun k n => Go.AM.b2 (gOp (.bool false) true (E k n) H) (f k n)) Q := Ev.gSkip (w := false) h
theorem Ev.gSkipF {E : Nat → Nat → Option (Value × AH)} {H : AH} {f : Nat → Nat → Value → AH → Option R} {Q : R → Prop} (h : Ev (fun k n => f k n undef H) Q) :
    Ev (fun k n => Go.AM.b2 (gOp (.bool true) false (E k n) H) (f k n)) Q := Ev.gSkip (w := true) h
theorem Ev.gUndef {w : Bool} {E : Nat → Nat → Option (Value × AH)} {H : AH} {f : Nat → Nat → Value → AH → Option R} {Q : R → Prop} (h : Ev (fun k n => f k n undef H) Q) :
    Ev (fun k n => Go.AM.b2 (gOp undef w (E k n) H) (f k n)) Q := Ev.eq (fun _ _ => by unfold gOp undef; simp [Go.AM.b2]) h
/-- What lies under a guard: 'E.bind fun v => some (v, H)'. -/
theorem Ev.gPrim {E : Option α} {a : α} {g : α → Option (Value × AH)} {v : Value} {H : AH} {f : Nat → Nat → Value → AH → Option R} {Q : R → Prop} (h : E = some a) (hg : g a = some (v, H)) (h2 : Ev (fun k n => f k n v H) Q) :
    Ev (fun k n => Go.AM.b2 (E.bind g) (f k n)) Q := Ev.prim2 (by rw [h]; exact hg) h2
theorem Ev.gCall {g : Nat → Nat → Option (Value × AH)} {f : Nat → Nat → Value → AH → Option R} {Q : R → Prop} (h : Ev (fun k n => Go.AM.b2 (g k n) (f k n)) Q) :
    Ev (fun k n => Go.AM.b2 (Go.AM.b2 (g k n) fun v H => some (v, H)) (f k n)) Q := Ev.eq (fun k n => by
      show Option.bind (Option.bind (g k n) _) _ = Option.bind (g k n) _
      rw [Option.bind_assoc]; rfl) h
/-- A loop has as much fuel as its function. -/
theorem Ev.loop {L : Nat → Nat → Option α} {Q : α → Prop} (h : Ev L Q) : Ev (fun k _ => L k k) Q := by
  obtain ⟨r, hr, N, hN⟩ := h
  exact ⟨r, hr, N, fun k n a _ => hN k k a a⟩
theorem Ev.succ {L T : Nat → Nat → Option α} {Q : α → Prop} (e : ∀ k n, L k (n + 1) = T k n) (h : Ev T Q) : Ev L Q := by
  obtain ⟨r, hr, N, hN⟩ := h
  refine ⟨r, hr, N + 1, fun k n a b => ?_⟩
  obtain ⟨m, rfl⟩ : ∃ m, n = m + 1 := ⟨n - 1, by omega⟩
  exact (e k m).trans (hN k m (by omega) (by omega))
theorem Ev.fn {F T : Nat → Option α} {Q : α → Prop} (e : ∀ k, F (k + 1) = T k) (h : Ev (fun k _ => T k) Q) : Ev (fun k _ => F k) Q := by
  obtain ⟨r, hr, N, hN⟩ := h
  refine ⟨r, hr, N + 1, fun k n a b => ?_⟩
  obtain ⟨m, rfl⟩ : ∃ m, k = m + 1 := ⟨k - 1, by omega⟩
  exact (e m).trans (hN m n (by omega) (by omega))

theorem blk_lt {H : AH} {b : Nat} {K : Blk} (h : blk H b = some K) : b < H.length := by
  unfold blk at h
  cases hh : H[b]? with
  | none => rw [hh] at h; exact absurd h (by simp)
  | some x => exact (List.getElem?_eq_some_iff.mp hh).1
theorem blk_mkB_old {H : AH} {cs e kd} {b : Nat} (h : b < H.length) : blk (mkB H cs e kd) b = blk H b := by
  unfold blk mkB; rw [List.getElem?_append_left h]
theorem blk_mkB_new {H : AH} {cs e kd} : blk (mkB H cs e kd) H.length = some ⟨cs, e, kd⟩ := by
  unfold blk mkB; simp
theorem blk_put {H : AH} {b c : Nat} {k : Blk} {cs} (hb : b < H.length) : blk (put H b k cs) c = if c = b then some ⟨cs, k.elem, k.kind⟩ else blk H c := by
  unfold blk put
  by_cases h : c = b
  · subst h; rw [List.getElem?_set_self hb, if_pos rfl]; rfl
  · rw [List.getElem?_set_ne (fun e => h e.symm), if_neg h]
theorem blk_kill {H : AH} {b c : Nat} (hb : b < H.length) : blk (kill H b) c = if c = b then none else blk H c := by
  unfold blk kill
  by_cases h : c = b
  · subst h; rw [List.getElem?_set_self hb, if_pos rfl]; rfl
  · rw [List.getElem?_set_ne (fun e => h e.symm), if_neg h]
theorem length_put {H : AH} {b k cs} : (put H b k cs).length = H.length := by unfold put; simp
theorem length_kill {H : AH} {b} : (kill H b).length = H.length := by unfold kill; simp
theorem length_mkB {H : AH} {cs e kd} : (mkB H cs e kd).length = H.length + 1 := by unfold mkB; simp

/-- More is there; what was there, or was not, is as it was. -/
structure Fr (H H' : AH) : Prop where
  len : H.length ≤ H'.length
  same : ∀ b, b < H.length → blk H' b = blk H b
/-- What was there is as it was. -/
def Mo (B B' : AH) : Prop := ∀ b K, blk B b = some K → blk B' b = some K
structure Le (B H : AH) : Prop where
  le : Mo B H
theorem Fr.refl (H : AH) : Fr H H := ⟨Nat.le_refl _, fun _ _ => rfl⟩
theorem Fr.trans {A B C : AH} (h1 : Fr A B) (h2 : Fr B C) : Fr A C := ⟨Nat.le_trans h1.len h2.len, fun b hb => (h2.same b (Nat.lt_of_lt_of_le hb h1.len)).trans (h1.same b hb)⟩
theorem Fr.mo {A B : AH} (h : Fr A B) : Mo A B := fun b K hb => (h.same b (blk_lt hb)).trans hb
theorem Mo.refl (B : AH) : Mo B B := fun _ _ h => h
theorem Mo.trans {A B C : AH} (h1 : Mo A B) (h2 : Mo B C) : Mo A C := fun b K h => h2 b K (h1 b K h)

/-- H0, B0: what it was at first. B: what nobody changes any more. L: ours. -/
class St (H0 B0 B : outParam AH) (L : outParam (List (Nat × Blk))) (H : AH) : Prop where
  le : Mo B H
  own : ∀ p, p ∈ L → blk H p.1 = some p.2 ∧ blk B p.1 = none ∧ H0.length ≤ p.1
  nd : (L.map Prod.fst).Nodup
  frH : Fr H0 H
  frB : ∀ b, b < H0.length → blk B b = blk B0 b

/-- How a function's answer stands to what it was at first. -/
def An (B H : AH) (Post : AH → Value → Prop) (r : Value × AH) : Prop := ∃ B', (∀ b, b < H.length → blk B' b = blk B b) ∧ Le B' r.2 ∧ Fr H r.2 ∧ Post B' r.1

theorem St.start {B H : AH} (h : Le B H) : St H B B [] H :=
  ⟨h.le, fun _ h => absurd h (List.not_mem_nil), List.nodup_nil, Fr.refl _, fun _ _ => rfl⟩
theorem St.lel {H0 B0 B L H} (h : St H0 B0 B L H) : Le B H := ⟨h.le⟩
theorem St.get {H0 B0 B L H} {b : Nat} {K : Blk} (h : St H0 B0 B L H) (hm : (b, K) ∈ L) : blk H b = some K := (h.own _ hm).1
theorem St.drop {H0 B0 B L L' H} (h : St H0 B0 B L H) (hs : L'.Sublist L) : St H0 B0 B L' H :=
  ⟨h.le, fun p hp => h.own p (hs.subset hp), (hs.map _).nodup h.nd, h.frH, h.frB⟩
theorem St.perm {H0 B0 B L L' H} (h : St H0 B0 B L H) (hs : L'.Perm L) : St H0 B0 B L' H :=
  ⟨h.le, fun p hp => h.own p (hs.subset hp), (hs.map _).nodup_iff.mpr h.nd, h.frH, h.frB⟩
theorem St.fresh {H0 B0 B L H} (h : St H0 B0 B L H) : blk B H.length = none := by
  cases hb : blk B H.length with
  | none => rfl
  | some K => exact absurd (blk_lt (h.le _ _ hb)) (Nat.lt_irrefl _)
theorem St.mkB' {H0 B0 B L H} (h : St H0 B0 B L H) (cs : List Value) (e : TypeId) (kd : BK) : St H0 B0 B ((H.length, ⟨cs, e, kd⟩) :: L) (mkB H cs e kd) := by
  refine ⟨fun b K hb => ?_, fun p hp => ?_, ?_, ⟨?_, fun b hb => ?_⟩, h.frB⟩
  · have := h.le b K hb
    rw [blk_mkB_old (blk_lt this)]; exact this
  · cases hp with
    | head => exact ⟨blk_mkB_new, h.fresh, h.frH.len⟩
    | tail _ hp =>
      have hh := h.own p hp
      exact ⟨by rw [blk_mkB_old (blk_lt hh.1)]; exact hh.1, hh.2.1, hh.2.2⟩
  · refine List.nodup_cons.mpr ⟨fun hm => ?_, h.nd⟩
    obtain ⟨p, hp, he⟩ := List.mem_map.mp hm
    have := blk_lt (h.own p hp).1
    have he : p.1 = H.length := he
    omega
  · rw [length_mkB]; have := h.frH.len; omega
  · rw [blk_mkB_old (by have := h.frH.len; omega)]; exact h.frH.same b hb
theorem St.mkB {H0 B0 B L H} (h : St H0 B0 B L H) (cs : List Value) (e : TypeId) (kd : BK) :
    ∃ B', Mo B B' ∧ St H0 B0 B' ((H.length, ⟨cs, e, kd⟩) :: L) (mkB H cs e kd) := ⟨B, Mo.refl B, h.mkB' cs e kd⟩

theorem mem_fst {p : Nat × Blk} {b : Nat} {L : List (Nat × Blk)} (h : p ∈ L) (e : p.1 = b) : b ∈ L.map Prod.fst := List.mem_map.mpr ⟨p, h, e⟩
/-- One of ours is another. -/
inductive Upd (b : Nat) (K K' : Blk) : List (Nat × Blk) → List (Nat × Blk) → Prop where
  | head (L) : Upd b K K' ((b, K) :: L) ((b, K') :: L)
  | tail (x) {L L'} (h : Upd b K K' L L') : Upd b K K' (x :: L) (x :: L')
theorem Upd.mem {b K K' L L'} (h : Upd b K K' L L') : (b, K) ∈ L := by
  induction h with
  | head => exact .head _
  | tail _ _ ih => exact .tail _ ih
theorem Upd.map {b K K' L L'} (h : Upd b K K' L L') : L'.map Prod.fst = L.map Prod.fst := by
  induction h with
  | head => rfl
  | tail x _ ih => simp [ih]
theorem Upd.inv {b K K' L L'} (h : Upd b K K' L L') (hn : (L.map Prod.fst).Nodup) : ∀ p, p ∈ L' → p = (b, K') ∨ (p ∈ L ∧ p.1 ≠ b) := by
  induction h with
  | head L =>
    intro p hp
    cases hp with
    | head => exact .inl rfl
    | tail _ hp => exact .inr ⟨.tail _ hp, fun e => (List.nodup_cons.mp hn).1 (mem_fst hp e)⟩
  | tail x hU ih =>
    intro p hp
    cases hp with
    | head => exact .inr ⟨.head _, fun e => (List.nodup_cons.mp hn).1 (mem_fst hU.mem e.symm)⟩
    | tail _ hp => exact (ih (List.nodup_cons.mp hn).2 p hp).imp id fun h => ⟨.tail _ h.1, h.2⟩
theorem St.put {H0 B0 B L L' H} {b : Nat} {K : Blk} {cs : List Value} (h : St H0 B0 B L H) (hu : Upd b K ⟨cs, K.elem, K.kind⟩ L L') : St H0 B0 B L' (put H b K cs) := by
  have hb := h.own _ hu.mem
  have hlt := blk_lt hb.1
  refine ⟨fun c K' hc => ?_, fun p hp => ?_, by rw [hu.map]; exact h.nd, ⟨by rw [length_put]; exact h.frH.len, fun c hc => ?_⟩, h.frB⟩
  · rw [blk_put hlt, if_neg]
    · exact h.le c K' hc
    · intro e; subst e; rw [hb.2.1] at hc; exact absurd hc (by simp)
  · rcases hu.inv h.nd p hp with rfl | ⟨hp', hne⟩
    · exact ⟨by rw [blk_put hlt, if_pos rfl], hb.2⟩
    · have := h.own p hp'
      exact ⟨by rw [blk_put hlt, if_neg hne]; exact this.1, this.2⟩
  · rw [blk_put hlt, if_neg (by have : H0.length ≤ b := hb.2.2; omega)]; exact h.frH.same c hc
theorem St.kill {H0 B0 B L H} {b : Nat} {K : Blk} (h : St H0 B0 B ((b, K) :: L) H) : St H0 B0 B L (kill H b) := by
  have hb := h.own _ (.head _)
  have hlt := blk_lt hb.1
  have hn := List.nodup_cons.mp h.nd
  refine ⟨fun c K' hc => ?_, fun p hp => ?_, hn.2, ⟨by rw [length_kill]; exact h.frH.len, fun c hc => ?_⟩, h.frB⟩
  · rw [blk_kill hlt, if_neg]
    · exact h.le c K' hc
    · intro e; subst e; rw [hb.2.1] at hc; exact absurd hc (by simp)
  · have := h.own p (.tail _ hp)
    exact ⟨by rw [blk_kill hlt, if_neg fun e => hn.1 (mem_fst hp e)]; exact this.1, this.2⟩
  · rw [blk_kill hlt, if_neg (by have : H0.length ≤ b := hb.2.2; omega)]; exact h.frH.same c hc
theorem setB (B : AH) (b : Nat) (K : Blk) : ∃ B', ∀ c, blk B' c = if c = b then some K else blk B c := by
  refine ⟨(B ++ List.replicate (b + 1) none).set b (some K), fun c => ?_⟩
  have hp : ∀ d, blk (B ++ List.replicate (b + 1) none) d = blk B d := fun d => by
    unfold blk
    by_cases h : d < B.length
    · rw [List.getElem?_append_left h]
    · rw [List.getElem?_append_right (by omega), List.getElem?_eq_none (l := B) (by omega), List.getElem?_replicate]
      split <;> rfl
  by_cases h : c = b
  · subst h; unfold blk; rw [List.getElem?_set_self (by simp; omega), if_pos rfl]; rfl
  · rw [if_neg h, ← hp c]; unfold blk; rw [List.getElem?_set_ne (fun e => h e.symm)]
/-- From now on nobody changes it. -/
theorem St.freeze {H0 B0 B L H} {b : Nat} {K : Blk} (h : St H0 B0 B ((b, K) :: L) H) : ∃ B', Mo B B' ∧ blk B' b = some K ∧ St H0 B0 B' L H := by
  have hb := h.own _ (.head _)
  have hn := List.nodup_cons.mp h.nd
  obtain ⟨B', hs⟩ := setB B b K
  refine ⟨B', fun c K' hc => ?_, by rw [hs, if_pos rfl], fun c K' hc => ?_, fun p hp => ?_, hn.2, h.frH, fun c hc => ?_⟩
  · rw [hs, if_neg]
    · exact hc
    · intro e; subst e; rw [hb.2.1] at hc; exact absurd hc (by simp)
  · rw [hs] at hc
    by_cases e : c = b
    · subst e; rw [if_pos rfl] at hc; rw [← hc]; exact hb.1
    · rw [if_neg e] at hc; exact h.le c K' hc
  · have := h.own p (.tail _ hp)
    exact ⟨this.1, by rw [hs, if_neg fun e => hn.1 (mem_fst hp e)]; exact this.2.1, this.2.2⟩
  · rw [hs, if_neg (by have : H0.length ≤ b := hb.2.2; omega)]; exact h.frB c hc
theorem St.call {H0 B0 B L H} {Post : AH → Value → Prop} {r : Value × AH} (h : St H0 B0 B L H) (ha : An B H Post r) : ∃ B', Mo B B' ∧ St H0 B0 B' L r.2 ∧ Post B' r.1 := by
  obtain ⟨B', f1, f2, f3, f4⟩ := ha
  refine ⟨B', fun b K hb => (f1 b (blk_lt (h.le b K hb))).trans hb, ⟨f2.le, fun p hp => ?_, h.nd, h.frH.trans f3, fun b hb => (f1 b (Nat.lt_of_lt_of_le hb h.frH.len)).trans (h.frB b hb)⟩, f4⟩
  have hh := h.own p hp
  have hlt := blk_lt hh.1
  exact ⟨(f3.same _ hlt).trans hh.1, (f1 _ hlt).trans hh.2.1, hh.2.2⟩
theorem St.an {H0 B0 B L H} {Post : AH → Value → Prop} {v : Value} (h : St H0 B0 B L H) (hp : Post B v) : An B0 H0 Post (v, H) := ⟨B, h.frB, h.lel, h.frH, hp⟩

def ldK (P : Program) (t : TypeId) (cells : List Value) (off : Nat) : Option Value :=
  match aggT P t with
  | some true => if off + szT P t ≤ cells.length then some (.agg ((cells.drop off).take (szT P t)).toArray) else none
  | some false => cells[off]?
  | none => none
def stK (P : Program) (t : TypeId) (cells : List Value) (off : Nat) (v : Value) : Option (List Value) :=
  match aggT P t with
  | some true =>
    match v with
    | .agg cs => if off + szT P t ≤ cells.length ∧ cs.size = szT P t ∧ cs.toList.all isCell = true then some (spl cells off cs.toList) else none
    | _ => none
  | some false => if szT P t = 1 ∧ off < cells.length ∧ isCell v = true then some (cells.set off v) else none
  | none => none
theorem ld_blk {t : TypeId} {H : AH} {b off : Nat} {K : Blk} (h : blk H b = some K) : ld P t H (ptr b off) = ldK P t K.cells off := by
  unfold ld ldK
  cases aggT P t with
  | none => rfl
  | some a =>
    cases a with
    | true => simp only [ldA, ptr, h, Option.bind_some, rdN]; split <;> rfl
    | false => simp only [ldC, ptr, h, Option.bind_some]
theorem st_blk {t : TypeId} {H : AH} {b off : Nat} {K : Blk} {v : Value} {cs : List Value} (h : blk H b = some K) (hk : K.kind ≠ .ro) (hs : stK P t K.cells off v = some cs) : st P t H (ptr b off) v = some (put H b K cs) := by
  unfold st
  unfold stK at hs
  cases ha : aggT P t with
  | none => rw [ha] at hs; exact absurd hs (by simp)
  | some a =>
    rw [ha] at hs
    cases a with
    | true =>
      cases v with
      | agg c =>
        simp only at hs
        split at hs
        · rename_i hc
          simp only [stA, ptr, h, Option.bind_some, if_pos (show K.kind ≠ .ro ∧ off + szT P t ≤ K.cells.length ∧ c.size = szT P t ∧ c.toList.all isCell = true from ⟨hk, hc⟩)]
          rw [Option.some.inj hs]
        · exact absurd hs (by simp)
      | _ => exact absurd hs (by simp)
    | false =>
      simp only at hs
      split at hs
      · rename_i hc
        simp only [stC, ptr, h, Option.bind_some, if_pos hc.1, if_pos (show K.kind ≠ .ro ∧ off < K.cells.length ∧ isCell v = true from ⟨hk, hc.2⟩)]
        rw [Option.some.inj hs]
      · exact absurd hs (by simp)

theorem Ev.box {H0 B0 B L H} {v : Value} {t : TypeId} {f : Nat → Nat → Value → AH → Option R} {Q : R → Prop} (hS : St H0 B0 B L H) (hv : okCells v = true)
    (h : ∀ b B' H', Mo B B' → St H0 B0 B' ((b, ⟨v.cells.toList, t, .fix⟩) :: L) H' → Ev (fun k n => f k n (ptr b 0) H') Q) : Ev (fun k n => Go.AM.b2 (Go.AM.box t H v) (f k n)) Q := by
  obtain ⟨B', hm, hS'⟩ := hS.mkB v.cells.toList t .fix
  exact Ev.prim2 (by unfold Go.AM.box; rw [if_pos hv]) (h H.length B' _ hm hS')
theorem Ev.newV {H0 B0 B L H} {z : Value} {t : TypeId} {f : Nat → Nat → Value → AH → Option R} {Q : R → Prop} (hz : zeroT P t = some z) (hS : St H0 B0 B L H) (hv : okCells z = true)
    (h : ∀ b B' H', Mo B B' → St H0 B0 B' ((b, ⟨z.cells.toList, t, .fix⟩) :: L) H' → Ev (fun k n => f k n (ptr b 0) H') Q) : Ev (fun k n => Go.AM.b2 (Go.AM.newV P t H) (f k n)) Q := by
  have e : Go.AM.newV P t H = Go.AM.box t H z := by unfold Go.AM.newV; rw [hz]; rfl
  rw [e]; exact Ev.box hS hv h
theorem Ev.ld {H0 B0 B L H} {b off : Nat} {K : Blk} {v : Value} {t : TypeId} {f : Nat → Nat → Value → Option R} {Q : R → Prop} (hS : St H0 B0 B L H) (hm : (b, K) ∈ L) (hv : ldK P t K.cells off = some v)
    (h : Ev (fun k n => f k n v) Q) : Ev (fun k n => (Go.AM.ld P t H (ptr b off)).bind (f k n)) Q :=
  Ev.prim ((ld_blk (hS.get hm)).trans hv) h
theorem Ev.st {H0 B0 B L L' H} {b off : Nat} {K : Blk} {v : Value} {cs : List Value} {t : TypeId} {f : Nat → Nat → AH → Option R} {Q : R → Prop} (hS : St H0 B0 B L H) (hm : (b, K) ∈ L) (hs : stK P t K.cells off v = some cs)
    (hk : K.kind ≠ .ro) (hu : Upd b K ⟨cs, K.elem, K.kind⟩ L L') (h : ∀ H', St H0 B0 B L' H' → Ev (fun k n => f k n H') Q) : Ev (fun k n => (Go.AM.st P t H (ptr b off) v).bind (f k n)) Q :=
  Ev.prim (st_blk (hS.get hm) hk hs) (h _ (hS.put hu))
theorem Ev.call {H0 B0 B L H} {g : Nat → Nat → Option (Value × AH)} {Post : AH → Value → Prop} {f : Nat → Nat → Value → AH → Option R} {Q : R → Prop} (hS : St H0 B0 B L H)
    (hc : Le B H → Ev g (An B H Post)) (h : ∀ v B' H', Mo B B' → St H0 B0 B' L H' → Post B' v → Ev (fun k n => f k n v H') Q) : Ev (fun k n => Go.AM.b2 (g k n) (f k n)) Q :=
  Ev.b2 (hc hS.lel) fun v H' ha => by
    obtain ⟨B', hm, hS', hp⟩ := hS.call ha
    exact h v B' H' hm hS' hp
theorem Ev.done {H0 B0 B L H} {Post : AH → Value → Prop} {v : Value} (hS : St H0 B0 B L H) (hp : Post B v) : Ev (fun _ _ => some (v, H)) (An B0 H0 Post) := Ev.ret (hS.an hp)

section
variable {t : TypeId} {k : IntKind} {x y : Int}
theorem bin_int {op : BinOp} {v : Value} (h : still P (binOp op t (.int k x) (.int k y)) = some v) (hv : flat1 v = true) : bin P op t (.int k x) (.int k y) = some v := by
  unfold bin; rw [if_pos ⟨rfl, rfl, rfl⟩, h, Option.bind_some, if_pos hv]
theorem bin_add : bin P .add t (.int k x) (.int k y) = some (.int k (k.wrap (x + y))) := bin_int (by simp [binOp, Op.intArith, still]; rfl) rfl
theorem bin_sub : bin P .sub t (.int k x) (.int k y) = some (.int k (k.wrap (x - y))) := bin_int (by simp [binOp, Op.intArith, still]; rfl) rfl
theorem bin_mul : bin P .mul t (.int k x) (.int k y) = some (.int k (k.wrap (x * y))) := bin_int (by simp [binOp, Op.intArith, still]; rfl) rfl
theorem bin_lss : bin P .lss t (.int k x) (.int k y) = some (.bool (decide (x < y))) := bin_int (by simp [binOp, Op.intCmp, still]; rfl) rfl
theorem bin_leq : bin P .leq t (.int k x) (.int k y) = some (.bool (decide (x ≤ y))) := bin_int (by simp [binOp, Op.intCmp, still]; rfl) rfl
theorem bin_gtr : bin P .gtr t (.int k x) (.int k y) = some (.bool (decide (y < x))) := bin_int (by simp [binOp, Op.intCmp, still]; rfl) rfl
theorem bin_geq : bin P .geq t (.int k x) (.int k y) = some (.bool (decide (y ≤ x))) := bin_int (by simp [binOp, Op.intCmp, still]; rfl) rfl
theorem bin_eql : bin P .eql t (.int k x) (.int k y) = some (.bool (decide (x = y))) := bin_int (by simp [binOp, Op.intCmp, still]; rfl) rfl
theorem bin_neq : bin P .neq t (.int k x) (.int k y) = some (.bool (decide (x ≠ y))) := bin_int (by simp [binOp, Op.intCmp, still]; rfl) rfl
theorem bin_quo (h : y ≠ 0) : bin P .quo t (.int k x) (.int k y) = some (.int k (k.wrap (x.tdiv y))) := bin_int (by simp [binOp, Op.intDiv, still, h]; rfl) rfl
theorem bin_rem (h : y ≠ 0) : bin P .rem t (.int k x) (.int k y) = some (.int k (x.tmod y)) := bin_int (by simp [binOp, Op.intDiv, still, h]; rfl) rfl
theorem bin_shl {k' : IntKind} (h : 0 ≤ y) : bin P .shl t (.int k x) (.int k' y) = some (.int k (k.wrap (x * 2 ^ (min y.toNat k.bits)))) := by
  unfold bin; rw [if_pos ⟨rfl, rfl, rfl⟩]
  simp only [binOp, Op.shift, if_neg (show ¬ y < 0 by omega)]; rfl
theorem bin_shr {k' : IntKind} (h : 0 ≤ y) : bin P .shr t (.int k x) (.int k' y) = some (.int k (x.fdiv (2 ^ (min y.toNat k.bits)))) := by
  unfold bin; rw [if_pos ⟨rfl, rfl, rfl⟩]
  simp only [binOp, Op.shift, if_neg (show ¬ y < 0 by omega)]; rfl
theorem bin_and : bin P .and t (.int k x) (.int k y) = some (.int k (k.wrap (BitVec.ofInt k.bits x &&& BitVec.ofInt k.bits y).toNat)) := bin_int (by simp [binOp, Op.intBits, still]; rfl) rfl
theorem bin_or : bin P .or t (.int k x) (.int k y) = some (.int k (k.wrap (BitVec.ofInt k.bits x ||| BitVec.ofInt k.bits y).toNat)) := bin_int (by simp [binOp, Op.intBits, still]; rfl) rfl
theorem un_not {b : Bool} : un P .not (.bool b) = some (.bool !b) := rfl
theorem un_neg : un P .neg (.int k x) = some (.int k (k.wrap (0 - x))) := by simp [un, flat1, Op.unary, Op.intArith, still]; rfl
end
end Go.AM
set_option linter.unusedVariables false
namespace Go.AM
def val : List Nat → Nat
  | [] => 0
  | x :: xs => x + 4294967296 * val xs
def limbs (n : Nat) : List Nat := if h : n = 0 then [] else n % 4294967296 :: limbs (n / 4294967296)
termination_by n
decreasing_by exact Nat.div_lt_self (Nat.pos_of_ne_zero h) (by decide)
def small (xs : List Nat) : Prop := ∀ x, x ∈ xs → x < 4294967296
theorem limbs_zero : limbs 0 = [] := by rw [limbs]; rfl
theorem limbs_pos {n : Nat} (h : n ≠ 0) : limbs n = n % 4294967296 :: limbs (n / 4294967296) := by rw [limbs, dif_neg h]
theorem val_limbs (n : Nat) : val (limbs n) = n := by
  induction n using Nat.strongRecOn with
  | ind n ih =>
    by_cases h : n = 0
    · subst h; rw [limbs_zero]; rfl
    · rw [limbs_pos h, val, ih _ (Nat.div_lt_self (Nat.pos_of_ne_zero h) (by decide))]; omega
theorem small_limbs (n : Nat) : small (limbs n) := by
  induction n using Nat.strongRecOn with
  | ind n ih =>
    by_cases h : n = 0
    · subst h; rw [limbs_zero]; intro x hx; cases hx
    · rw [limbs_pos h]
      intro x hx
      cases hx with
      | head => exact Nat.mod_lt _ (by decide)
      | tail _ hx => exact ih _ (Nat.div_lt_self (Nat.pos_of_ne_zero h) (by decide)) x hx
theorem small.tail {x : Nat} {xs : List Nat} (h : small (x :: xs)) : small xs := fun y hy => h y (.tail _ hy)
theorem small.head {x : Nat} {xs : List Nat} (h : small (x :: xs)) : x < 4294967296 := h x (.head _)
theorem val_append (xs ys : List Nat) : val (xs ++ ys) = val xs + 4294967296 ^ xs.length * val ys := by
  induction xs with
  | nil => simp [val]
  | cons x xs ih => simp only [List.cons_append, val, ih, List.length_cons, Nat.pow_succ]; rw [Nat.mul_add, ← Nat.mul_assoc, Nat.mul_comm 4294967296 (4294967296 ^ xs.length)]; omega
theorem val_lt {xs : List Nat} (h : small xs) : val xs < 4294967296 ^ xs.length := by
  induction xs with
  | nil => simp [val]
  | cons x xs ih =>
    have h1 := ih h.tail
    have h2 := h.head
    simp only [val, List.length_cons, Nat.pow_succ]
    generalize 4294967296 ^ xs.length = p at h1
    have : 4294967296 * (val xs + 1) ≤ 4294967296 * p := Nat.mul_le_mul_left _ h1
    rw [Nat.mul_comm p]; omega
theorem limbs_val_cons {x : Nat} {xs : List Nat} (hx : x < 4294967296) (h : x ≠ 0 ∨ xs ≠ []) (ih : limbs (val xs) = xs) : limbs (val (x :: xs)) = x :: xs := by
  have hne : val (x :: xs) ≠ 0 := by
    simp only [val]
    intro e
    have e1 : x = 0 := by omega
    have e2 : val xs = 0 := by omega
    rcases h with h | h
    · exact h e1
    · rw [e2, limbs_zero] at ih; exact h ih.symm
  rw [limbs_pos hne]
  have e1 : val (x :: xs) % 4294967296 = x := by simp only [val]; omega
  have e2 : val (x :: xs) / 4294967296 = val xs := by simp only [val]; omega
  rw [e1, e2, ih]
/-- No nought at the end: it is as it has to be. -/
theorem limbs_val {xs : List Nat} (h : small xs) (ht : ∀ y, xs.getLast? = some y → y ≠ 0) : limbs (val xs) = xs := by
  induction xs with
  | nil => exact limbs_zero
  | cons x xs ih =>
    cases xs with
    | nil => exact limbs_val_cons h.head (.inl (ht x rfl)) limbs_zero
    | cons z zs => exact limbs_val_cons h.head (.inr (by simp)) (ih h.tail fun y hy => ht y (by rw [List.getLast?_cons_cons]; exact hy))
theorem val_snoc_zero (xs : List Nat) : val (xs ++ [0]) = val xs := by rw [val_append]; simp [val]
theorem limbs_getLast {n : Nat} : ∀ y, (limbs n).getLast? = some y → y ≠ 0 := by
  induction n using Nat.strongRecOn with
  | ind n ih =>
    intro y hy
    by_cases h : n = 0
    · subst h; rw [limbs_zero] at hy; cases hy
    · rw [limbs_pos h] at hy
      by_cases h2 : n / 4294967296 = 0
      · rw [h2, limbs_zero] at hy; have e : n % 4294967296 = y := by simpa using hy
        omega
      · rw [limbs_pos h2, List.getLast?_cons_cons, ← limbs_pos h2] at hy
        exact ih _ (Nat.div_lt_self (Nat.pos_of_ne_zero h) (by decide)) y hy
theorem limbs_eq_nil {n : Nat} : limbs n = [] ↔ n = 0 := by
  constructor
  · intro h; have := val_limbs n; rw [h] at this; exact this.symm
  · intro h; subst h; exact limbs_zero
theorem limbs_length_le {n k : Nat} (h : n < 4294967296 ^ k) : (limbs n).length ≤ k := by
  induction k generalizing n with
  | zero => have : n = 0 := by simpa using h
            subst this; rw [limbs_zero]; simp
  | succ k ih =>
    by_cases h0 : n = 0
    · subst h0; rw [limbs_zero]; simp
    · rw [limbs_pos h0, List.length_cons]
      exact Nat.succ_le_succ (ih (Nat.div_lt_of_lt_mul (by rw [Nat.pow_succ, Nat.mul_comm] at h; exact h)))
theorem small.append {xs ys : List Nat} (h : small xs) (h' : small ys) : small (xs ++ ys) := fun x hx => (List.mem_append.mp hx).elim (h x) (h' x)
theorem small.take {xs : List Nat} (h : small xs) (n : Nat) : small (xs.take n) := fun x hx => h x (List.mem_of_mem_take hx)
theorem small.drop {xs : List Nat} (h : small xs) (n : Nat) : small (xs.drop n) := fun x hx => h x (List.mem_of_mem_drop hx)
theorem small.set {xs : List Nat} (h : small xs) (n : Nat) {y : Nat} (hy : y < 4294967296) : small (xs.set n y) := fun x hx => (List.mem_or_eq_of_mem_set hx).elim (h x) fun e => e ▸ hy
theorem small_replicate (n : Nat) : small (List.replicate n 0) := fun x hx => by rw [(List.mem_replicate.mp hx).2]; decide
theorem small.getD {xs : List Nat} (h : small xs) (i : Nat) : xs.getD i 0 < 4294967296 := by
  by_cases hi : i < xs.length
  · rw [List.getD_eq_getElem?_getD, List.getElem?_eq_getElem hi]; exact h _ (List.getElem_mem hi)
  · rw [List.getD_eq_getElem?_getD, List.getElem?_eq_none (by omega)]; decide
theorem val_replicate (n : Nat) : val (List.replicate n 0) = 0 := by
  induction n with
  | zero => rfl
  | succ n ih => rw [List.replicate_succ, val, ih]
theorem val_take_succ {xs : List Nat} {i : Nat} (h : i < xs.length) : val (xs.take (i + 1)) = val (xs.take i) + 4294967296 ^ i * xs.getD i 0 := by
  rw [List.take_succ_eq_append_getElem h, val_append, List.length_take, Nat.min_eq_left (by omega : i ≤ xs.length)]
  simp [val, h]
theorem val_drop (xs : List Nat) (i : Nat) : val xs = val (xs.take i) + 4294967296 ^ i * val (xs.drop i) := by
  by_cases h : i ≤ xs.length
  · have := val_append (xs.take i) (xs.drop i)
    rw [List.take_append_drop, List.length_take, Nat.min_eq_left h] at this; exact this
  · rw [List.take_of_length_le (by omega), List.drop_eq_nil_of_le (by omega)]; simp [val]
end Go.AM
namespace Go.AM
theorem val_take_succ' (xs : List Nat) (i : Nat) : val (xs.take (i + 1)) = val (xs.take i) + 4294967296 ^ i * xs.getD i 0 := by
  by_cases h : i < xs.length
  · exact val_take_succ h
  · rw [List.take_of_length_le (by omega), List.take_of_length_le (by omega), List.getD_eq_getElem?_getD, List.getElem?_eq_none (by omega)]; simp
theorem val_take_set {zs : List Nat} {i w : Nat} (h : i < zs.length) : val ((zs.set i w).take (i + 1)) = val (zs.take i) + 4294967296 ^ i * w := by
  rw [val_take_succ' , List.take_set_of_le (Nat.le_refl i), List.getD_eq_getElem?_getD, List.getElem?_set_self h]; rfl
theorem mul_step {p w c x : Nat} (h : w + 4294967296 * c = x) : p * w + p * 4294967296 * c = p * x := by
  rw [← h, Nat.mul_add, Nat.mul_assoc]
end Go.AM
set_option linter.unusedVariables false
set_option linter.unusedSimpArgs false
namespace Go.AM
variable {α β R : Type} {P : Program} {t : TypeId} {x y : Int}
theorem wrap64 {n : Int} (h : -9223372036854775808 ≤ n ∧ n < 9223372036854775808) : IntKind.i64.wrap n = n := by
  simp only [IntKind.wrap, IntKind.bits, IntKind.signed]; simp; omega
theorem wrapu64 {n : Int} : IntKind.u64.wrap n = n % 18446744073709551616 := by
  simp only [IntKind.wrap, IntKind.bits, IntKind.signed]; simp
theorem wrapu32 {n : Int} : IntKind.u32.wrap n = n % 4294967296 := by
  simp only [IntKind.wrap, IntKind.bits, IntKind.signed]; simp
theorem wrapu8 {n : Int} : IntKind.u8.wrap n = n % 256 := by
  simp only [IntKind.wrap, IntKind.bits, IntKind.signed]; simp
theorem bin_add64 (h : -9223372036854775808 ≤ x + y ∧ x + y < 9223372036854775808) : bin P .add t (.int .i64 x) (.int .i64 y) = some (.int .i64 (x + y)) := by rw [bin_add, wrap64 h]
theorem bin_sub64 (h : -9223372036854775808 ≤ x - y ∧ x - y < 9223372036854775808) : bin P .sub t (.int .i64 x) (.int .i64 y) = some (.int .i64 (x - y)) := by rw [bin_sub, wrap64 h]
theorem bin_mul64 (h : -9223372036854775808 ≤ x * y ∧ x * y < 9223372036854775808) : bin P .mul t (.int .i64 x) (.int .i64 y) = some (.int .i64 (x * y)) := by rw [bin_mul, wrap64 h]
theorem pick_t {a b : Value} : pickV (.bool true) a b = some a := rfl
theorem pick_f {a b : Value} : pickV (.bool false) a b = some b := rfl
theorem lenV_sl {e : TypeId} {p : Option Addr} {n c : Nat} (h : P.underlying t = some (.slice e)) : lenV P t (.slice p n c) = some (.int .i64 (n : Nat)) := by unfold lenV; rw [h]
theorem Ev.some2 {v : Value} {H : AH} {f : Nat → Nat → Value → AH → Option R} {Q : R → Prop} (h2 : Ev (fun k n => f k n v H) Q) : Ev (fun k n => Go.AM.b2 (some (v, H)) (f k n)) Q := h2
theorem Ev.some1 {a : α} {f : Nat → Nat → α → Option R} {Q : R → Prop} (h2 : Ev (fun k n => f k n a) Q) : Ev (fun k n => (some a).bind (f k n)) Q := h2
theorem cv_int {s d : TypeId} {D : TypeDesc} {k k' : IntKind} (hs : P.underlying s = some D) (h : P.underlying d = some (.int k)) : cv P s d (.int k' x) = some (.int k (k.wrap x)) := by unfold cv; rw [hs, h]

def Sc (B : AH) (v : Value) (cs : List Value) : Prop :=
  (v = .slice none 0 0 ∧ cs = []) ∨ ∃ b off cap, v = sl b off cs.length cap ∧ cs.length ≤ cap ∧ (cs = [] ∨ ∃ K, blk B b = some K ∧ rdN K off cs.length = some cs)
theorem Sc.mono {B B' : AH} {v : Value} {cs : List Value} (hm : Mo B B') (h : Sc B v cs) : Sc B' v cs := by
  rcases h with h | ⟨b, off, cap, h1, hc, h2⟩
  · exact .inl h
  · exact .inr ⟨b, off, cap, h1, hc, h2.imp id fun ⟨K, h3, h4⟩ => ⟨K, hm _ _ h3, h4⟩⟩
theorem Sc.nil {B : AH} : Sc B (.slice none 0 0) [] := .inl ⟨rfl, rfl⟩
theorem rdN_some {K : Blk} {off n : Nat} {cs : List Value} (h : rdN K off n = some cs) : off + n ≤ K.cells.length ∧ cs = (K.cells.drop off).take n := by
  unfold rdN at h; split at h
  · exact ⟨by assumption, (Option.some.inj h).symm⟩
  · cases h
theorem rdN_get {K : Blk} {off n i : Nat} {cs : List Value} (h : rdN K off n = some cs) (hi : i < n) : K.cells[off + i]? = cs[i]? := by
  obtain ⟨h1, rfl⟩ := rdN_some h
  rw [List.getElem?_take_of_lt hi, List.getElem?_drop]
theorem Sc.len {B : AH} {v : Value} {cs : List Value} {e : TypeId} (hU : P.underlying t = some (.slice e)) (h : Sc B v cs) : lenV P t v = some (.int .i64 (cs.length : Nat)) := by
  rcases h with ⟨rfl, rfl⟩ | ⟨b, off, cap, rfl, _, _⟩
  · exact lenV_sl hU
  · exact lenV_sl hU
theorem ixA_sl {e : TypeId} {b off len cap : Nat} {k : IntKind} (hU : P.underlying t = some (.slice e)) (hI : (P.info? e).isSome = true) (hz : szT P e = 1) (h : 0 ≤ x ∧ x < len) :
    ixA P t (sl b off len cap) (.int k x) = some (ptr b (off + x.toNat)) := by
  unfold ixA sl; rw [hU]; simp only; rw [if_pos ⟨hI, h.1, by omega⟩, hz, Nat.mul_one]
theorem Sc.ix {B : AH} {v : Value} {cs : List Value} {e : TypeId} {k : IntKind} (hU : P.underlying t = some (.slice e)) (hI : (P.info? e).isSome = true) (hz : szT P e = 1) (ha : aggT P e = some false) (h : Sc B v cs)
    (h0 : 0 ≤ x ∧ x < cs.length) : ∃ p, ixA P t v (.int k x) = some p ∧ ∀ H', (∀ b K, blk B b = some K → blk H' b = some K) → ld P e H' p = cs[x.toNat]? := by
  rcases h with ⟨rfl, rfl⟩ | ⟨b, off, cap, rfl, hc, h⟩
  · exact absurd h0.2 (by simp; omega)
  · refine ⟨_, ixA_sl hU hI hz h0, fun H' hH => ?_⟩
    rcases h with rfl | ⟨K, h1, h2⟩
    · exact absurd h0.2 (by simp; omega)
    · rw [ld_blk (hH _ _ h1), ldK, ha]
      exact rdN_get h2 (by omega)
/-- From its beginning. -/
theorem Sc.upto {B : AH} {v : Value} {cs : List Value} {e : TypeId} {k : IntKind} (hU : P.underlying t = some (.slice e)) (hI : (P.info? e).isSome = true) (h : Sc B v cs) (h0 : 0 ≤ x ∧ x ≤ cs.length) :
    ∃ v', slc P t v none (some (.int k x)) = some v' ∧ Sc B v' (cs.take x.toNat) := by
  rcases h with ⟨rfl, rfl⟩ | ⟨b, off, cap, rfl, hc, h⟩
  · have : x = 0 := by simp at h0; omega
    subst this
    exact ⟨.slice none 0 0, by unfold slc; rw [hU]; simp [intOr, hI], .inl ⟨rfl, rfl⟩⟩
  · refine ⟨sl b off x.toNat cap, ?_, .inr ⟨b, off, cap, by rw [List.length_take, Nat.min_eq_left (by omega)], by rw [List.length_take]; omega, ?_⟩⟩
    · unfold slc sl; rw [hU]; simp only [intOr, Option.bind_some]
      rw [if_pos ⟨hI, by omega, by omega, by omega⟩]
      simp
    · rcases h with rfl | ⟨K, h1, h2⟩
      · exact .inl (by simp)
      · refine .inr ⟨K, h1, ?_⟩
        obtain ⟨h3, h4⟩ := rdN_some h2
        rw [List.length_take, Nat.min_eq_left (by omega), rdN, if_pos (by omega)]
        conv => rhs; rw [h4]
        rw [List.take_take, Nat.min_eq_left (by omega)]
/-- To its end. -/
theorem Sc.from {B : AH} {v : Value} {cs : List Value} {e : TypeId} {k : IntKind} (hU : P.underlying t = some (.slice e)) (hI : (P.info? e).isSome = true) (hz : szT P e = 1) (h : Sc B v cs) (h0 : 0 ≤ x ∧ x ≤ cs.length) :
    ∃ v', slc P t v (some (.int k x)) none = some v' ∧ Sc B v' (cs.drop x.toNat) := by
  rcases h with ⟨rfl, rfl⟩ | ⟨b, off, cap, rfl, hc, h⟩
  · have : x = 0 := by simp at h0; omega
    subst this
    exact ⟨.slice none 0 0, by unfold slc; rw [hU]; simp [intOr, hI], .inl ⟨rfl, rfl⟩⟩
  · refine ⟨sl b (if cap = x.toNat then off else off + x.toNat) (cs.drop x.toNat).length (cap - x.toNat), ?_, .inr ⟨b, _, _, rfl, by rw [List.length_drop]; omega, ?_⟩⟩
    · unfold slc sl; rw [hU]; simp only [intOr, Option.bind_some]
      rw [if_pos ⟨hI, by omega, by omega, by omega⟩, hz, Nat.mul_one]
      simp
    · by_cases hd : cs.drop x.toNat = []
      · exact .inl hd
      rcases h with rfl | ⟨K, h1, h2⟩
      · exact .inl (by simp)
      · refine .inr ⟨K, h1, ?_⟩
        obtain ⟨h3, h4⟩ := rdN_some h2
        have hl : x.toNat < cs.length := Nat.lt_of_not_le fun hh => hd (List.drop_eq_nil_of_le hh)
        rw [if_neg (by omega), rdN, List.length_drop, if_pos (by omega)]
        conv => rhs; rw [h4]
        rw [List.drop_take, List.drop_drop]

/-- Digits. -/
abbrev u32 (n : Nat) : Value := .int .u32 (n : Int)
class RdN (B : outParam AH) (v : Value) (xs : outParam (List Nat)) : Prop where
  sc : Sc B v (xs.map u32)
  sm : small xs
theorem RdN.mono {B B' : AH} {v : Value} {xs : List Nat} (hm : Mo B B') (h : RdN B v xs) : RdN B' v xs := ⟨h.1.mono hm, h.2⟩
theorem RdN.nil {B : AH} : RdN B (.slice none 0 0) [] := ⟨Sc.nil, fun _ h => absurd h List.not_mem_nil⟩
theorem RdN.len {B : AH} {v : Value} {xs : List Nat} {e : TypeId} (hU : P.underlying t = some (.slice e)) (h : RdN B v xs) : lenV P t v = some (.int .i64 (xs.length : Nat)) := by
  have := h.1.len hU; rwa [List.length_map] at this
theorem RdN.ix {B : AH} {v : Value} {xs : List Nat} {e : TypeId} {k : IntKind} (hU : P.underlying t = some (.slice e)) (hI : (P.info? e).isSome = true) (hz : szT P e = 1) (ha : aggT P e = some false) (h : RdN B v xs)
    (h0 : 0 ≤ x ∧ x < xs.length) : ∃ p, ixA P t v (.int k x) = some p ∧ ∀ H', Mo B H' → ld P e H' p = some (u32 (xs.getD x.toNat 0)) := by
  obtain ⟨p, h1, h2⟩ := h.1.ix (k := k) hU hI hz ha (by rw [List.length_map]; exact h0)
  refine ⟨p, h1, fun H' hH => ?_⟩
  rw [h2 H' hH, List.getElem?_map, List.getElem?_eq_getElem (by omega), List.getD_eq_getElem?_getD, List.getElem?_eq_getElem (by omega)]; rfl
theorem RdN.upto {B : AH} {v : Value} {xs : List Nat} {e : TypeId} {k : IntKind} (hU : P.underlying t = some (.slice e)) (hI : (P.info? e).isSome = true) (h : RdN B v xs) (h0 : 0 ≤ x ∧ x ≤ xs.length) :
    ∃ v', slc P t v none (some (.int k x)) = some v' ∧ RdN B v' (xs.take x.toNat) := by
  obtain ⟨v', h1, h2⟩ := h.1.upto (k := k) hU hI (by rw [List.length_map]; exact h0)
  exact ⟨v', h1, by rw [← List.map_take] at h2; exact ⟨h2, h.2.take _⟩⟩
end Go.AM
namespace Go.AM
variable {α β R : Type} {P : Program} {t : TypeId} {x y : Int}
theorem bin_eql_sl {e : TypeId} {b off n c : Nat} (hU : P.underlying t = some (.slice e)) : bin P .eql t (sl b off n c) (.slice none 0 0) = some (.bool false) := by
  unfold bin sl
  rw [if_neg (by simp [flat1])]
  simp only [hU, Option.bind_some, nilEq]; rfl
theorem int_eq {k : IntKind} {a a' : Int} (h1 : a = a') : Value.int k a = .int k a' := by rw [h1]
end Go.AM
namespace Go.AM
variable {R : Type}
theorem Ev.callP {g : Nat → Nat → Option (Value × AH)} {v : Value} {H : AH} {f : Nat → Nat → Value → AH → Option R} {Q : R → Prop} (hg : Ev g (fun r => r = (v, H))) (h : Ev (fun k n => f k n v H) Q) : Ev (fun k n => Go.AM.b2 (g k n) (f k n)) Q :=
  Ev.b2 hg fun v' H' e => by cases e; exact h
theorem ext_0 {a : Value} {l : List Value} : ext (.tuple ⟨a :: l⟩) 0 = some a := rfl
theorem ext_1 {a b : Value} {l : List Value} : ext (.tuple ⟨a :: b :: l⟩) 1 = some b := rfl
theorem ext_2 {a b c : Value} {l : List Value} : ext (.tuple ⟨a :: b :: c :: l⟩) 2 = some c := rfl
end Go.AM
set_option linter.unusedVariables false
set_option linter.unusedSimpArgs false
namespace Go.AM
variable {α β R : Type} {P : Program} {t u e : TypeId} {z : Value} {sz : Nat} {x y : Int}
/-- A type of slices of single cells. -/
class Elt (P : Program) (t : TypeId) (e : outParam TypeId) (z : outParam Value) (sz : outParam Nat) : Prop where
  U : P.underlying t = some (.slice e)
  I : (P.info? e).isSome = true
  S : szT P e = 1
  A : aggT P e = some false
  Z : zeroT P e = some z
  Y : byT P e = sz
  zc : isCell z = true
  zn : z.cells.toList = [z]
theorem rep_one (z : Value) (n : Nat) : rep [z] n = List.replicate n z := by
  induction n with
  | zero => rfl
  | succ n ih => rw [rep, ih]; rfl
theorem size_cells {z : Value} (h : z.cells.toList = [z]) : z.cells.size = 1 := by rw [← Array.length_toList, h]; rfl
theorem okCells_of {z : Value} (h : isCell z = true) : okCells z = true := by
  cases z with
  | agg cs => exact absurd h (by simp [isCell])
  | _ => exact h

theorem Ev.mkS {H0 B0 B L H} {m : Nat} {f : Nat → Nat → Value → AH → Option R} {Q : R → Prop} (hE : Elt P t e z sz) (hS : St H0 B0 B L H) (hm : m * sz ≤ 281474976710656) (hm' : m ≤ 9223372036854775807)
    (h : ∀ b B' H', Mo B B' → St H0 B0 B' ((b, ⟨List.replicate m z, e, .fix⟩) :: L) H' → Ev (fun k n => f k n (sl b 0 m m) H') Q) :
    Ev (fun k n => Go.AM.b2 (Go.AM.mkS P t H (.int .i64 (m : Int)) (.int .i64 (m : Int))) (f k n)) Q := by
  obtain ⟨B', hm1, hS'⟩ := hS.mkB (List.replicate m z) e .fix
  refine Ev.prim2 ?_ (h H.length B' _ hm1 hS')
  unfold Go.AM.mkS
  rw [hE.U]; simp only [hE.Z, hE.Y, hE.S, hE.zn, Option.bind_some, rep_one]
  rw [if_pos ⟨by omega, by omega, by omega, by omega, size_cells hE.zn, okCells_of hE.zc⟩]
  simp
theorem Ev.buildS {H0 B0 B L H} {m : Nat} {parts : List (Nat × Value)} {cs : List Value} {f : Nat → Nat → Value → AH → Option R} {Q : R → Prop} (hE : Elt P t e z sz) (hS : St H0 B0 B L H) (hm : m ≤ 16777216)
    (hf : fillB (fun i => some (i * 1, 1)) (List.replicate m z) parts = some cs)
    (h : ∀ b B' H', Mo B B' → St H0 B0 B' ((b, ⟨cs, e, .fix⟩) :: L) H' → Ev (fun k n => f k n (sl b 0 m m) H') Q) :
    Ev (fun k n => Go.AM.b2 (Go.AM.buildS P t H m parts) (f k n)) Q := by
  obtain ⟨B', hm1, hS'⟩ := hS.mkB cs e .fix
  refine Ev.prim2 ?_ (h H.length B' _ hm1 hS')
  unfold Go.AM.buildS
  rw [hE.U]; simp only [hE.Z, hE.S, hE.zn, Option.bind_some, rep_one]
  rw [if_pos ⟨by omega, size_cells hE.zn⟩, hf]; rfl

theorem sliceCells_of {H : AH} {v : Value} {cs : List Value} (h : Sc H v cs) : sliceCells 1 H v cs.length = some cs := by
  rcases h with ⟨rfl, rfl⟩ | ⟨b, off, cap, rfl, hc, h⟩
  · rfl
  · show (if cs.length = 0 then some [] else if cs.length ≤ cs.length then (blk H b).bind fun k => rdN k off (cs.length * 1) else none) = some cs
    by_cases hn : cs.length = 0
    · rw [if_pos hn, List.length_eq_zero_iff.mp hn]
    · rw [if_neg hn, if_pos (Nat.le_refl _)]
      rcases h with rfl | ⟨K, h1, h2⟩
      · exact absurd rfl hn
      · rw [h1, Option.bind_some, Nat.mul_one, h2]
theorem lenOf_of {H : AH} {v : Value} {cs : List Value} (h : Sc H v cs) : lenOf v = some cs.length := by
  rcases h with ⟨rfl, rfl⟩ | ⟨b, off, cap, rfl, hc, h⟩ <;> rfl
theorem isNotStr_of {H : AH} {v : Value} {cs : List Value} (h : Sc H v cs) : isNotStr v = true := by
  rcases h with ⟨rfl, rfl⟩ | ⟨b, off, cap, rfl, hc, h⟩ <;> rfl
theorem ap_eq {u' : TypeId} {H : AH} {s v : Value} {ds : List Value} (hE : Elt P t e z sz) (hu : P.underlying u = some (.slice u')) (hx : Sc H v ds) (hd : ds.all isCell = true) :
    ap P t u H s v = apS 1 sz e H s ds.length ds := by
  unfold ap
  rw [hE.U, hu]
  simp only [hE.Z, hE.S, hE.Y, Option.bind_some]
  rw [if_pos ⟨by omega, size_cells hE.zn, isNotStr_of hx⟩, lenOf_of hx, Option.bind_some, sliceCells_of hx, Option.bind_some, if_pos hd]
/-- Onto what has no room. -/
theorem Ev.apNew {H0 B0 B L H} {u' : TypeId} {s v : Value} {ds : List Value} {f : Nat → Nat → Value → AH → Option R} {Q : R → Prop} (hE : Elt P t e z sz) (hu : P.underlying u = some (.slice u')) (hS : St H0 B0 B L H)
    (hs : s = .slice none 0 0 ∨ ∃ b off n, s = sl b off n 0) (hx : Sc H v ds) (hd : ds.all isCell = true) (hn : ds ≠ []) (hl : ds.length * sz ≤ 140737488355328 ∧ ds.length ≤ 9223372036854775807)
    (h : ∀ b B' H', Mo B B' → St H0 B0 B' ((b, ⟨ds, e, .grow⟩) :: L) H' → Ev (fun k n => f k n (sl b 0 ds.length (ds.length + 1)) H') Q) :
    Ev (fun k n => Go.AM.b2 (Go.AM.ap P t u H s v) (f k n)) Q := by
  obtain ⟨B', hm1, hS'⟩ := hS.mkB ds e .grow
  refine Ev.prim2 ?_ (h H.length B' _ hm1 hS')
  rw [ap_eq hE hu hx hd]
  have hn' : ds.length ≠ 0 := fun e => hn (List.length_eq_zero_iff.mp e)
  rcases hs with rfl | ⟨b, off, n, rfl⟩
  · simp only [apS, if_neg hn', if_pos hl]
  · simp only [apS, sl, if_neg hn', if_pos hl, if_true]
/-- Of nothing. -/
theorem Ev.apNone {H : AH} {u' : TypeId} {s v : Value} {f : Nat → Nat → Value → AH → Option R} {Q : R → Prop} (hE : Elt P t e z sz) (hu : P.underlying u = some (.slice u'))
    (hs : s = .slice none 0 0 ∨ ∃ b off n c, s = sl b off n c) (hx : Sc H v []) (h : Ev (fun k n => f k n s H) Q) :
    Ev (fun k n => Go.AM.b2 (Go.AM.ap P t u H s v) (f k n)) Q := by
  refine Ev.prim2 ?_ h
  rw [ap_eq hE hu hx rfl]
  rcases hs with rfl | ⟨b, off, n, c, rfl⟩ <;> rfl
/-- Onto what is full. -/
theorem Ev.apFull {H0 B0 B L H} {u' : TypeId} {b : Nat} {cs : List Value} {v : Value} {ds : List Value} {f : Nat → Nat → Value → AH → Option R} {Q : R → Prop} (hE : Elt P t e z sz) (hu : P.underlying u = some (.slice u')) (hS : St H0 B0 B L H)
    (hb : blk H b = some ⟨cs, e, .fix⟩) (hc : cs ≠ []) (hx : Sc H v ds) (hd : ds.all isCell = true) (hn : ds ≠ []) (hl : (cs.length + ds.length) * sz ≤ 140737488355328 ∧ cs.length + ds.length ≤ 9223372036854775807)
    (h : ∀ b B' H', Mo B B' → St H0 B0 B' ((b, ⟨cs ++ ds, e, .grow⟩) :: L) H' → Ev (fun k n => f k n (sl b 0 (cs ++ ds).length ((cs ++ ds).length + 1)) H') Q) :
    Ev (fun k n => Go.AM.b2 (Go.AM.ap P t u H (sl b 0 cs.length cs.length) v) (f k n)) Q := by
  obtain ⟨B', hm1, hS'⟩ := hS.mkB (cs ++ ds) e .grow
  refine Ev.prim2 ?_ (h H.length B' _ hm1 hS')
  rw [ap_eq hE hu hx hd]
  have hn' : ds.length ≠ 0 := fun e => hn (List.length_eq_zero_iff.mp e)
  have hc' : cs.length ≠ 0 := fun e => hc (List.length_eq_zero_iff.mp e)
  simp only [apS, sl, if_neg hn', if_neg hc', hb, Option.bind_some, rdN, Nat.mul_one, Nat.zero_add, Nat.le_refl, if_true, List.drop_zero, List.take_length, hl, and_self, List.length_append]
  rw [if_neg (by omega)]
/-- Onto what was grown. -/
theorem Ev.apGrow {H0 B0 B L H} {u' : TypeId} {b cap : Nat} {cs : List Value} {v : Value} {ds : List Value} {f : Nat → Nat → Value → AH → Option R} {Q : R → Prop} (hE : Elt P t e z sz) (hu : P.underlying u = some (.slice u'))
    (hS : St H0 B0 B ((b, ⟨cs, e, .grow⟩) :: L) H) (hc : cap ≠ 0) (hx : Sc H v ds) (hd : ds.all isCell = true) (hn : ds ≠ []) (hl : (cs.length + ds.length) * sz ≤ 140737488355328 ∧ cs.length + ds.length ≤ 9223372036854775807)
    (h : ∀ b B' H', Mo B B' → St H0 B0 B' ((b, ⟨cs ++ ds, e, .grow⟩) :: L) H' → Ev (fun k n => f k n (sl b 0 (cs ++ ds).length ((cs ++ ds).length + 1)) H') Q) :
    Ev (fun k n => Go.AM.b2 (Go.AM.ap P t u H (sl b 0 cs.length cap) v) (f k n)) Q := by
  have hb := hS.get (.head _)
  obtain ⟨B', hm1, hS'⟩ := hS.kill.mkB (cs ++ ds) e .grow
  rw [length_kill] at hS'
  refine Ev.prim2 ?_ (h H.length B' _ hm1 hS')
  rw [ap_eq hE hu hx hd]
  have hn' : ds.length ≠ 0 := fun e => hn (List.length_eq_zero_iff.mp e)
  simp only [apS, sl, if_neg hn', if_neg hc, hb, Option.bind_some, rdN, Nat.mul_one, Nat.zero_add, Nat.le_refl, if_true, List.drop_zero, List.take_length, hl, and_self, List.length_append]

theorem St.sc {H0 B0 B L H} {b cap : Nat} {cs : List Value} {kd : BK} (hS : St H0 B0 B L H) (hm : (b, ⟨cs, e, kd⟩) ∈ L) (hc : cs.length ≤ cap) : Sc H (sl b 0 cs.length cap) cs :=
  .inr ⟨b, 0, cap, rfl, hc, .inr ⟨_, hS.get hm, by simp [rdN]⟩⟩
theorem Sc.up {B H : AH} {v : Value} {cs : List Value} (h : Sc B v cs) (hL : Mo B H) : Sc H v cs := h.mono hL
/-- Nobody changes it any more. -/
theorem St.freezeSc {H0 B0 B L H} {b cap : Nat} {cs : List Value} {kd : BK} (hS : St H0 B0 B ((b, ⟨cs, e, kd⟩) :: L) H) (hc : cs.length ≤ cap) : ∃ B', Mo B B' ∧ Sc B' (sl b 0 cs.length cap) cs ∧ St H0 B0 B' L H := by
  obtain ⟨B', h1, h2, h3⟩ := hS.freeze
  exact ⟨B', h1, .inr ⟨b, 0, cap, rfl, hc, .inr ⟨_, h2, by simp [rdN]⟩⟩, h3⟩

theorem ixA_own {b off len cap : Nat} {k : IntKind} {i : Nat} (hE : Elt P t e z sz) (h : i < len) : ixA P t (sl b off len cap) (.int k (i : Int)) = some (ptr b (off + i)) := by
  rw [ixA_sl hE.U hE.I hE.S (by omega)]; simp
theorem ldK_own {cs : List Value} {i : Nat} (hE : Elt P t e z sz) : ldK P e cs i = cs[i]? := by unfold ldK; rw [hE.A]
theorem stK_own {cs : List Value} {i : Nat} {v : Value} (hE : Elt P t e z sz) (h : i < cs.length) (hv : isCell v = true) : stK P e cs i v = some (cs.set i v) := by
  unfold stK; rw [hE.A]; simp only; rw [if_pos ⟨hE.S, h, hv⟩]
theorem Ev.ldW {H0 B0 B L H} {b i j : Nat} {xs : List Nat} {kd : BK} {f : Nat → Nat → Value → Option R} {Q : R → Prop} (hE : Elt P t e z sz) (hS : St H0 B0 B L H) (hm : (b, ⟨xs.map u32, e, kd⟩) ∈ L) (hi : j < xs.length) (hij : i = j)
    (h : Ev (fun k n => f k n (u32 (xs.getD j 0))) Q) : Ev (fun k n => (Go.AM.ld P e H (ptr b i)).bind (f k n)) Q := by
  subst hij
  refine Ev.ld hS hm ?_ h
  rw [ldK_own hE, List.getElem?_map, List.getElem?_eq_getElem hi, List.getD_eq_getElem?_getD, List.getElem?_eq_getElem hi]; rfl
theorem Ev.stW {H0 B0 B L L' H} {b i j : Nat} {v : Value} {w : Nat} {xs : List Nat} {kd : BK} {f : Nat → Nat → AH → Option R} {Q : R → Prop} (hE : Elt P t e z sz) (hS : St H0 B0 B L H) (hm : (b, ⟨xs.map u32, e, kd⟩) ∈ L)
    (hi : j < xs.length) (hij : i = j) (hv : v = u32 w) (hk : kd ≠ .ro) (hu : Upd b ⟨xs.map u32, e, kd⟩ ⟨(xs.set j w).map u32, e, kd⟩ L L') (h : ∀ H', St H0 B0 B L' H' → Ev (fun k n => f k n H') Q) :
    Ev (fun k n => (Go.AM.st P e H (ptr b i) v).bind (f k n)) Q := by
  subst hij; subst hv
  refine Ev.st hS hm (stK_own hE (by rw [List.length_map]; exact hi) rfl) hk ?_ h
  rw [List.map_set] at hu; exact hu
theorem map_replicate (n : Nat) : List.replicate n (.int .u32 0) = (List.replicate n 0).map u32 := by simp [u32]
theorem St.freezeN {H0 B0 B L H} {b cap n : Nat} {xs : List Nat} {kd : BK} (hS : St H0 B0 B ((b, ⟨xs.map u32, e, kd⟩) :: L) H) (hs : small xs) (hn : n = xs.length) (hc : xs.length ≤ cap) : ∃ B', Mo B B' ∧ RdN B' (sl b 0 n cap) xs ∧ St H0 B0 B' L H := by
  obtain ⟨B', h1, h2, h3⟩ := hS.freezeSc (cap := cap) (by rw [List.length_map]; exact hc)
  rw [List.length_map, ← hn] at h2
  exact ⟨B', h1, ⟨h2, hs⟩, h3⟩
theorem all_u32 (xs : List Nat) : (xs.map u32).all isCell = true := by simp [isCell]
end Go.AM
set_option linter.unusedVariables false
set_option linter.unusedSimpArgs false
namespace Go.AM
variable {α β R : Type} {P : Program} {t s d : TypeId} {a b : Nat}
abbrev i64 (n : Nat) : Value := .int .i64 (n : Int)
abbrev u64 (n : Nat) : Value := .int .u64 (n : Int)
abbrev u8 (n : Nat) : Value := .int .u8 (n : Int)
theorem addN (h : a + b < 9223372036854775808) : bin P .add t (i64 a) (i64 b) = some (i64 (a + b)) := by rw [bin_add64 (by omega)]; rfl
theorem subN (h : b ≤ a ∧ a < 9223372036854775808) : bin P .sub t (i64 a) (i64 b) = some (i64 (a - b)) := by rw [bin_sub64 (by omega), show ((a : Int) - (b : Int)) = ((a - b : Nat) : Int) by omega]
theorem mulN (h : a * b < 9223372036854775808) : bin P .mul t (i64 a) (i64 b) = some (i64 (a * b)) := by
  rw [bin_mul64 (by rw [← Int.natCast_mul]; omega), ← Int.natCast_mul]
theorem lssN {k : IntKind} : bin P .lss t (.int k (a : Int)) (.int k (b : Int)) = some (.bool (decide (a < b))) := by rw [bin_lss]; simp
theorem leqN {k : IntKind} : bin P .leq t (.int k (a : Int)) (.int k (b : Int)) = some (.bool (decide (a ≤ b))) := by rw [bin_leq]; simp
theorem gtrN {k : IntKind} : bin P .gtr t (.int k (a : Int)) (.int k (b : Int)) = some (.bool (decide (b < a))) := by rw [bin_gtr]; simp
theorem geqN {k : IntKind} : bin P .geq t (.int k (a : Int)) (.int k (b : Int)) = some (.bool (decide (b ≤ a))) := by rw [bin_geq]; simp
theorem eqlN {k : IntKind} : bin P .eql t (.int k (a : Int)) (.int k (b : Int)) = some (.bool (decide (a = b))) := by
  rw [bin_eql]; congr 2; exact decide_eq_decide.mpr (by omega)
theorem neqN {k : IntKind} : bin P .neq t (.int k (a : Int)) (.int k (b : Int)) = some (.bool (decide (a ≠ b))) := by
  rw [bin_neq]; congr 2; exact decide_eq_decide.mpr (by omega)
theorem quoN (h : b ≠ 0 ∧ a < 9223372036854775808) : bin P .quo t (i64 a) (i64 b) = some (i64 (a / b)) := by
  rw [bin_quo (by omega)]
  have e : (a : Int).tdiv (b : Int) = ((a / b : Nat) : Int) := by rw [Int.tdiv_eq_ediv_of_nonneg (by omega)]; omega
  have : a / b ≤ a := Nat.div_le_self ..
  rw [e]; generalize a / b = q at this ⊢; rw [wrap64 (by omega)]
theorem remN {k : IntKind} (h : b ≠ 0) : bin P .rem t (.int k (a : Int)) (.int k (b : Int)) = some (.int k ((a % b : Nat) : Int)) := by
  rw [bin_rem (by omega)]
  have e : (a : Int).tmod (b : Int) = ((a % b : Nat) : Int) := by rw [Int.tmod_eq_emod_of_nonneg (by omega)]; omega
  rw [e]
theorem quoQ (h : b ≠ 0 ∧ a < 18446744073709551616) : bin P .quo t (u64 a) (u64 b) = some (u64 (a / b)) := by
  rw [bin_quo (by omega)]
  have e : (a : Int).tdiv (b : Int) = ((a / b : Nat) : Int) := by rw [Int.tdiv_eq_ediv_of_nonneg (by omega)]; omega
  have : a / b ≤ a := Nat.div_le_self ..
  rw [e]; generalize a / b = q at this ⊢; rw [wrapu64, show (q : Int) % 18446744073709551616 = (q : Int) by omega]
theorem addQ (h : a + b < 18446744073709551616) : bin P .add t (u64 a) (u64 b) = some (u64 (a + b)) := by
  rw [bin_add, wrapu64, show ((a : Int) + (b : Int)) % 18446744073709551616 = ((a + b : Nat) : Int) by omega]
theorem subQ (h : b ≤ a ∧ a < 18446744073709551616) : bin P .sub t (u64 a) (u64 b) = some (u64 (a - b)) := by
  rw [bin_sub, wrapu64, show ((a : Int) - (b : Int)) % 18446744073709551616 = ((a - b : Nat) : Int) by omega]
theorem mulQ (h : a * b < 18446744073709551616) : bin P .mul t (u64 a) (u64 b) = some (u64 (a * b)) := by
  rw [bin_mul, wrapu64, ← Int.natCast_mul, show ((a * b : Nat) : Int) % 18446744073709551616 = ((a * b : Nat) : Int) by omega]
theorem toU64 {D : TypeDesc} {k : IntKind} (h : a < 18446744073709551616) (hs : P.underlying s = some D) (hd : P.underlying d = some (.int .u64)) : cv P s d (.int k (a : Int)) = some (u64 a) := by
  rw [cv_int hs hd, wrapu64, show (a : Int) % 18446744073709551616 = (a : Int) by omega]
theorem toU32 {D : TypeDesc} {k : IntKind} (hs : P.underlying s = some D) (hd : P.underlying d = some (.int .u32)) : cv P s d (.int k (a : Int)) = some (u32 (a % 4294967296)) := by
  rw [cv_int hs hd, wrapu32]; rfl
theorem toU8 {D : TypeDesc} {k : IntKind} (hs : P.underlying s = some D) (hd : P.underlying d = some (.int .u8)) : cv P s d (.int k (a : Int)) = some (u8 (a % 256)) := by
  rw [cv_int hs hd, wrapu8]; rfl
theorem toI64 {D : TypeDesc} {k : IntKind} (h : a < 9223372036854775808) (hs : P.underlying s = some D) (hd : P.underlying d = some (.int .i64)) : cv P s d (.int k (a : Int)) = some (i64 a) := by
  rw [cv_int hs hd, wrap64 (by omega)]
theorem shrN {k k' : IntKind} (h : b < k.bits) : bin P .shr t (.int k (a : Int)) (.int k' (b : Int)) = some (.int k ((a / 2 ^ b : Nat) : Int)) := by
  rw [bin_shr (by omega), show min (b : Int).toNat k.bits = b by rw [Int.toNat_natCast]; omega, Int.fdiv_eq_ediv_of_nonneg _ (by exact Int.le_of_lt (Int.pow_pos (by decide)))]
  rw [Int.natCast_ediv, Int.natCast_pow]; rfl
theorem shlQ {k' : IntKind} (h : b < 64 ∧ a * 2 ^ b < 18446744073709551616) : bin P .shl t (u64 a) (.int k' (b : Int)) = some (u64 (a * 2 ^ b)) := by
  rw [bin_shl (by omega), show min (b : Int).toNat IntKind.u64.bits = b by rw [Int.toNat_natCast, show IntKind.u64.bits = 64 from rfl]; omega, wrapu64]
  have e : (a : Int) * 2 ^ b = ((a * 2 ^ b : Nat) : Int) := by rw [Int.natCast_mul, Int.natCast_pow]; rfl
  rw [e, show ((a * 2 ^ b : Nat) : Int) % 18446744073709551616 = ((a * 2 ^ b : Nat) : Int) by omega]
theorem shlW {k' : IntKind} (h : b < 32) : bin P .shl t (u32 a) (.int k' (b : Int)) = some (u32 (a * 2 ^ b % 4294967296)) := by
  rw [bin_shl (by omega), show min (b : Int).toNat IntKind.u32.bits = b by rw [Int.toNat_natCast, show IntKind.u32.bits = 32 from rfl]; omega, wrapu32]
  have e : (a : Int) * 2 ^ b = ((a * 2 ^ b : Nat) : Int) := by rw [Int.natCast_mul, Int.natCast_pow]; rfl
  rw [e]; rfl
theorem orQ (h : a < 18446744073709551616 ∧ b < 18446744073709551616) : bin P .or t (u64 a) (u64 b) = some (u64 (a ||| b)) := by
  rw [bin_or]
  have e : (BitVec.ofInt IntKind.u64.bits (a : Int) ||| BitVec.ofInt IntKind.u64.bits (b : Int)).toNat = a ||| b := by
    rw [BitVec.toNat_or, BitVec.ofInt_natCast, BitVec.ofInt_natCast, BitVec.toNat_ofNat, BitVec.toNat_ofNat, show 2 ^ IntKind.u64.bits = 18446744073709551616 from rfl, Nat.mod_eq_of_lt h.1, Nat.mod_eq_of_lt h.2]
  have : a ||| b < 2 ^ 64 := Nat.or_lt_two_pow h.1 h.2
  rw [e, wrapu64, show ((a ||| b : Nat) : Int) % 18446744073709551616 = ((a ||| b : Nat) : Int) by omega]
theorem orW (h : a < 4294967296 ∧ b < 4294967296) : bin P .or t (u32 a) (u32 b) = some (u32 (a ||| b)) := by
  rw [bin_or]
  have e : (BitVec.ofInt IntKind.u32.bits (a : Int) ||| BitVec.ofInt IntKind.u32.bits (b : Int)).toNat = a ||| b := by
    rw [BitVec.toNat_or, BitVec.ofInt_natCast, BitVec.ofInt_natCast, BitVec.toNat_ofNat, BitVec.toNat_ofNat, show 2 ^ IntKind.u32.bits = 4294967296 from rfl, Nat.mod_eq_of_lt h.1, Nat.mod_eq_of_lt h.2]
  have : a ||| b < 2 ^ 32 := Nat.or_lt_two_pow h.1 h.2
  rw [e, wrapu32, show ((a ||| b : Nat) : Int) % 4294967296 = ((a ||| b : Nat) : Int) by omega]
theorem andW (h : a < 4294967296 ∧ b < 4294967296) : bin P .and t (u32 a) (u32 b) = some (u32 (a &&& b)) := by
  rw [bin_and]
  have e : (BitVec.ofInt IntKind.u32.bits (a : Int) &&& BitVec.ofInt IntKind.u32.bits (b : Int)).toNat = a &&& b := by
    rw [BitVec.toNat_and, BitVec.ofInt_natCast, BitVec.ofInt_natCast, BitVec.toNat_ofNat, BitVec.toNat_ofNat, show 2 ^ IntKind.u32.bits = 4294967296 from rfl, Nat.mod_eq_of_lt h.1, Nat.mod_eq_of_lt h.2]
  have : a &&& b ≤ a := Nat.and_le_left
  rw [e, wrapu32, show ((a &&& b : Nat) : Int) % 4294967296 = ((a &&& b : Nat) : Int) by omega]
theorem xorW (h : a < 4294967296 ∧ b < 4294967296) : bin P .xor t (u32 a) (u32 b) = some (u32 (a ^^^ b)) := by
  have h0 : bin P .xor t (u32 a) (u32 b) = some (.int .u32 (IntKind.u32.wrap (BitVec.ofInt IntKind.u32.bits (a : Int) ^^^ BitVec.ofInt IntKind.u32.bits (b : Int)).toNat)) := bin_int (by simp [binOp, Op.intBits, still]; rfl) rfl
  rw [h0]
  have e : (BitVec.ofInt IntKind.u32.bits (a : Int) ^^^ BitVec.ofInt IntKind.u32.bits (b : Int)).toNat = a ^^^ b := by
    rw [BitVec.toNat_xor, BitVec.ofInt_natCast, BitVec.ofInt_natCast, BitVec.toNat_ofNat, BitVec.toNat_ofNat, show 2 ^ IntKind.u32.bits = 4294967296 from rfl, Nat.mod_eq_of_lt h.1, Nat.mod_eq_of_lt h.2]
  have : a ^^^ b < 2 ^ 32 := Nat.xor_lt_two_pow h.1 h.2
  rw [e, wrapu32, show ((a ^^^ b : Nat) : Int) % 4294967296 = ((a ^^^ b : Nat) : Int) by omega]
theorem notW (h : a < 4294967296) : un P .xor (u32 a) = some (u32 (4294967295 ^^^ a)) := by
  have h0 : un P .xor (u32 a) = some (.int .u32 (IntKind.u32.wrap (BitVec.ofInt IntKind.u32.bits (4294967295 : Int) ^^^ BitVec.ofInt IntKind.u32.bits (a : Int)).toNat)) := by
    simp only [un, flat1, Op.unary, Op.intBits, still, if_true]; rfl
  rw [h0]
  have e : (BitVec.ofInt IntKind.u32.bits (4294967295 : Int) ^^^ BitVec.ofInt IntKind.u32.bits (a : Int)).toNat = 4294967295 ^^^ a := by
    rw [BitVec.toNat_xor, BitVec.ofInt_natCast, BitVec.toNat_ofNat, show 2 ^ IntKind.u32.bits = 4294967296 from rfl, Nat.mod_eq_of_lt h]; rfl
  have : 4294967295 ^^^ a < 2 ^ 32 := Nat.xor_lt_two_pow (by decide) h
  rw [e, wrapu32, show ((4294967295 ^^^ a : Nat) : Int) % 4294967296 = ((4294967295 ^^^ a : Nat) : Int) by omega]
theorem subW : bin P .sub t (u32 a) (u32 b) = some (u32 ((a + (4294967296 - b % 4294967296)) % 4294967296)) := by
  rw [bin_sub, wrapu32]; congr 2; omega
theorem addW : bin P .add t (u32 a) (u32 b) = some (u32 ((a + b) % 4294967296)) := by
  rw [bin_add, wrapu32]; congr 2

def Pu (H : AH) (Post : Value → Prop) (r : Value × AH) : Prop := ∃ v, r = (v, H) ∧ Post v
theorem Ev.callU {g : Nat → Nat → Option (Value × AH)} {H : AH} {Post : Value → Prop} {f : Nat → Nat → Value → AH → Option R} {Q : R → Prop} (hg : Ev g (Pu H Post)) (h : ∀ v, Post v → Ev (fun k n => f k n v H) Q) :
    Ev (fun k n => Go.AM.b2 (g k n) (f k n)) Q := Ev.b2 hg fun v' H' ⟨v, e, hv⟩ => by cases e; exact h _ hv
theorem Ev.doneU {H : AH} {Post : Value → Prop} {v : Value} (h : Post v) : Ev (fun _ _ => some (v, H)) (Pu H Post) := Ev.ret ⟨v, rfl, h⟩
theorem Pu.an {B H : AH} {Post : Value → Prop} {g : Nat → Nat → Option (Value × AH)} (hL : Le B H) (h : Ev g (Pu H Post)) : Ev g (An B H fun _ => Post) :=
  h.mono fun r ⟨v, e, hv⟩ => by subst e; exact (St.start hL).an hv
end Go.AM
set_option linter.unusedVariables false
namespace Go.AM
variable {α β R : Type} {P : Program} {t s d : TypeId} {a n : Nat}
section
variable {k : IntKind}
theorem lssL : bin P .lss t (.int k (a : Int)) (.int k (@OfNat.ofNat Int n instOfNat)) = some (.bool (decide (a < @OfNat.ofNat Nat n (instOfNatNat n)))) := lssN
theorem leqL : bin P .leq t (.int k (a : Int)) (.int k (@OfNat.ofNat Int n instOfNat)) = some (.bool (decide (a ≤ @OfNat.ofNat Nat n (instOfNatNat n)))) := leqN
theorem gtrL : bin P .gtr t (.int k (a : Int)) (.int k (@OfNat.ofNat Int n instOfNat)) = some (.bool (decide (@OfNat.ofNat Nat n (instOfNatNat n) < a))) := gtrN
theorem geqL : bin P .geq t (.int k (a : Int)) (.int k (@OfNat.ofNat Int n instOfNat)) = some (.bool (decide (@OfNat.ofNat Nat n (instOfNatNat n) ≤ a))) := geqN
theorem eqlL : bin P .eql t (.int k (a : Int)) (.int k (@OfNat.ofNat Int n instOfNat)) = some (.bool (decide (a = @OfNat.ofNat Nat n (instOfNatNat n)))) := eqlN
theorem neqL : bin P .neq t (.int k (a : Int)) (.int k (@OfNat.ofNat Int n instOfNat)) = some (.bool (decide (a ≠ @OfNat.ofNat Nat n (instOfNatNat n)))) := neqN
theorem remL (h : @OfNat.ofNat Nat n (instOfNatNat n) ≠ 0) : bin P .rem t (.int k (a : Int)) (.int k (@OfNat.ofNat Int n instOfNat)) = some (.int k ((a % @OfNat.ofNat Nat n (instOfNatNat n) : Nat) : Int)) := remN h
theorem shrL {k' : IntKind} (h : @OfNat.ofNat Nat n (instOfNatNat n) < k.bits) : bin P .shr t (.int k (a : Int)) (.int k' (@OfNat.ofNat Int n instOfNat)) = some (.int k ((a / 2 ^ @OfNat.ofNat Nat n (instOfNatNat n) : Nat) : Int)) := shrN h
end
theorem addL (h : a + @OfNat.ofNat Nat n (instOfNatNat n) < 9223372036854775808) : bin P .add t (i64 a) (.int .i64 (@OfNat.ofNat Int n instOfNat)) = some (i64 (a + @OfNat.ofNat Nat n (instOfNatNat n))) := addN h
theorem subL (h : @OfNat.ofNat Nat n (instOfNatNat n) ≤ a ∧ a < 9223372036854775808) : bin P .sub t (i64 a) (.int .i64 (@OfNat.ofNat Int n instOfNat)) = some (i64 (a - @OfNat.ofNat Nat n (instOfNatNat n))) := subN h
theorem lmul (h : @OfNat.ofNat Nat n (instOfNatNat n) * a < 9223372036854775808) : bin P .mul t (.int .i64 (@OfNat.ofNat Int n instOfNat)) (i64 a) = some (i64 (@OfNat.ofNat Nat n (instOfNatNat n) * a)) := mulN h
theorem mulL (h : a * @OfNat.ofNat Nat n (instOfNatNat n) < 9223372036854775808) : bin P .mul t (i64 a) (.int .i64 (@OfNat.ofNat Int n instOfNat)) = some (i64 (a * @OfNat.ofNat Nat n (instOfNatNat n))) := mulN h
theorem quoL (h : @OfNat.ofNat Nat n (instOfNatNat n) ≠ 0 ∧ a < 9223372036854775808) : bin P .quo t (i64 a) (.int .i64 (@OfNat.ofNat Int n instOfNat)) = some (i64 (a / @OfNat.ofNat Nat n (instOfNatNat n))) := quoN h
theorem shlQL {k' : IntKind} (h : @OfNat.ofNat Nat n (instOfNatNat n) < 64 ∧ a * 2 ^ @OfNat.ofNat Nat n (instOfNatNat n) < 18446744073709551616) : bin P .shl t (u64 a) (.int k' (@OfNat.ofNat Int n instOfNat)) = some (u64 (a * 2 ^ @OfNat.ofNat Nat n (instOfNatNat n))) := shlQ h
end Go.AM
namespace Go.AM
variable {P : Program} {t e : TypeId} {z : Value} {sz : Nat}
theorem RdN.ixN {B : AH} {v : Value} {xs : List Nat} {k : IntKind} {i : Nat} (h : RdN B v xs) (hE : Elt P t e z sz) (h0 : i < xs.length) : ∃ p, ixA P t v (.int k (i : Int)) = some p ∧ ∀ H', Mo B H' → ld P e H' p = some (u32 (xs.getD i 0)) := by
  obtain ⟨p, h1, h2⟩ := h.ix (x := (i : Int)) (k := k) hE.U hE.I hE.S hE.A (by omega)
  exact ⟨p, h1, fun H' hm => by have := h2 H' hm; rwa [Int.toNat_natCast] at this⟩
theorem RdN.uptoN {B : AH} {v : Value} {xs : List Nat} {k : IntKind} {i : Nat} (h : RdN B v xs) (hE : Elt P t e z sz) (h0 : i ≤ xs.length) : ∃ v', slc P t v none (some (.int k (i : Int))) = some v' ∧ RdN B v' (xs.take i) := by
  obtain ⟨v', h1, h2⟩ := h.upto (x := (i : Int)) (k := k) hE.U hE.I (by omega)
  exact ⟨v', h1, by rwa [Int.toNat_natCast] at h2⟩
theorem RdN.fromN {B : AH} {v : Value} {xs : List Nat} {k : IntKind} {i : Nat} (h : RdN B v xs) (hE : Elt P t e z sz) (h0 : i ≤ xs.length) : ∃ v', slc P t v (some (.int k (i : Int))) none = some v' ∧ RdN B v' (xs.drop i) := by
  obtain ⟨v', h1, h2⟩ := h.1.from (x := (i : Int)) (k := k) hE.U hE.I hE.S (by rw [List.length_map]; omega)
  rw [Int.toNat_natCast, ← List.map_drop] at h2
  exact ⟨v', h1, h2, h.2.drop i⟩
theorem RdN.lenN {B : AH} {v : Value} {xs : List Nat} (h : RdN B v xs) (hE : Elt P t e z sz) : lenV P t v = some (i64 xs.length) := h.len hE.U
theorem and1 {x : Int} (h : -9223372036854775808 ≤ x ∧ x < 9223372036854775808) {P : Program} {t : TypeId} : bin P .and t (.int .i64 x) (.int .i64 1) = some (.int .i64 (x % 2)) := by
  rw [bin_and]
  have e : ((BitVec.ofInt IntKind.i64.bits x) &&& (BitVec.ofInt IntKind.i64.bits 1)).toNat = (x % 2).toNat := by
    rw [BitVec.toNat_and]
    have h1 : (BitVec.ofInt IntKind.i64.bits 1).toNat = 1 := by decide
    have h2 : (BitVec.ofInt IntKind.i64.bits x).toNat = (x % 18446744073709551616).toNat := by
      rw [BitVec.toNat_ofInt]; rfl
    rw [h1, h2, Nat.and_one_is_mod]
    omega
  rw [e, wrap64 (by omega)]
  congr 2
  omega
end Go.AM
set_option linter.unusedVariables false
set_option maxRecDepth 100000
namespace Go.AM.Z
open Go Go.AM Go.Proofs
attribute [local irreducible] run bin un ld st box newV mkS fldA fld ixA ix slc slc3 build buildS cv cvS ap cpy lenV gOp pickV b2 aIf aChk evalK resume iterD Option.bind
theorem Us : Tryd.prog.underlying 22 = some (.slice 70) := by kernel_rfl
theorem Uw : Tryd.prog.underlying 70 = some (.int .u32) := by kernel_rfl
theorem Uq : Tryd.prog.underlying 62 = some (.int .u64) := by kernel_rfl
theorem Ui : Tryd.prog.underlying 3 = some (.int .i64) := by kernel_rfl
theorem Iw : (Tryd.prog.info? 70).isSome = true := by kernel_rfl
theorem Sw : szT Tryd.prog 70 = 1 := by kernel_rfl
theorem Bw : byT Tryd.prog 70 = 4 := by kernel_rfl
theorem Aw : aggT Tryd.prog 70 = some false := by kernel_rfl
theorem Zw : zeroT Tryd.prog 70 = some (.int .u32 0) := by kernel_rfl
theorem Ew : Elt Tryd.prog 22 70 (.int .u32 0) 4 := ⟨Us, Iw, Sw, Aw, Zw, Bw, rfl, rfl⟩

theorem trim_loop {B H : AH} (hL : Le B H) : ∀ (m : Nat) (xs : List Nat) (a : Value), xs.length = m → m < 1099511627776 → RdN B a xs →
    Ev (fun k n => f71_L0 k a n H) (fun o => ∃ v, o = (.exit 0, f71_X_L0 v, H) ∧ RdN B v (limbs (val xs))) := by
  intro m
  induction m with
  | zero =>
    intro xs a hx hm ha
    refine Ev.succ (fun k n => f71_L0_succ k a n H) ?_
    refine Ev.prim (ha.len Us) ?_
    refine Ev.prim bin_gtr ?_
    rw [show decide ((0 : Int) < (xs.length : Nat)) = false from decide_eq_false (by omega)]
    repeat (first | refine Ev.some2 ?_ | refine Ev.some1 ?_ | refine Ev.gDo ?_ | refine Ev.gSkipT ?_ | refine Ev.gSkipF ?_ | refine Ev.gUndef ?_ | refine Ev.gCall ?_ | refine Ev.tt ?_ | refine Ev.ff ?_ | refine Ev.gPrim (by (first | with_reducible exact lssL | with_reducible exact gtrL | with_reducible exact eqlL | with_reducible exact neqL | with_reducible exact leqL | with_reducible exact geqL | with_reducible exact lssN | with_reducible exact gtrN | with_reducible exact eqlN | with_reducible exact neqN | with_reducible exact leqN | with_reducible exact geqN | (with_reducible refine addL ?_; omega) | (with_reducible refine subL ?_; omega) | (with_reducible refine quoL ?_; omega) | (with_reducible refine mulL ?_; omega) | (with_reducible refine lmul ?_; omega) | (with_reducible refine addN ?_; omega) | (with_reducible refine subN ?_; omega) | (with_reducible refine quoN ?_; omega) | (with_reducible refine mulN ?_; omega) | (with_reducible refine addQ ?_; omega) | (with_reducible refine subQ ?_; omega) | (with_reducible refine mulQ ?_; omega) | (with_reducible refine shlQL ?_; omega) | (with_reducible refine shlQ ?_; omega) | (with_reducible refine remL ?_; decide) | (with_reducible refine shrL ?_; decide) | (with_reducible refine remN ?_; omega) | (with_reducible refine toU64 ?_ Uw Uq; omega) | (with_reducible exact toU32 Uq Uw) | exact bin_lss | exact bin_gtr | exact bin_eql | exact bin_neq | exact bin_leq | exact bin_geq | exact lenV_sl Us | exact ext_0 | exact ext_1 | exact ext_2 | exact pick_t | exact pick_f | exact bin_add64 (by omega) | exact bin_sub64 (by omega) | exact un_not | exact cv_int Uq Uw | exact cv_int Uw Uq | exact bin_add | exact bin_sub | exact bin_mul | rfl)) rfl ?_ | refine Ev.prim (by (first | with_reducible exact lssL | with_reducible exact gtrL | with_reducible exact eqlL | with_reducible exact neqL | with_reducible exact leqL | with_reducible exact geqL | with_reducible exact lssN | with_reducible exact gtrN | with_reducible exact eqlN | with_reducible exact neqN | with_reducible exact leqN | with_reducible exact geqN | (with_reducible refine addL ?_; omega) | (with_reducible refine subL ?_; omega) | (with_reducible refine quoL ?_; omega) | (with_reducible refine mulL ?_; omega) | (with_reducible refine lmul ?_; omega) | (with_reducible refine addN ?_; omega) | (with_reducible refine subN ?_; omega) | (with_reducible refine quoN ?_; omega) | (with_reducible refine mulN ?_; omega) | (with_reducible refine addQ ?_; omega) | (with_reducible refine subQ ?_; omega) | (with_reducible refine mulQ ?_; omega) | (with_reducible refine shlQL ?_; omega) | (with_reducible refine shlQ ?_; omega) | (with_reducible refine remL ?_; decide) | (with_reducible refine shrL ?_; decide) | (with_reducible refine remN ?_; omega) | (with_reducible refine toU64 ?_ Uw Uq; omega) | (with_reducible exact toU32 Uq Uw) | exact bin_lss | exact bin_gtr | exact bin_eql | exact bin_neq | exact bin_leq | exact bin_geq | exact lenV_sl Us | exact ext_0 | exact ext_1 | exact ext_2 | exact pick_t | exact pick_f | exact bin_add64 (by omega) | exact bin_sub64 (by omega) | exact un_not | exact cv_int Uq Uw | exact cv_int Uw Uq | exact bin_add | exact bin_sub | exact bin_mul | rfl)) ?_)
    have : xs = [] := List.length_eq_zero_iff.mp hx
    subst this
    exact Ev.ret ⟨a, rfl, by rw [show val [] = 0 from rfl, limbs_zero]; exact ha⟩
  | succ m ih =>
    intro xs a hx hm ha
    refine Ev.succ (fun k n => f71_L0_succ k a n H) ?_
    refine Ev.prim (ha.len Us) ?_
    refine Ev.prim bin_gtr ?_
    rw [show decide ((0 : Int) < (xs.length : Nat)) = true from decide_eq_true (by omega)]
    obtain ⟨p, hp1, hp2⟩ := ha.ixN (k := .i64) (i := xs.length - 1) Ew (by omega)
    repeat (first | refine Ev.some2 ?_ | refine Ev.some1 ?_ | refine Ev.gDo ?_ | refine Ev.gSkipT ?_ | refine Ev.gSkipF ?_ | refine Ev.gUndef ?_ | refine Ev.gCall ?_ | refine Ev.tt ?_ | refine Ev.ff ?_ | refine Ev.gPrim (by (first | with_reducible exact lssL | with_reducible exact gtrL | with_reducible exact eqlL | with_reducible exact neqL | with_reducible exact leqL | with_reducible exact geqL | with_reducible exact lssN | with_reducible exact gtrN | with_reducible exact eqlN | with_reducible exact neqN | with_reducible exact leqN | with_reducible exact geqN | (with_reducible refine addL ?_; omega) | (with_reducible refine subL ?_; omega) | (with_reducible refine quoL ?_; omega) | (with_reducible refine mulL ?_; omega) | (with_reducible refine lmul ?_; omega) | (with_reducible refine addN ?_; omega) | (with_reducible refine subN ?_; omega) | (with_reducible refine quoN ?_; omega) | (with_reducible refine mulN ?_; omega) | (with_reducible refine addQ ?_; omega) | (with_reducible refine subQ ?_; omega) | (with_reducible refine mulQ ?_; omega) | (with_reducible refine shlQL ?_; omega) | (with_reducible refine shlQ ?_; omega) | (with_reducible refine remL ?_; decide) | (with_reducible refine shrL ?_; decide) | (with_reducible refine remN ?_; omega) | (with_reducible refine toU64 ?_ Uw Uq; omega) | (with_reducible exact toU32 Uq Uw) | exact bin_lss | exact bin_gtr | exact bin_eql | exact bin_neq | exact bin_leq | exact bin_geq | exact lenV_sl Us | exact ext_0 | exact ext_1 | exact ext_2 | exact pick_t | exact pick_f | exact bin_add64 (by omega) | exact bin_sub64 (by omega) | exact un_not | exact cv_int Uq Uw | exact cv_int Uw Uq | exact bin_add | exact bin_sub | exact bin_mul | rfl)) rfl ?_ | refine Ev.prim (by (first | with_reducible exact lssL | with_reducible exact gtrL | with_reducible exact eqlL | with_reducible exact neqL | with_reducible exact leqL | with_reducible exact geqL | with_reducible exact lssN | with_reducible exact gtrN | with_reducible exact eqlN | with_reducible exact neqN | with_reducible exact leqN | with_reducible exact geqN | (with_reducible refine addL ?_; omega) | (with_reducible refine subL ?_; omega) | (with_reducible refine quoL ?_; omega) | (with_reducible refine mulL ?_; omega) | (with_reducible refine lmul ?_; omega) | (with_reducible refine addN ?_; omega) | (with_reducible refine subN ?_; omega) | (with_reducible refine quoN ?_; omega) | (with_reducible refine mulN ?_; omega) | (with_reducible refine addQ ?_; omega) | (with_reducible refine subQ ?_; omega) | (with_reducible refine mulQ ?_; omega) | (with_reducible refine shlQL ?_; omega) | (with_reducible refine shlQ ?_; omega) | (with_reducible refine remL ?_; decide) | (with_reducible refine shrL ?_; decide) | (with_reducible refine remN ?_; omega) | (with_reducible refine toU64 ?_ Uw Uq; omega) | (with_reducible exact toU32 Uq Uw) | exact bin_lss | exact bin_gtr | exact bin_eql | exact bin_neq | exact bin_leq | exact bin_geq | exact lenV_sl Us | exact ext_0 | exact ext_1 | exact ext_2 | exact pick_t | exact pick_f | exact bin_add64 (by omega) | exact bin_sub64 (by omega) | exact un_not | exact cv_int Uq Uw | exact cv_int Uw Uq | exact bin_add | exact bin_sub | exact bin_mul | rfl)) ?_)
    refine Ev.gPrim (ha.len Us) rfl ?_
    repeat (first | refine Ev.some2 ?_ | refine Ev.some1 ?_ | refine Ev.gDo ?_ | refine Ev.gSkipT ?_ | refine Ev.gSkipF ?_ | refine Ev.gUndef ?_ | refine Ev.gCall ?_ | refine Ev.tt ?_ | refine Ev.ff ?_ | refine Ev.gPrim (by (first | with_reducible exact lssL | with_reducible exact gtrL | with_reducible exact eqlL | with_reducible exact neqL | with_reducible exact leqL | with_reducible exact geqL | with_reducible exact lssN | with_reducible exact gtrN | with_reducible exact eqlN | with_reducible exact neqN | with_reducible exact leqN | with_reducible exact geqN | (with_reducible refine addL ?_; omega) | (with_reducible refine subL ?_; omega) | (with_reducible refine quoL ?_; omega) | (with_reducible refine mulL ?_; omega) | (with_reducible refine lmul ?_; omega) | (with_reducible refine addN ?_; omega) | (with_reducible refine subN ?_; omega) | (with_reducible refine quoN ?_; omega) | (with_reducible refine mulN ?_; omega) | (with_reducible refine addQ ?_; omega) | (with_reducible refine subQ ?_; omega) | (with_reducible refine mulQ ?_; omega) | (with_reducible refine shlQL ?_; omega) | (with_reducible refine shlQ ?_; omega) | (with_reducible refine remL ?_; decide) | (with_reducible refine shrL ?_; decide) | (with_reducible refine remN ?_; omega) | (with_reducible refine toU64 ?_ Uw Uq; omega) | (with_reducible exact toU32 Uq Uw) | exact bin_lss | exact bin_gtr | exact bin_eql | exact bin_neq | exact bin_leq | exact bin_geq | exact lenV_sl Us | exact ext_0 | exact ext_1 | exact ext_2 | exact pick_t | exact pick_f | exact bin_add64 (by omega) | exact bin_sub64 (by omega) | exact un_not | exact cv_int Uq Uw | exact cv_int Uw Uq | exact bin_add | exact bin_sub | exact bin_mul | rfl)) rfl ?_ | refine Ev.prim (by (first | with_reducible exact lssL | with_reducible exact gtrL | with_reducible exact eqlL | with_reducible exact neqL | with_reducible exact leqL | with_reducible exact geqL | with_reducible exact lssN | with_reducible exact gtrN | with_reducible exact eqlN | with_reducible exact neqN | with_reducible exact leqN | with_reducible exact geqN | (with_reducible refine addL ?_; omega) | (with_reducible refine subL ?_; omega) | (with_reducible refine quoL ?_; omega) | (with_reducible refine mulL ?_; omega) | (with_reducible refine lmul ?_; omega) | (with_reducible refine addN ?_; omega) | (with_reducible refine subN ?_; omega) | (with_reducible refine quoN ?_; omega) | (with_reducible refine mulN ?_; omega) | (with_reducible refine addQ ?_; omega) | (with_reducible refine subQ ?_; omega) | (with_reducible refine mulQ ?_; omega) | (with_reducible refine shlQL ?_; omega) | (with_reducible refine shlQ ?_; omega) | (with_reducible refine remL ?_; decide) | (with_reducible refine shrL ?_; decide) | (with_reducible refine remN ?_; omega) | (with_reducible refine toU64 ?_ Uw Uq; omega) | (with_reducible exact toU32 Uq Uw) | exact bin_lss | exact bin_gtr | exact bin_eql | exact bin_neq | exact bin_leq | exact bin_geq | exact lenV_sl Us | exact ext_0 | exact ext_1 | exact ext_2 | exact pick_t | exact pick_f | exact bin_add64 (by omega) | exact bin_sub64 (by omega) | exact un_not | exact cv_int Uq Uw | exact cv_int Uw Uq | exact bin_add | exact bin_sub | exact bin_mul | rfl)) ?_)
    refine Ev.gPrim hp1 rfl ?_
    repeat (first | refine Ev.some2 ?_ | refine Ev.some1 ?_ | refine Ev.gDo ?_ | refine Ev.gSkipT ?_ | refine Ev.gSkipF ?_ | refine Ev.gUndef ?_ | refine Ev.gCall ?_ | refine Ev.tt ?_ | refine Ev.ff ?_ | refine Ev.gPrim (by (first | with_reducible exact lssL | with_reducible exact gtrL | with_reducible exact eqlL | with_reducible exact neqL | with_reducible exact leqL | with_reducible exact geqL | with_reducible exact lssN | with_reducible exact gtrN | with_reducible exact eqlN | with_reducible exact neqN | with_reducible exact leqN | with_reducible exact geqN | (with_reducible refine addL ?_; omega) | (with_reducible refine subL ?_; omega) | (with_reducible refine quoL ?_; omega) | (with_reducible refine mulL ?_; omega) | (with_reducible refine lmul ?_; omega) | (with_reducible refine addN ?_; omega) | (with_reducible refine subN ?_; omega) | (with_reducible refine quoN ?_; omega) | (with_reducible refine mulN ?_; omega) | (with_reducible refine addQ ?_; omega) | (with_reducible refine subQ ?_; omega) | (with_reducible refine mulQ ?_; omega) | (with_reducible refine shlQL ?_; omega) | (with_reducible refine shlQ ?_; omega) | (with_reducible refine remL ?_; decide) | (with_reducible refine shrL ?_; decide) | (with_reducible refine remN ?_; omega) | (with_reducible refine toU64 ?_ Uw Uq; omega) | (with_reducible exact toU32 Uq Uw) | exact bin_lss | exact bin_gtr | exact bin_eql | exact bin_neq | exact bin_leq | exact bin_geq | exact lenV_sl Us | exact ext_0 | exact ext_1 | exact ext_2 | exact pick_t | exact pick_f | exact bin_add64 (by omega) | exact bin_sub64 (by omega) | exact un_not | exact cv_int Uq Uw | exact cv_int Uw Uq | exact bin_add | exact bin_sub | exact bin_mul | rfl)) rfl ?_ | refine Ev.prim (by (first | with_reducible exact lssL | with_reducible exact gtrL | with_reducible exact eqlL | with_reducible exact neqL | with_reducible exact leqL | with_reducible exact geqL | with_reducible exact lssN | with_reducible exact gtrN | with_reducible exact eqlN | with_reducible exact neqN | with_reducible exact leqN | with_reducible exact geqN | (with_reducible refine addL ?_; omega) | (with_reducible refine subL ?_; omega) | (with_reducible refine quoL ?_; omega) | (with_reducible refine mulL ?_; omega) | (with_reducible refine lmul ?_; omega) | (with_reducible refine addN ?_; omega) | (with_reducible refine subN ?_; omega) | (with_reducible refine quoN ?_; omega) | (with_reducible refine mulN ?_; omega) | (with_reducible refine addQ ?_; omega) | (with_reducible refine subQ ?_; omega) | (with_reducible refine mulQ ?_; omega) | (with_reducible refine shlQL ?_; omega) | (with_reducible refine shlQ ?_; omega) | (with_reducible refine remL ?_; decide) | (with_reducible refine shrL ?_; decide) | (with_reducible refine remN ?_; omega) | (with_reducible refine toU64 ?_ Uw Uq; omega) | (with_reducible exact toU32 Uq Uw) | exact bin_lss | exact bin_gtr | exact bin_eql | exact bin_neq | exact bin_leq | exact bin_geq | exact lenV_sl Us | exact ext_0 | exact ext_1 | exact ext_2 | exact pick_t | exact pick_f | exact bin_add64 (by omega) | exact bin_sub64 (by omega) | exact un_not | exact cv_int Uq Uw | exact cv_int Uw Uq | exact bin_add | exact bin_sub | exact bin_mul | rfl)) ?_)
    refine Ev.gPrim (hp2 H hL.le) rfl ?_
    repeat (first | refine Ev.some2 ?_ | refine Ev.some1 ?_ | refine Ev.gDo ?_ | refine Ev.gSkipT ?_ | refine Ev.gSkipF ?_ | refine Ev.gUndef ?_ | refine Ev.gCall ?_ | refine Ev.tt ?_ | refine Ev.ff ?_ | refine Ev.gPrim (by (first | with_reducible exact lssL | with_reducible exact gtrL | with_reducible exact eqlL | with_reducible exact neqL | with_reducible exact leqL | with_reducible exact geqL | with_reducible exact lssN | with_reducible exact gtrN | with_reducible exact eqlN | with_reducible exact neqN | with_reducible exact leqN | with_reducible exact geqN | (with_reducible refine addL ?_; omega) | (with_reducible refine subL ?_; omega) | (with_reducible refine quoL ?_; omega) | (with_reducible refine mulL ?_; omega) | (with_reducible refine lmul ?_; omega) | (with_reducible refine addN ?_; omega) | (with_reducible refine subN ?_; omega) | (with_reducible refine quoN ?_; omega) | (with_reducible refine mulN ?_; omega) | (with_reducible refine addQ ?_; omega) | (with_reducible refine subQ ?_; omega) | (with_reducible refine mulQ ?_; omega) | (with_reducible refine shlQL ?_; omega) | (with_reducible refine shlQ ?_; omega) | (with_reducible refine remL ?_; decide) | (with_reducible refine shrL ?_; decide) | (with_reducible refine remN ?_; omega) | (with_reducible refine toU64 ?_ Uw Uq; omega) | (with_reducible exact toU32 Uq Uw) | exact bin_lss | exact bin_gtr | exact bin_eql | exact bin_neq | exact bin_leq | exact bin_geq | exact lenV_sl Us | exact ext_0 | exact ext_1 | exact ext_2 | exact pick_t | exact pick_f | exact bin_add64 (by omega) | exact bin_sub64 (by omega) | exact un_not | exact cv_int Uq Uw | exact cv_int Uw Uq | exact bin_add | exact bin_sub | exact bin_mul | rfl)) rfl ?_ | refine Ev.prim (by (first | with_reducible exact lssL | with_reducible exact gtrL | with_reducible exact eqlL | with_reducible exact neqL | with_reducible exact leqL | with_reducible exact geqL | with_reducible exact lssN | with_reducible exact gtrN | with_reducible exact eqlN | with_reducible exact neqN | with_reducible exact leqN | with_reducible exact geqN | (with_reducible refine addL ?_; omega) | (with_reducible refine subL ?_; omega) | (with_reducible refine quoL ?_; omega) | (with_reducible refine mulL ?_; omega) | (with_reducible refine lmul ?_; omega) | (with_reducible refine addN ?_; omega) | (with_reducible refine subN ?_; omega) | (with_reducible refine quoN ?_; omega) | (with_reducible refine mulN ?_; omega) | (with_reducible refine addQ ?_; omega) | (with_reducible refine subQ ?_; omega) | (with_reducible refine mulQ ?_; omega) | (with_reducible refine shlQL ?_; omega) | (with_reducible refine shlQ ?_; omega) | (with_reducible refine remL ?_; decide) | (with_reducible refine shrL ?_; decide) | (with_reducible refine remN ?_; omega) | (with_reducible refine toU64 ?_ Uw Uq; omega) | (with_reducible exact toU32 Uq Uw) | exact bin_lss | exact bin_gtr | exact bin_eql | exact bin_neq | exact bin_leq | exact bin_geq | exact lenV_sl Us | exact ext_0 | exact ext_1 | exact ext_2 | exact pick_t | exact pick_f | exact bin_add64 (by omega) | exact bin_sub64 (by omega) | exact un_not | exact cv_int Uq Uw | exact cv_int Uw Uq | exact bin_add | exact bin_sub | exact bin_mul | rfl)) ?_)
    rw [show xs.length - 1 = m by omega]
    have hd : xs = xs.dropLast ++ [xs.getD m 0] := by
      have h1 : xs ≠ [] := by intro e; subst e; cases hx
      conv => lhs; rw [← List.dropLast_concat_getLast h1]
      rw [List.getLast_eq_getElem, List.getD_eq_getElem?_getD, List.getElem?_eq_getElem (by omega)]
      simp [hx]
    refine Ev.ifp (fun h => ?_) (fun h => ?_)
    · repeat (first | refine Ev.some2 ?_ | refine Ev.some1 ?_ | refine Ev.gDo ?_ | refine Ev.gSkipT ?_ | refine Ev.gSkipF ?_ | refine Ev.gUndef ?_ | refine Ev.gCall ?_ | refine Ev.tt ?_ | refine Ev.ff ?_ | refine Ev.gPrim (by (first | with_reducible exact lssL | with_reducible exact gtrL | with_reducible exact eqlL | with_reducible exact neqL | with_reducible exact leqL | with_reducible exact geqL | with_reducible exact lssN | with_reducible exact gtrN | with_reducible exact eqlN | with_reducible exact neqN | with_reducible exact leqN | with_reducible exact geqN | (with_reducible refine addL ?_; omega) | (with_reducible refine subL ?_; omega) | (with_reducible refine quoL ?_; omega) | (with_reducible refine mulL ?_; omega) | (with_reducible refine lmul ?_; omega) | (with_reducible refine addN ?_; omega) | (with_reducible refine subN ?_; omega) | (with_reducible refine quoN ?_; omega) | (with_reducible refine mulN ?_; omega) | (with_reducible refine addQ ?_; omega) | (with_reducible refine subQ ?_; omega) | (with_reducible refine mulQ ?_; omega) | (with_reducible refine shlQL ?_; omega) | (with_reducible refine shlQ ?_; omega) | (with_reducible refine remL ?_; decide) | (with_reducible refine shrL ?_; decide) | (with_reducible refine remN ?_; omega) | (with_reducible refine toU64 ?_ Uw Uq; omega) | (with_reducible exact toU32 Uq Uw) | exact bin_lss | exact bin_gtr | exact bin_eql | exact bin_neq | exact bin_leq | exact bin_geq | exact lenV_sl Us | exact ext_0 | exact ext_1 | exact ext_2 | exact pick_t | exact pick_f | exact bin_add64 (by omega) | exact bin_sub64 (by omega) | exact un_not | exact cv_int Uq Uw | exact cv_int Uw Uq | exact bin_add | exact bin_sub | exact bin_mul | rfl)) rfl ?_ | refine Ev.prim (by (first | with_reducible exact lssL | with_reducible exact gtrL | with_reducible exact eqlL | with_reducible exact neqL | with_reducible exact leqL | with_reducible exact geqL | with_reducible exact lssN | with_reducible exact gtrN | with_reducible exact eqlN | with_reducible exact neqN | with_reducible exact leqN | with_reducible exact geqN | (with_reducible refine addL ?_; omega) | (with_reducible refine subL ?_; omega) | (with_reducible refine quoL ?_; omega) | (with_reducible refine mulL ?_; omega) | (with_reducible refine lmul ?_; omega) | (with_reducible refine addN ?_; omega) | (with_reducible refine subN ?_; omega) | (with_reducible refine quoN ?_; omega) | (with_reducible refine mulN ?_; omega) | (with_reducible refine addQ ?_; omega) | (with_reducible refine subQ ?_; omega) | (with_reducible refine mulQ ?_; omega) | (with_reducible refine shlQL ?_; omega) | (with_reducible refine shlQ ?_; omega) | (with_reducible refine remL ?_; decide) | (with_reducible refine shrL ?_; decide) | (with_reducible refine remN ?_; omega) | (with_reducible refine toU64 ?_ Uw Uq; omega) | (with_reducible exact toU32 Uq Uw) | exact bin_lss | exact bin_gtr | exact bin_eql | exact bin_neq | exact bin_leq | exact bin_geq | exact lenV_sl Us | exact ext_0 | exact ext_1 | exact ext_2 | exact pick_t | exact pick_f | exact bin_add64 (by omega) | exact bin_sub64 (by omega) | exact un_not | exact cv_int Uq Uw | exact cv_int Uw Uq | exact bin_add | exact bin_sub | exact bin_mul | rfl)) ?_)
      refine Ev.prim (ha.len Us) ?_
      repeat (first | refine Ev.some2 ?_ | refine Ev.some1 ?_ | refine Ev.gDo ?_ | refine Ev.gSkipT ?_ | refine Ev.gSkipF ?_ | refine Ev.gUndef ?_ | refine Ev.gCall ?_ | refine Ev.tt ?_ | refine Ev.ff ?_ | refine Ev.gPrim (by (first | with_reducible exact lssL | with_reducible exact gtrL | with_reducible exact eqlL | with_reducible exact neqL | with_reducible exact leqL | with_reducible exact geqL | with_reducible exact lssN | with_reducible exact gtrN | with_reducible exact eqlN | with_reducible exact neqN | with_reducible exact leqN | with_reducible exact geqN | (with_reducible refine addL ?_; omega) | (with_reducible refine subL ?_; omega) | (with_reducible refine quoL ?_; omega) | (with_reducible refine mulL ?_; omega) | (with_reducible refine lmul ?_; omega) | (with_reducible refine addN ?_; omega) | (with_reducible refine subN ?_; omega) | (with_reducible refine quoN ?_; omega) | (with_reducible refine mulN ?_; omega) | (with_reducible refine addQ ?_; omega) | (with_reducible refine subQ ?_; omega) | (with_reducible refine mulQ ?_; omega) | (with_reducible refine shlQL ?_; omega) | (with_reducible refine shlQ ?_; omega) | (with_reducible refine remL ?_; decide) | (with_reducible refine shrL ?_; decide) | (with_reducible refine remN ?_; omega) | (with_reducible refine toU64 ?_ Uw Uq; omega) | (with_reducible exact toU32 Uq Uw) | exact bin_lss | exact bin_gtr | exact bin_eql | exact bin_neq | exact bin_leq | exact bin_geq | exact lenV_sl Us | exact ext_0 | exact ext_1 | exact ext_2 | exact pick_t | exact pick_f | exact bin_add64 (by omega) | exact bin_sub64 (by omega) | exact un_not | exact cv_int Uq Uw | exact cv_int Uw Uq | exact bin_add | exact bin_sub | exact bin_mul | rfl)) rfl ?_ | refine Ev.prim (by (first | with_reducible exact lssL | with_reducible exact gtrL | with_reducible exact eqlL | with_reducible exact neqL | with_reducible exact leqL | with_reducible exact geqL | with_reducible exact lssN | with_reducible exact gtrN | with_reducible exact eqlN | with_reducible exact neqN | with_reducible exact leqN | with_reducible exact geqN | (with_reducible refine addL ?_; omega) | (with_reducible refine subL ?_; omega) | (with_reducible refine quoL ?_; omega) | (with_reducible refine mulL ?_; omega) | (with_reducible refine lmul ?_; omega) | (with_reducible refine addN ?_; omega) | (with_reducible refine subN ?_; omega) | (with_reducible refine quoN ?_; omega) | (with_reducible refine mulN ?_; omega) | (with_reducible refine addQ ?_; omega) | (with_reducible refine subQ ?_; omega) | (with_reducible refine mulQ ?_; omega) | (with_reducible refine shlQL ?_; omega) | (with_reducible refine shlQ ?_; omega) | (with_reducible refine remL ?_; decide) | (with_reducible refine shrL ?_; decide) | (with_reducible refine remN ?_; omega) | (with_reducible refine toU64 ?_ Uw Uq; omega) | (with_reducible exact toU32 Uq Uw) | exact bin_lss | exact bin_gtr | exact bin_eql | exact bin_neq | exact bin_leq | exact bin_geq | exact lenV_sl Us | exact ext_0 | exact ext_1 | exact ext_2 | exact pick_t | exact pick_f | exact bin_add64 (by omega) | exact bin_sub64 (by omega) | exact un_not | exact cv_int Uq Uw | exact cv_int Uw Uq | exact bin_add | exact bin_sub | exact bin_mul | rfl)) ?_)
      obtain ⟨v, hv1, hv2⟩ := ha.uptoN (k := .i64) (i := xs.length - 1) Ew (by omega)
      refine Ev.prim hv1 ?_
      rw [← List.dropLast_eq_take] at hv2
      have hz : xs.getD m 0 = 0 := by omega
      rw [hz] at hd
      have e : val xs = val xs.dropLast := by conv => lhs; rw [hd, val_snoc_zero]
      rw [e]
      exact ih _ _ (by simp; omega) (by omega) hv2
    · repeat (first | refine Ev.some2 ?_ | refine Ev.some1 ?_ | refine Ev.gDo ?_ | refine Ev.gSkipT ?_ | refine Ev.gSkipF ?_ | refine Ev.gUndef ?_ | refine Ev.gCall ?_ | refine Ev.tt ?_ | refine Ev.ff ?_ | refine Ev.gPrim (by (first | with_reducible exact lssL | with_reducible exact gtrL | with_reducible exact eqlL | with_reducible exact neqL | with_reducible exact leqL | with_reducible exact geqL | with_reducible exact lssN | with_reducible exact gtrN | with_reducible exact eqlN | with_reducible exact neqN | with_reducible exact leqN | with_reducible exact geqN | (with_reducible refine addL ?_; omega) | (with_reducible refine subL ?_; omega) | (with_reducible refine quoL ?_; omega) | (with_reducible refine mulL ?_; omega) | (with_reducible refine lmul ?_; omega) | (with_reducible refine addN ?_; omega) | (with_reducible refine subN ?_; omega) | (with_reducible refine quoN ?_; omega) | (with_reducible refine mulN ?_; omega) | (with_reducible refine addQ ?_; omega) | (with_reducible refine subQ ?_; omega) | (with_reducible refine mulQ ?_; omega) | (with_reducible refine shlQL ?_; omega) | (with_reducible refine shlQ ?_; omega) | (with_reducible refine remL ?_; decide) | (with_reducible refine shrL ?_; decide) | (with_reducible refine remN ?_; omega) | (with_reducible refine toU64 ?_ Uw Uq; omega) | (with_reducible exact toU32 Uq Uw) | exact bin_lss | exact bin_gtr | exact bin_eql | exact bin_neq | exact bin_leq | exact bin_geq | exact lenV_sl Us | exact ext_0 | exact ext_1 | exact ext_2 | exact pick_t | exact pick_f | exact bin_add64 (by omega) | exact bin_sub64 (by omega) | exact un_not | exact cv_int Uq Uw | exact cv_int Uw Uq | exact bin_add | exact bin_sub | exact bin_mul | rfl)) rfl ?_ | refine Ev.prim (by (first | with_reducible exact lssL | with_reducible exact gtrL | with_reducible exact eqlL | with_reducible exact neqL | with_reducible exact leqL | with_reducible exact geqL | with_reducible exact lssN | with_reducible exact gtrN | with_reducible exact eqlN | with_reducible exact neqN | with_reducible exact leqN | with_reducible exact geqN | (with_reducible refine addL ?_; omega) | (with_reducible refine subL ?_; omega) | (with_reducible refine quoL ?_; omega) | (with_reducible refine mulL ?_; omega) | (with_reducible refine lmul ?_; omega) | (with_reducible refine addN ?_; omega) | (with_reducible refine subN ?_; omega) | (with_reducible refine quoN ?_; omega) | (with_reducible refine mulN ?_; omega) | (with_reducible refine addQ ?_; omega) | (with_reducible refine subQ ?_; omega) | (with_reducible refine mulQ ?_; omega) | (with_reducible refine shlQL ?_; omega) | (with_reducible refine shlQ ?_; omega) | (with_reducible refine remL ?_; decide) | (with_reducible refine shrL ?_; decide) | (with_reducible refine remN ?_; omega) | (with_reducible refine toU64 ?_ Uw Uq; omega) | (with_reducible exact toU32 Uq Uw) | exact bin_lss | exact bin_gtr | exact bin_eql | exact bin_neq | exact bin_leq | exact bin_geq | exact lenV_sl Us | exact ext_0 | exact ext_1 | exact ext_2 | exact pick_t | exact pick_f | exact bin_add64 (by omega) | exact bin_sub64 (by omega) | exact un_not | exact cv_int Uq Uw | exact cv_int Uw Uq | exact bin_add | exact bin_sub | exact bin_mul | rfl)) ?_)
      refine Ev.ret ⟨a, rfl, ?_⟩
      rw [limbs_val ha.2 (fun y hy => ?_)]
      · exact ha
      · rw [hd, List.getLast?_append] at hy
        have hy : xs.getD m 0 = y := by simpa using hy
        omega
theorem trim_pure {B H : AH} {xs : List Nat} {a : Value} (hm : xs.length < 1099511627776) (ha : RdN B a xs) (hL : Le B H) : Ev (fun k _ => rn k 71 [a] H) (Pu H fun v => RdN B v (limbs (val xs))) := by
  refine Ev.fn (fun k => f71_eq k a H) ?_
  refine Ev.bind (Ev.loop (trim_loop hL _ xs a rfl hm ha)) ?_
  rintro _ ⟨v, rfl, hv⟩
  refine Ev.eq (fun k _ => f71_A0_x0 k v H) ?_
  exact Ev.doneU hv
theorem trim_spec {B H : AH} {xs : List Nat} {a : Value} (hm : xs.length < 1099511627776) (ha : RdN B a xs) (hL : Le B H) : Ev (fun k _ => rn k 71 [a] H) (An B H fun B' v => RdN B' v (limbs (val xs))) :=
  (trim_pure hm ha hL).mono fun r ⟨v, e, hv⟩ => by subst e; exact (St.start hL).an hv
theorem clone_spec {B H : AH} {xs : List Nat} {a : Value} (hm : xs.length < 1099511627776) (ha : RdN B a xs) (hL : Le B H) : Ev (fun k _ => rn k 80 [a] H) (An B H fun B' v => RdN B' v xs) := by
  refine Ev.fn (fun k => f80_eq k a H) ?_
  have hS := St.start hL
  obtain ⟨ha1, ha2⟩ := ha
  rcases ha1 with ⟨rfl, hx⟩ | ⟨b, off, cap, rfl, hc, h⟩
  · refine Ev.prim (a := .bool true) (by kernel_rfl) ?_
    repeat (first | refine Ev.some2 ?_ | refine Ev.some1 ?_ | refine Ev.gDo ?_ | refine Ev.gSkipT ?_ | refine Ev.gSkipF ?_ | refine Ev.gUndef ?_ | refine Ev.gCall ?_ | refine Ev.tt ?_ | refine Ev.ff ?_ | refine Ev.gPrim (by (first | with_reducible exact lssL | with_reducible exact gtrL | with_reducible exact eqlL | with_reducible exact neqL | with_reducible exact leqL | with_reducible exact geqL | with_reducible exact lssN | with_reducible exact gtrN | with_reducible exact eqlN | with_reducible exact neqN | with_reducible exact leqN | with_reducible exact geqN | (with_reducible refine addL ?_; omega) | (with_reducible refine subL ?_; omega) | (with_reducible refine quoL ?_; omega) | (with_reducible refine mulL ?_; omega) | (with_reducible refine lmul ?_; omega) | (with_reducible refine addN ?_; omega) | (with_reducible refine subN ?_; omega) | (with_reducible refine quoN ?_; omega) | (with_reducible refine mulN ?_; omega) | (with_reducible refine addQ ?_; omega) | (with_reducible refine subQ ?_; omega) | (with_reducible refine mulQ ?_; omega) | (with_reducible refine shlQL ?_; omega) | (with_reducible refine shlQ ?_; omega) | (with_reducible refine remL ?_; decide) | (with_reducible refine shrL ?_; decide) | (with_reducible refine remN ?_; omega) | (with_reducible refine toU64 ?_ Uw Uq; omega) | (with_reducible exact toU32 Uq Uw) | exact bin_lss | exact bin_gtr | exact bin_eql | exact bin_neq | exact bin_leq | exact bin_geq | exact lenV_sl Us | exact ext_0 | exact ext_1 | exact ext_2 | exact pick_t | exact pick_f | exact bin_add64 (by omega) | exact bin_sub64 (by omega) | exact un_not | exact cv_int Uq Uw | exact cv_int Uw Uq | exact bin_add | exact bin_sub | exact bin_mul | rfl)) rfl ?_ | refine Ev.prim (by (first | with_reducible exact lssL | with_reducible exact gtrL | with_reducible exact eqlL | with_reducible exact neqL | with_reducible exact leqL | with_reducible exact geqL | with_reducible exact lssN | with_reducible exact gtrN | with_reducible exact eqlN | with_reducible exact neqN | with_reducible exact leqN | with_reducible exact geqN | (with_reducible refine addL ?_; omega) | (with_reducible refine subL ?_; omega) | (with_reducible refine quoL ?_; omega) | (with_reducible refine mulL ?_; omega) | (with_reducible refine lmul ?_; omega) | (with_reducible refine addN ?_; omega) | (with_reducible refine subN ?_; omega) | (with_reducible refine quoN ?_; omega) | (with_reducible refine mulN ?_; omega) | (with_reducible refine addQ ?_; omega) | (with_reducible refine subQ ?_; omega) | (with_reducible refine mulQ ?_; omega) | (with_reducible refine shlQL ?_; omega) | (with_reducible refine shlQ ?_; omega) | (with_reducible refine remL ?_; decide) | (with_reducible refine shrL ?_; decide) | (with_reducible refine remN ?_; omega) | (with_reducible refine toU64 ?_ Uw Uq; omega) | (with_reducible exact toU32 Uq Uw) | exact bin_lss | exact bin_gtr | exact bin_eql | exact bin_neq | exact bin_leq | exact bin_geq | exact lenV_sl Us | exact ext_0 | exact ext_1 | exact ext_2 | exact pick_t | exact pick_f | exact bin_add64 (by omega) | exact bin_sub64 (by omega) | exact un_not | exact cv_int Uq Uw | exact cv_int Uw Uq | exact bin_add | exact bin_sub | exact bin_mul | rfl)) ?_)
    exact Ev.done hS ⟨.inl ⟨rfl, hx⟩, ha2⟩
  · refine Ev.prim (bin_eql_sl Us) ?_
    repeat (first | refine Ev.some2 ?_ | refine Ev.some1 ?_ | refine Ev.gDo ?_ | refine Ev.gSkipT ?_ | refine Ev.gSkipF ?_ | refine Ev.gUndef ?_ | refine Ev.gCall ?_ | refine Ev.tt ?_ | refine Ev.ff ?_ | refine Ev.gPrim (by (first | with_reducible exact lssL | with_reducible exact gtrL | with_reducible exact eqlL | with_reducible exact neqL | with_reducible exact leqL | with_reducible exact geqL | with_reducible exact lssN | with_reducible exact gtrN | with_reducible exact eqlN | with_reducible exact neqN | with_reducible exact leqN | with_reducible exact geqN | (with_reducible refine addL ?_; omega) | (with_reducible refine subL ?_; omega) | (with_reducible refine quoL ?_; omega) | (with_reducible refine mulL ?_; omega) | (with_reducible refine lmul ?_; omega) | (with_reducible refine addN ?_; omega) | (with_reducible refine subN ?_; omega) | (with_reducible refine quoN ?_; omega) | (with_reducible refine mulN ?_; omega) | (with_reducible refine addQ ?_; omega) | (with_reducible refine subQ ?_; omega) | (with_reducible refine mulQ ?_; omega) | (with_reducible refine shlQL ?_; omega) | (with_reducible refine shlQ ?_; omega) | (with_reducible refine remL ?_; decide) | (with_reducible refine shrL ?_; decide) | (with_reducible refine remN ?_; omega) | (with_reducible refine toU64 ?_ Uw Uq; omega) | (with_reducible exact toU32 Uq Uw) | exact bin_lss | exact bin_gtr | exact bin_eql | exact bin_neq | exact bin_leq | exact bin_geq | exact lenV_sl Us | exact ext_0 | exact ext_1 | exact ext_2 | exact pick_t | exact pick_f | exact bin_add64 (by omega) | exact bin_sub64 (by omega) | exact un_not | exact cv_int Uq Uw | exact cv_int Uw Uq | exact bin_add | exact bin_sub | exact bin_mul | rfl)) rfl ?_ | refine Ev.prim (by (first | with_reducible exact lssL | with_reducible exact gtrL | with_reducible exact eqlL | with_reducible exact neqL | with_reducible exact leqL | with_reducible exact geqL | with_reducible exact lssN | with_reducible exact gtrN | with_reducible exact eqlN | with_reducible exact neqN | with_reducible exact leqN | with_reducible exact geqN | (with_reducible refine addL ?_; omega) | (with_reducible refine subL ?_; omega) | (with_reducible refine quoL ?_; omega) | (with_reducible refine mulL ?_; omega) | (with_reducible refine lmul ?_; omega) | (with_reducible refine addN ?_; omega) | (with_reducible refine subN ?_; omega) | (with_reducible refine quoN ?_; omega) | (with_reducible refine mulN ?_; omega) | (with_reducible refine addQ ?_; omega) | (with_reducible refine subQ ?_; omega) | (with_reducible refine mulQ ?_; omega) | (with_reducible refine shlQL ?_; omega) | (with_reducible refine shlQ ?_; omega) | (with_reducible refine remL ?_; decide) | (with_reducible refine shrL ?_; decide) | (with_reducible refine remN ?_; omega) | (with_reducible refine toU64 ?_ Uw Uq; omega) | (with_reducible exact toU32 Uq Uw) | exact bin_lss | exact bin_gtr | exact bin_eql | exact bin_neq | exact bin_leq | exact bin_geq | exact lenV_sl Us | exact ext_0 | exact ext_1 | exact ext_2 | exact pick_t | exact pick_f | exact bin_add64 (by omega) | exact bin_sub64 (by omega) | exact un_not | exact cv_int Uq Uw | exact cv_int Uw Uq | exact bin_add | exact bin_sub | exact bin_mul | rfl)) ?_)
    refine Ev.buildS (cs := []) Ew hS (by decide) rfl fun b2 B2 H2 hm2 hS2 => ?_
    have hr : Sc B2 (sl b off (xs.map u32).length cap) (xs.map u32) := Sc.mono hm2 (.inr ⟨b, off, cap, rfl, hc, h⟩)
    by_cases he : xs = []
    · subst he
      refine Ev.apNone Ew Us (.inr ⟨_, _, _, _, rfl⟩) (hr.up hS2.le) ?_
      exact Ev.done hS2 ⟨.inr ⟨b2, 0, 0, rfl, Nat.le_refl _, .inl rfl⟩, ha2⟩
    · refine Ev.apNew Ew Us hS2 (.inr ⟨_, _, _, rfl⟩) (hr.up hS2.le) (all_u32 xs) (by simpa using he) (by rw [List.length_map]; omega) fun b3 B3 H3 hm3 hS3 => ?_
      obtain ⟨B4, hm4, hr4, hS4⟩ := hS3.freezeN (n := (xs.map u32).length) ha2 (List.length_map ..) (cap := (xs.map u32).length + 1) (by rw [List.length_map]; omega)
      exact Ev.done hS4 hr4
theorem Trim_spec {B H : AH} {xs : List Nat} {a : Value} (hm : xs.length < 1099511627776) (ha : RdN B a xs) (hL : Le B H) : Ev (fun k _ => rn k 70 [a] H) (An B H fun B' v => RdN B' v (limbs (val xs))) := by
  refine Ev.fn (fun k => f70_eq k a H) ?_
  refine Ev.call (St.start hL) (trim_spec hm ha) fun v B1 H1 hm1 hS1 h1 => ?_
  have := limbs_length_le (val_lt ha.2)
  refine Ev.call hS1 (clone_spec (by omega) h1) fun v2 B2 H2 hm2 hS2 h2 => ?_
  exact Ev.done hS2 h2
theorem From_spec {B H : AH} {n : Nat} (hn : n < 18446744073709551616) (hL : Le B H) : Ev (fun k _ => rn k 45 [.int .u64 n] H) (An B H fun B' v => RdN B' v (limbs n)) := by
  refine Ev.fn (fun k => f45_eq k _ H) ?_
  have hS := St.start hL
  repeat (first | refine Ev.some2 ?_ | refine Ev.some1 ?_ | refine Ev.gDo ?_ | refine Ev.gSkipT ?_ | refine Ev.gSkipF ?_ | refine Ev.gUndef ?_ | refine Ev.gCall ?_ | refine Ev.tt ?_ | refine Ev.ff ?_ | refine Ev.gPrim (by (first | with_reducible exact lssL | with_reducible exact gtrL | with_reducible exact eqlL | with_reducible exact neqL | with_reducible exact leqL | with_reducible exact geqL | with_reducible exact lssN | with_reducible exact gtrN | with_reducible exact eqlN | with_reducible exact neqN | with_reducible exact leqN | with_reducible exact geqN | (with_reducible refine addL ?_; omega) | (with_reducible refine subL ?_; omega) | (with_reducible refine quoL ?_; omega) | (with_reducible refine mulL ?_; omega) | (with_reducible refine lmul ?_; omega) | (with_reducible refine addN ?_; omega) | (with_reducible refine subN ?_; omega) | (with_reducible refine quoN ?_; omega) | (with_reducible refine mulN ?_; omega) | (with_reducible refine addQ ?_; omega) | (with_reducible refine subQ ?_; omega) | (with_reducible refine mulQ ?_; omega) | (with_reducible refine shlQL ?_; omega) | (with_reducible refine shlQ ?_; omega) | (with_reducible refine remL ?_; decide) | (with_reducible refine shrL ?_; decide) | (with_reducible refine remN ?_; omega) | (with_reducible refine toU64 ?_ Uw Uq; omega) | (with_reducible exact toU32 Uq Uw) | exact bin_lss | exact bin_gtr | exact bin_eql | exact bin_neq | exact bin_leq | exact bin_geq | exact lenV_sl Us | exact ext_0 | exact ext_1 | exact ext_2 | exact pick_t | exact pick_f | exact bin_add64 (by omega) | exact bin_sub64 (by omega) | exact un_not | exact cv_int Uq Uw | exact cv_int Uw Uq | exact bin_add | exact bin_sub | exact bin_mul | rfl)) rfl ?_ | refine Ev.prim (by (first | with_reducible exact lssL | with_reducible exact gtrL | with_reducible exact eqlL | with_reducible exact neqL | with_reducible exact leqL | with_reducible exact geqL | with_reducible exact lssN | with_reducible exact gtrN | with_reducible exact eqlN | with_reducible exact neqN | with_reducible exact leqN | with_reducible exact geqN | (with_reducible refine addL ?_; omega) | (with_reducible refine subL ?_; omega) | (with_reducible refine quoL ?_; omega) | (with_reducible refine mulL ?_; omega) | (with_reducible refine lmul ?_; omega) | (with_reducible refine addN ?_; omega) | (with_reducible refine subN ?_; omega) | (with_reducible refine quoN ?_; omega) | (with_reducible refine mulN ?_; omega) | (with_reducible refine addQ ?_; omega) | (with_reducible refine subQ ?_; omega) | (with_reducible refine mulQ ?_; omega) | (with_reducible refine shlQL ?_; omega) | (with_reducible refine shlQ ?_; omega) | (with_reducible refine remL ?_; decide) | (with_reducible refine shrL ?_; decide) | (with_reducible refine remN ?_; omega) | (with_reducible refine toU64 ?_ Uw Uq; omega) | (with_reducible exact toU32 Uq Uw) | exact bin_lss | exact bin_gtr | exact bin_eql | exact bin_neq | exact bin_leq | exact bin_geq | exact lenV_sl Us | exact ext_0 | exact ext_1 | exact ext_2 | exact pick_t | exact pick_f | exact bin_add64 (by omega) | exact bin_sub64 (by omega) | exact un_not | exact cv_int Uq Uw | exact cv_int Uw Uq | exact bin_add | exact bin_sub | exact bin_mul | rfl)) ?_)
  refine Ev.buildS (cs := [n % 4294967296, n / 4294967296].map u32) Ew hS (by decide) ?_ fun b2 B2 H2 hm2 hS2 => ?_
  · rw [Nat.mod_eq_of_lt (show n / 2 ^ 32 < 4294967296 by omega)]
    rfl
  · obtain ⟨B3, hm3, h3, hS3⟩ := hS2.freezeN (n := 2) (cap := 2) (xs := [n % 4294967296, n / 4294967296]) (by intro x hx; simp at hx; omega) rfl (Nat.le_refl _)
    refine Ev.call hS3 (trim_spec (by simp) h3) fun v B1 H1 hm1 hS1 h1 => ?_
    refine Ev.done hS1 ?_
    rw [show val [n % 4294967296, n / 4294967296] = n by simp only [val]; omega] at h1
    exact h1
theorem Add32_spec {H : AH} {a b c : Nat} (ha : a < 4294967296) (hb : b < 4294967296) (hc : c < 4294967296) :
    Ev (fun k _ => rn k 72 [u32 a, u32 b, u32 c] H) (fun r => r = (.tuple #[u32 ((a + b + c) % 4294967296), u32 ((a + b + c) / 4294967296)], H)) := by
  refine Ev.fn (fun k => f72_eq k _ _ _ H) ?_
  repeat (first | refine Ev.some2 ?_ | refine Ev.some1 ?_ | refine Ev.gDo ?_ | refine Ev.gSkipT ?_ | refine Ev.gSkipF ?_ | refine Ev.gUndef ?_ | refine Ev.gCall ?_ | refine Ev.tt ?_ | refine Ev.ff ?_ | refine Ev.gPrim (by (first | with_reducible exact lssL | with_reducible exact gtrL | with_reducible exact eqlL | with_reducible exact neqL | with_reducible exact leqL | with_reducible exact geqL | with_reducible exact lssN | with_reducible exact gtrN | with_reducible exact eqlN | with_reducible exact neqN | with_reducible exact leqN | with_reducible exact geqN | (with_reducible refine addL ?_; omega) | (with_reducible refine subL ?_; omega) | (with_reducible refine quoL ?_; omega) | (with_reducible refine mulL ?_; omega) | (with_reducible refine lmul ?_; omega) | (with_reducible refine addN ?_; omega) | (with_reducible refine subN ?_; omega) | (with_reducible refine quoN ?_; omega) | (with_reducible refine mulN ?_; omega) | (with_reducible refine addQ ?_; omega) | (with_reducible refine subQ ?_; omega) | (with_reducible refine mulQ ?_; omega) | (with_reducible refine shlQL ?_; omega) | (with_reducible refine shlQ ?_; omega) | (with_reducible refine remL ?_; decide) | (with_reducible refine shrL ?_; decide) | (with_reducible refine remN ?_; omega) | (with_reducible refine toU64 ?_ Uw Uq; omega) | (with_reducible exact toU32 Uq Uw) | exact bin_lss | exact bin_gtr | exact bin_eql | exact bin_neq | exact bin_leq | exact bin_geq | exact lenV_sl Us | exact ext_0 | exact ext_1 | exact ext_2 | exact pick_t | exact pick_f | exact bin_add64 (by omega) | exact bin_sub64 (by omega) | exact un_not | exact cv_int Uq Uw | exact cv_int Uw Uq | exact bin_add | exact bin_sub | exact bin_mul | rfl)) rfl ?_ | refine Ev.prim (by (first | with_reducible exact lssL | with_reducible exact gtrL | with_reducible exact eqlL | with_reducible exact neqL | with_reducible exact leqL | with_reducible exact geqL | with_reducible exact lssN | with_reducible exact gtrN | with_reducible exact eqlN | with_reducible exact neqN | with_reducible exact leqN | with_reducible exact geqN | (with_reducible refine addL ?_; omega) | (with_reducible refine subL ?_; omega) | (with_reducible refine quoL ?_; omega) | (with_reducible refine mulL ?_; omega) | (with_reducible refine lmul ?_; omega) | (with_reducible refine addN ?_; omega) | (with_reducible refine subN ?_; omega) | (with_reducible refine quoN ?_; omega) | (with_reducible refine mulN ?_; omega) | (with_reducible refine addQ ?_; omega) | (with_reducible refine subQ ?_; omega) | (with_reducible refine mulQ ?_; omega) | (with_reducible refine shlQL ?_; omega) | (with_reducible refine shlQ ?_; omega) | (with_reducible refine remL ?_; decide) | (with_reducible refine shrL ?_; decide) | (with_reducible refine remN ?_; omega) | (with_reducible refine toU64 ?_ Uw Uq; omega) | (with_reducible exact toU32 Uq Uw) | exact bin_lss | exact bin_gtr | exact bin_eql | exact bin_neq | exact bin_leq | exact bin_geq | exact lenV_sl Us | exact ext_0 | exact ext_1 | exact ext_2 | exact pick_t | exact pick_f | exact bin_add64 (by omega) | exact bin_sub64 (by omega) | exact un_not | exact cv_int Uq Uw | exact cv_int Uw Uq | exact bin_add | exact bin_sub | exact bin_mul | rfl)) ?_)
  rw [Nat.mod_eq_of_lt (show (a + b + c) / 2 ^ 32 < 4294967296 by omega)]
  exact Ev.ret rfl
theorem add_loop {H0 B0 B : AH} {xs ys : List Nat} {a b : Value} {bo : Nat} (ha : RdN B a xs) (hb : RdN B b ys) (hxy : ys.length ≤ xs.length) (hm : xs.length < 549755813888) :
    ∀ (m i : Nat) (j : Int) (zs : List Nat) (c : Nat) (H : AH), i + m = xs.length → j = i → zs.length = xs.length + 1 → small zs → c ≤ 1 → val (zs.take i) + 4294967296 ^ i * c = val (xs.take i) + val (ys.take i) →
    St H0 B0 B [(bo, ⟨zs.map u32, 70, .fix⟩)] H →
    Ev (fun k n => f46_L0 k a b (sl bo 0 (xs.length + 1) (xs.length + 1)) (u32 c) (.int .i64 (xs.length : Nat)) (.int .i64 j) n H)
      (fun o => ∃ zs c H, o = (.exit 0, f46_X_L0 a (sl bo 0 (xs.length + 1) (xs.length + 1)) (u32 c), H) ∧ zs.length = xs.length + 1 ∧ small zs ∧ c ≤ 1 ∧ val (zs.take xs.length) + 4294967296 ^ xs.length * c = val xs + val ys ∧
        St H0 B0 B [(bo, ⟨zs.map u32, 70, .fix⟩)] H) := by
  intro m
  induction m with
  | zero =>
    intro i j zs c H hi hj hz hsm hc hv hS
    refine Ev.succ (fun k n => f46_L0_succ k _ _ _ _ _ _ n H) ?_
    refine Ev.prim bin_lss ?_
    refine Ev.ifp (fun h => absurd h (by omega)) fun _ => ?_
    refine Ev.ret ⟨zs, c, H, rfl, hz, hsm, hc, ?_, hS⟩
    have : i = xs.length := by omega
    subst this
    rw [List.take_of_length_le (Nat.le_refl _) (l := xs), List.take_of_length_le hxy] at hv
    exact hv
  | succ m ih =>
    intro i j zs c H hi hj hz hsm hc hv hS
    subst hj
    refine Ev.succ (fun k n => f46_L0_succ k _ _ _ _ _ _ n H) ?_
    refine Ev.prim bin_lss ?_
    refine Ev.ifp (fun _ => ?_) fun h => absurd (by omega) h
    have hJ : ∀ y : Nat, y = ys.getD i 0 → Ev (fun k n => f46_J1 k n a b (sl bo 0 (xs.length + 1) (xs.length + 1)) (u32 c) (.int .i64 (i : Nat)) (u32 y) (.int .i64 (xs.length : Nat)) (.int .i64 (i : Nat)) H)
      (fun o => ∃ zs c H, o = (.exit 0, f46_X_L0 a (sl bo 0 (xs.length + 1) (xs.length + 1)) (u32 c), H) ∧ zs.length = xs.length + 1 ∧ small zs ∧ c ≤ 1 ∧ val (zs.take xs.length) + 4294967296 ^ xs.length * c = val xs + val ys ∧
        St H0 B0 B [(bo, ⟨zs.map u32, 70, .fix⟩)] H) := by
      intro y hy
      have hx := ha.2.getD i
      have hy' := hb.2.getD i
      refine Ev.eq (fun k n => f46_J1_eq k n _ _ _ _ _ _ _ _ H) ?_
      obtain ⟨p, hp1, hp2⟩ := ha.ix (x := (i : Int)) (k := .i64) Us Iw Sw Aw (by omega)
      refine Ev.prim hp1 ?_
      refine Ev.prim (hp2 H hS.le) ?_
      rw [show ((i : Int)).toNat = i by omega]
      refine Ev.callP (Add32_spec hx (by omega) (by omega)) ?_
      repeat (first | refine Ev.some2 ?_ | refine Ev.some1 ?_ | refine Ev.gDo ?_ | refine Ev.gSkipT ?_ | refine Ev.gSkipF ?_ | refine Ev.gUndef ?_ | refine Ev.gCall ?_ | refine Ev.tt ?_ | refine Ev.ff ?_ | refine Ev.gPrim (by (first | with_reducible exact lssL | with_reducible exact gtrL | with_reducible exact eqlL | with_reducible exact neqL | with_reducible exact leqL | with_reducible exact geqL | with_reducible exact lssN | with_reducible exact gtrN | with_reducible exact eqlN | with_reducible exact neqN | with_reducible exact leqN | with_reducible exact geqN | (with_reducible refine addL ?_; omega) | (with_reducible refine subL ?_; omega) | (with_reducible refine quoL ?_; omega) | (with_reducible refine mulL ?_; omega) | (with_reducible refine lmul ?_; omega) | (with_reducible refine addN ?_; omega) | (with_reducible refine subN ?_; omega) | (with_reducible refine quoN ?_; omega) | (with_reducible refine mulN ?_; omega) | (with_reducible refine addQ ?_; omega) | (with_reducible refine subQ ?_; omega) | (with_reducible refine mulQ ?_; omega) | (with_reducible refine shlQL ?_; omega) | (with_reducible refine shlQ ?_; omega) | (with_reducible refine remL ?_; decide) | (with_reducible refine shrL ?_; decide) | (with_reducible refine remN ?_; omega) | (with_reducible refine toU64 ?_ Uw Uq; omega) | (with_reducible exact toU32 Uq Uw) | exact bin_lss | exact bin_gtr | exact bin_eql | exact bin_neq | exact bin_leq | exact bin_geq | exact lenV_sl Us | exact ext_0 | exact ext_1 | exact ext_2 | exact pick_t | exact pick_f | exact bin_add64 (by omega) | exact bin_sub64 (by omega) | exact un_not | exact cv_int Uq Uw | exact cv_int Uw Uq | exact bin_add | exact bin_sub | exact bin_mul | rfl)) rfl ?_ | refine Ev.prim (by (first | with_reducible exact lssL | with_reducible exact gtrL | with_reducible exact eqlL | with_reducible exact neqL | with_reducible exact leqL | with_reducible exact geqL | with_reducible exact lssN | with_reducible exact gtrN | with_reducible exact eqlN | with_reducible exact neqN | with_reducible exact leqN | with_reducible exact geqN | (with_reducible refine addL ?_; omega) | (with_reducible refine subL ?_; omega) | (with_reducible refine quoL ?_; omega) | (with_reducible refine mulL ?_; omega) | (with_reducible refine lmul ?_; omega) | (with_reducible refine addN ?_; omega) | (with_reducible refine subN ?_; omega) | (with_reducible refine quoN ?_; omega) | (with_reducible refine mulN ?_; omega) | (with_reducible refine addQ ?_; omega) | (with_reducible refine subQ ?_; omega) | (with_reducible refine mulQ ?_; omega) | (with_reducible refine shlQL ?_; omega) | (with_reducible refine shlQ ?_; omega) | (with_reducible refine remL ?_; decide) | (with_reducible refine shrL ?_; decide) | (with_reducible refine remN ?_; omega) | (with_reducible refine toU64 ?_ Uw Uq; omega) | (with_reducible exact toU32 Uq Uw) | exact bin_lss | exact bin_gtr | exact bin_eql | exact bin_neq | exact bin_leq | exact bin_geq | exact lenV_sl Us | exact ext_0 | exact ext_1 | exact ext_2 | exact pick_t | exact pick_f | exact bin_add64 (by omega) | exact bin_sub64 (by omega) | exact un_not | exact cv_int Uq Uw | exact cv_int Uw Uq | exact bin_add | exact bin_sub | exact bin_mul | rfl)) ?_)
      refine Ev.prim (ixA_own Ew (by omega)) ?_
      refine Ev.stW Ew hS (by (first | exact .head _ | exact .tail _ (.head _) | exact .tail _ (.tail _ (.head _)) | exact .tail _ (.tail _ (.tail _ (.head _))) | exact .tail _ (.tail _ (.tail _ (.tail _ (.head _)))))) (j := i) (by omega) (by omega) rfl (by simp) (.head _) fun H' hS' => ?_
      repeat (first | refine Ev.some2 ?_ | refine Ev.some1 ?_ | refine Ev.gDo ?_ | refine Ev.gSkipT ?_ | refine Ev.gSkipF ?_ | refine Ev.gUndef ?_ | refine Ev.gCall ?_ | refine Ev.tt ?_ | refine Ev.ff ?_ | refine Ev.gPrim (by (first | with_reducible exact lssL | with_reducible exact gtrL | with_reducible exact eqlL | with_reducible exact neqL | with_reducible exact leqL | with_reducible exact geqL | with_reducible exact lssN | with_reducible exact gtrN | with_reducible exact eqlN | with_reducible exact neqN | with_reducible exact leqN | with_reducible exact geqN | (with_reducible refine addL ?_; omega) | (with_reducible refine subL ?_; omega) | (with_reducible refine quoL ?_; omega) | (with_reducible refine mulL ?_; omega) | (with_reducible refine lmul ?_; omega) | (with_reducible refine addN ?_; omega) | (with_reducible refine subN ?_; omega) | (with_reducible refine quoN ?_; omega) | (with_reducible refine mulN ?_; omega) | (with_reducible refine addQ ?_; omega) | (with_reducible refine subQ ?_; omega) | (with_reducible refine mulQ ?_; omega) | (with_reducible refine shlQL ?_; omega) | (with_reducible refine shlQ ?_; omega) | (with_reducible refine remL ?_; decide) | (with_reducible refine shrL ?_; decide) | (with_reducible refine remN ?_; omega) | (with_reducible refine toU64 ?_ Uw Uq; omega) | (with_reducible exact toU32 Uq Uw) | exact bin_lss | exact bin_gtr | exact bin_eql | exact bin_neq | exact bin_leq | exact bin_geq | exact lenV_sl Us | exact ext_0 | exact ext_1 | exact ext_2 | exact pick_t | exact pick_f | exact bin_add64 (by omega) | exact bin_sub64 (by omega) | exact un_not | exact cv_int Uq Uw | exact cv_int Uw Uq | exact bin_add | exact bin_sub | exact bin_mul | rfl)) rfl ?_ | refine Ev.prim (by (first | with_reducible exact lssL | with_reducible exact gtrL | with_reducible exact eqlL | with_reducible exact neqL | with_reducible exact leqL | with_reducible exact geqL | with_reducible exact lssN | with_reducible exact gtrN | with_reducible exact eqlN | with_reducible exact neqN | with_reducible exact leqN | with_reducible exact geqN | (with_reducible refine addL ?_; omega) | (with_reducible refine subL ?_; omega) | (with_reducible refine quoL ?_; omega) | (with_reducible refine mulL ?_; omega) | (with_reducible refine lmul ?_; omega) | (with_reducible refine addN ?_; omega) | (with_reducible refine subN ?_; omega) | (with_reducible refine quoN ?_; omega) | (with_reducible refine mulN ?_; omega) | (with_reducible refine addQ ?_; omega) | (with_reducible refine subQ ?_; omega) | (with_reducible refine mulQ ?_; omega) | (with_reducible refine shlQL ?_; omega) | (with_reducible refine shlQ ?_; omega) | (with_reducible refine remL ?_; decide) | (with_reducible refine shrL ?_; decide) | (with_reducible refine remN ?_; omega) | (with_reducible refine toU64 ?_ Uw Uq; omega) | (with_reducible exact toU32 Uq Uw) | exact bin_lss | exact bin_gtr | exact bin_eql | exact bin_neq | exact bin_leq | exact bin_geq | exact lenV_sl Us | exact ext_0 | exact ext_1 | exact ext_2 | exact pick_t | exact pick_f | exact bin_add64 (by omega) | exact bin_sub64 (by omega) | exact un_not | exact cv_int Uq Uw | exact cv_int Uw Uq | exact bin_add | exact bin_sub | exact bin_mul | rfl)) ?_)
      refine ih (i + 1) _ _ _ H' (by omega) (by omega) (by simp [hz]) (hsm.set _ (Nat.mod_lt _ (by decide))) (by omega) ?_ hS'
      rw [val_take_set (by omega), val_take_succ' xs, val_take_succ' ys, Nat.pow_succ, Nat.add_assoc, mul_step (Nat.mod_add_div _ _), ← hy]
      simp only [Nat.mul_add]
      omega
    refine Ev.prim (hb.len Us) ?_
    refine Ev.prim bin_lss ?_
    refine Ev.ifp (fun h => ?_) fun h => ?_
    · obtain ⟨p, hp1, hp2⟩ := hb.ix (x := (i : Int)) (k := .i64) Us Iw Sw Aw (by omega)
      refine Ev.prim hp1 ?_
      refine Ev.prim (hp2 H hS.le) ?_
      exact hJ _ rfl
    · exact hJ 0 (by rw [List.getD_eq_getElem?_getD, List.getElem?_eq_none (by omega)]; rfl)
theorem Add_spec {B H : AH} {xs ys : List Nat} {a b : Value} (ha : RdN B a xs) (hb : RdN B b ys) (hm : xs.length < 549755813888) (hm' : ys.length < 549755813888) (hL : Le B H) :
    Ev (fun k _ => rn k 46 [a, b] H) (An B H fun B' v => RdN B' v (limbs (val xs + val ys))) := by
  have hJ : ∀ (xs ys : List Nat) (a b : Value), RdN B a xs → RdN B b ys → xs.length < 549755813888 → ys.length ≤ xs.length → Ev (fun k _ => f46_J0 k a b H) (An B H fun B' v => RdN B' v (limbs (val xs + val ys))) := by
    intro xs ys a b ha hb hm hxy
    refine Ev.eq (fun k _ => f46_J0_eq k _ _ H) ?_
    refine Ev.prim (ha.len Us) ?_
    refine Ev.prim (bin_add64 (by omega)) ?_
    rw [show (xs.length : Int) + 1 = ((xs.length + 1 : Nat) : Int) by omega]
    refine Ev.mkS Ew (St.start hL) (by omega) (by omega) fun bo B1 H1 hm1 hS1 => ?_
    rw [map_replicate] at hS1
    refine Ev.prim (ha.len Us) ?_
    refine Ev.bind (Ev.loop (add_loop (ha.mono hm1) (hb.mono hm1) hxy hm xs.length 0 0 (List.replicate (xs.length + 1) 0) 0 H1 (by omega) rfl (by simp) (small_replicate _) (by omega) (by simp [val]) hS1)) ?_
    rintro _ ⟨zs, c, H2, rfl, hz, hsm, hc, hv, hS2⟩
    refine Ev.eq (fun k _ => f46_A0_x0 k _ _ _ H2) ?_
    refine Ev.prim (ha.len Us) ?_
    refine Ev.prim (ixA_own Ew (by omega)) ?_
    refine Ev.stW Ew hS2 (by (first | exact .head _ | exact .tail _ (.head _) | exact .tail _ (.tail _ (.head _)) | exact .tail _ (.tail _ (.tail _ (.head _))) | exact .tail _ (.tail _ (.tail _ (.tail _ (.head _)))))) (j := xs.length) (by omega) (by omega) rfl (by simp) (.head _) fun H3 hS3 => ?_
    obtain ⟨B4, hm4, hr4, hS4⟩ := hS3.freezeN (n := xs.length + 1) (cap := xs.length + 1) (hsm.set _ (by omega)) (by simp [hz]) (by simp [hz])
    refine Ev.call hS4 (trim_spec (by simp [hz]; omega) hr4) fun v B5 H5 hm5 hS5 h5 => ?_
    refine Ev.done hS5 ?_
    have e := val_take_set (zs := zs) (i := xs.length) (w := c) (by omega)
    rw [List.take_of_length_le (by simp [hz]), hv] at e
    rw [← e]; exact h5
  refine Ev.fn (fun k => f46_eq k _ _ H) ?_
  refine Ev.prim (ha.len Us) ?_
  refine Ev.prim (hb.len Us) ?_
  refine Ev.prim bin_lss ?_
  refine Ev.ifp (fun h => ?_) fun h => ?_
  · rw [Nat.add_comm]; exact hJ ys xs b a hb ha (by omega) (by omega)
  · exact hJ xs ys a b ha hb (by omega) (by omega)
end Go.AM.Z
set_option linter.unusedVariables false
namespace Go.AM
theorem limbs_length_lt {a b : Nat} (h : (limbs a).length < (limbs b).length) : a < b := by
  have h1 := val_lt (small_limbs a)
  rw [val_limbs] at h1
  by_cases h2 : a < b
  · exact h2
  · have : b < 4294967296 ^ (limbs a).length := by omega
    have := limbs_length_le this
    omega
theorem limbs_length_mono {a b : Nat} (h : a ≤ b) : (limbs a).length ≤ (limbs b).length := by
  have h1 := val_lt (small_limbs b)
  rw [val_limbs] at h1
  exact limbs_length_le (by omega)
theorem val_take_lt {xs : List Nat} (h : small xs) (i : Nat) : val (xs.take i) < 4294967296 ^ i := by
  have := val_lt (h.take i)
  exact Nat.lt_of_lt_of_le this (Nat.pow_le_pow_right (by decide) (by rw [List.length_take]; omega))
theorem val_div_mod {xs : List Nat} (h : small xs) (i : Nat) : val xs / 4294967296 ^ i = val (xs.drop i) ∧ val xs % 4294967296 ^ i = val (xs.take i) := by
  have h1 := val_drop xs i
  have h2 := val_take_lt h i
  constructor
  · rw [h1, Nat.add_mul_div_left _ _ (Nat.pow_pos (by decide)), Nat.div_eq_of_lt h2, Nat.zero_add]
  · rw [h1, Nat.add_mul_mod_self_left, Nat.mod_eq_of_lt h2]
theorem val_head (xs : List Nat) (h : small xs) : val xs % 4294967296 = xs.getD 0 0 := by
  cases xs with
  | nil => rfl
  | cons x xs => have := h.head; simp only [val]; simp; omega
def nbits (n : Nat) : Nat := if n = 0 then 0 else n.log2 + 1
theorem nbits_zero : nbits 0 = 0 := rfl
theorem nbits_le {n k : Nat} : nbits n ≤ k ↔ n < 2 ^ k := by
  unfold nbits
  by_cases h : n = 0
  · rw [if_pos h]; subst h; simp [Nat.pow_pos]
  · rw [if_neg h, Nat.add_one_le_iff, Nat.log2_lt h]
theorem lt_nbits {n k : Nat} : k < nbits n ↔ 2 ^ k ≤ n := by
  rw [← Nat.not_le, nbits_le, Nat.not_lt]
theorem nbits_eq {n k : Nat} (h1 : 2 ^ k ≤ n) (h2 : n < 2 ^ (k + 1)) : nbits n = k + 1 := by
  have := nbits_le.mpr h2
  have := lt_nbits.mpr h1
  omega
theorem lt_nbits_self (n : Nat) : n < 2 ^ nbits n := nbits_le.mp (Nat.le_refl _)
theorem nbits_ge {n : Nat} (h : n ≠ 0) : 2 ^ (nbits n - 1) ≤ n := lt_nbits.mp (by
  have : 0 < nbits n := lt_nbits.mpr (by simp; omega)
  omega)
theorem nbits_pos {n : Nat} (h : n ≠ 0) : 0 < nbits n := lt_nbits.mpr (by simp; omega)
theorem nbits_mul_add {q r k : Nat} (hq : q ≠ 0) (hr : r < 2 ^ k) : nbits (r + 2 ^ k * q) = nbits q + k := by
  have h1 := nbits_ge hq
  have h2 := lt_nbits_self q
  have h3 := nbits_pos hq
  obtain ⟨m, hm⟩ : ∃ m, nbits q = m + 1 := ⟨nbits q - 1, by omega⟩
  rw [hm] at h1 h2 ⊢
  rw [Nat.add_sub_cancel] at h1
  rw [show m + 1 + k = m + k + 1 by omega]
  refine nbits_eq ?_ ?_
  · rw [Nat.pow_add, Nat.mul_comm]
    exact Nat.le_trans (Nat.mul_le_mul_left _ h1) (by omega)
  · rw [show m + k + 1 = k + (m + 1) by omega, Nat.pow_add]
    calc r + 2 ^ k * q < 2 ^ k + 2 ^ k * q := by omega
      _ = 2 ^ k * (q + 1) := by rw [Nat.mul_add, Nat.mul_one]; omega
      _ ≤ 2 ^ k * 2 ^ (m + 1) := Nat.mul_le_mul_left _ h2
theorem nbits_div {n k : Nat} (h : 2 ^ k ≤ n) : nbits n = nbits (n / 2 ^ k) + k := by
  have hp : 0 < 2 ^ k := Nat.pow_pos (by decide)
  have h1 : n / 2 ^ k ≠ 0 := by
    have := Nat.div_le_div_right (c := 2 ^ k) h
    rw [Nat.div_self hp] at this; omega
  conv => lhs; rw [← Nat.mod_add_div n (2 ^ k)]
  exact nbits_mul_add h1 (Nat.mod_lt _ hp)
theorem nbits_mul_pow {n k : Nat} (h : n ≠ 0) : nbits (n * 2 ^ k) = nbits n + k := by
  have := nbits_mul_add (r := 0) (k := k) h (Nat.pow_pos (by decide))
  rwa [Nat.zero_add, Nat.mul_comm] at this
/-- By the digit at the top. -/
theorem nbits_limbs {n : Nat} (h : n ≠ 0) : nbits n = 32 * ((limbs n).length - 1) + nbits ((limbs n).getD ((limbs n).length - 1) 0) := by
  have hl : limbs n ≠ [] := fun e => h (limbs_eq_nil.mp e)
  have hl' : (limbs n).length ≠ 0 := fun e => hl (List.length_eq_zero_iff.mp e)
  have h1 := val_drop (limbs n) ((limbs n).length - 1)
  have h2 := val_take_lt (small_limbs n) ((limbs n).length - 1)
  have hd : (limbs n).drop ((limbs n).length - 1) = [(limbs n).getD ((limbs n).length - 1) 0] := by
    rw [List.drop_eq_getElem_cons (by omega), List.drop_eq_nil_of_le (by omega), List.getD_eq_getElem?_getD, List.getElem?_eq_getElem (by omega)]; rfl
  have hne : (limbs n).getD ((limbs n).length - 1) 0 ≠ 0 := by
    refine limbs_getLast (n := n) _ ?_
    rw [List.getLast?_eq_getElem?, List.getD_eq_getElem?_getD, List.getElem?_eq_getElem (by omega)]; rfl
  rw [val_limbs, hd] at h1
  simp only [val, Nat.mul_zero, Nat.add_zero] at h1
  conv => lhs; rw [h1]
  rw [show (4294967296 : Nat) = 2 ^ 32 by decide, ← Nat.pow_mul] at h2 ⊢
  rw [nbits_mul_add hne h2, Nat.add_comm]
theorem val_set {zs : List Nat} {j w : Nat} (h : j < zs.length) : val (zs.set j w) + 4294967296 ^ j * zs.getD j 0 = val zs + 4294967296 ^ j * w := by
  have h1 := val_drop (zs.set j w) (j + 1)
  have h2 := val_drop zs (j + 1)
  rw [val_take_set h, List.drop_set_of_lt (by omega)] at h1
  rw [val_take_succ h] at h2
  omega
theorem getD_set_self {zs : List Nat} {j w : Nat} (h : j < zs.length) : (zs.set j w).getD j 0 = w := by
  rw [List.getD_eq_getElem?_getD, List.getElem?_set_self h]; rfl
theorem getD_take {zs : List Nat} {i j : Nat} (h : j < i) : (zs.take i).getD j 0 = zs.getD j 0 := by
  rw [List.getD_eq_getElem?_getD, List.getElem?_take_of_lt h, ← List.getD_eq_getElem?_getD]

theorem getD_zeros (m i : Nat) : (List.replicate m 0).getD i 0 = 0 := by
  rw [List.getD_eq_getElem?_getD, List.getElem?_replicate]; split <;> rfl
/-- How two numbers stand. -/
def cmpN (a b : Nat) : Int := if a < b then -1 else if b < a then 1 else 0
theorem val_take_cmp {xs ys : List Nat} (hx : small xs) (hy : small ys) (m : Nat) (h : xs.getD m 0 < ys.getD m 0) : val (xs.take (m + 1)) < val (ys.take (m + 1)) := by
  rw [val_take_succ', val_take_succ']
  have h1 := val_take_lt hx m
  have h2 : 4294967296 ^ m * (xs.getD m 0 + 1) ≤ 4294967296 ^ m * ys.getD m 0 := Nat.mul_le_mul_left _ h
  rw [Nat.mul_add, Nat.mul_one] at h2
  omega
theorem tb31 {a : Nat} (h : a < 4294967296) : a.testBit 31 = decide (2147483648 ≤ a) := by
  rw [Nat.testBit_eq_decide_div_mod_eq]; exact decide_eq_decide.mpr (by omega)
theorem top31 {x : Nat} (h : x < 4294967296) : x / 2 ^ 31 = (x.testBit 31).toNat := by
  rw [tb31 h]
  by_cases h' : 2147483648 ≤ x
  · rw [decide_eq_true h']; simp; omega
  · rw [decide_eq_false h']; simp; omega
theorem borrow31 {a b c d : Nat} (ha : a < 4294967296) (hb : b < 4294967296) (hc : c ≤ 1) (hd : d = (a + 8589934592 - b - c) % 4294967296) :
    (((4294967295 ^^^ a) &&& b) ||| ((4294967295 ^^^ (a ^^^ b)) &&& d)) / 2 ^ 31 = if a < b + c then 1 else 0 := by
  have hd' : d < 4294967296 := by omega
  have e1 : ∀ x y : Nat, x < 4294967296 → y < 4294967296 → x ^^^ y < 4294967296 := fun x y h h' => Nat.xor_lt_two_pow (n := 32) h h'
  have e2 : ∀ x y : Nat, y < 4294967296 → x &&& y < 4294967296 := fun x y h => Nat.lt_of_le_of_lt Nat.and_le_right h
  have e3 : ∀ x y : Nat, x < 4294967296 → y < 4294967296 → x ||| y < 4294967296 := fun x y h h' => Nat.or_lt_two_pow (n := 32) h h'
  rw [top31 (e3 _ _ (e2 _ _ hb) (e2 _ _ hd')), Nat.testBit_or, Nat.testBit_and, Nat.testBit_and, Nat.testBit_xor, Nat.testBit_xor, Nat.testBit_xor, tb31 ha, tb31 hb, tb31 hd', tb31 (a := 4294967295) (by decide)]
  by_cases h1 : 2147483648 ≤ a <;> by_cases h2 : 2147483648 ≤ b <;> by_cases h3 : 2147483648 ≤ d <;> simp [h1, h2, h3] <;> omega
end Go.AM
set_option linter.unusedVariables false
set_option linter.unusedSimpArgs false
set_option maxRecDepth 100000
namespace Go.AM.Z
open Go Go.AM Go.Proofs
attribute [local irreducible] run bin un ld st box newV mkS fldA fld ixA ix slc slc3 build buildS cv cvS ap cpy lenV gOp pickV b2 aIf aChk evalK resume iterD Option.bind

theorem Sub32_spec {H : AH} {a b c : Nat} (ha : a < 4294967296) (hb : b < 4294967296) (hc : c ≤ 1) :
    Ev (fun k _ => rn k 73 [u32 a, u32 b, u32 c] H) (fun r => r = (.tuple #[u32 ((a + 8589934592 - b - c) % 4294967296), u32 (if a < b + c then 1 else 0)], H)) := by
  refine Ev.fn (fun k => f73_eq k _ _ _ H) ?_
  have e1 : ∀ x y : Nat, x < 4294967296 → y < 4294967296 → x ^^^ y < 4294967296 := fun x y h h' => Nat.xor_lt_two_pow (n := 32) h h'
  have e2 : ∀ x y : Nat, y < 4294967296 → x &&& y < 4294967296 := fun x y h => Nat.lt_of_le_of_lt Nat.and_le_right h
  refine Ev.prim subW ?_
  refine Ev.prim subW ?_
  have e : ((a + (4294967296 - b % 4294967296)) % 4294967296 + (4294967296 - c % 4294967296)) % 4294967296 = (a + 8589934592 - b - c) % 4294967296 := by omega
  rw [e]
  have hd : (a + 8589934592 - b - c) % 4294967296 < 4294967296 := Nat.mod_lt _ (by decide)
  refine Ev.prim (notW ha) ?_
  refine Ev.prim (andW ⟨e1 _ _ (by decide) ha, hb⟩) ?_
  refine Ev.prim (xorW ⟨ha, hb⟩) ?_
  refine Ev.prim (notW (e1 _ _ ha hb)) ?_
  refine Ev.prim (andW ⟨e1 _ _ (by decide) (e1 _ _ ha hb), hd⟩) ?_
  refine Ev.prim (orW ⟨e2 _ _ hb, e2 _ _ hd⟩) ?_
  repeat (first | refine Ev.some2 ?_ | refine Ev.some1 ?_ | refine Ev.gDo ?_ | refine Ev.gSkipT ?_ | refine Ev.gSkipF ?_ | refine Ev.gUndef ?_ | refine Ev.gCall ?_ | refine Ev.tt ?_ | refine Ev.ff ?_ | refine Ev.gPrim (by (first | with_reducible exact lssL | with_reducible exact gtrL | with_reducible exact eqlL | with_reducible exact neqL | with_reducible exact leqL | with_reducible exact geqL | with_reducible exact lssN | with_reducible exact gtrN | with_reducible exact eqlN | with_reducible exact neqN | with_reducible exact leqN | with_reducible exact geqN | (with_reducible refine addL ?_; omega) | (with_reducible refine subL ?_; omega) | (with_reducible refine quoL ?_; omega) | (with_reducible refine mulL ?_; omega) | (with_reducible refine lmul ?_; omega) | (with_reducible refine addN ?_; omega) | (with_reducible refine subN ?_; omega) | (with_reducible refine quoN ?_; omega) | (with_reducible refine mulN ?_; omega) | (with_reducible refine addQ ?_; omega) | (with_reducible refine subQ ?_; omega) | (with_reducible refine mulQ ?_; omega) | (with_reducible refine shlQL ?_; omega) | (with_reducible refine shlQ ?_; omega) | (with_reducible refine remL ?_; decide) | (with_reducible refine shrL ?_; decide) | (with_reducible refine remN ?_; omega) | (with_reducible refine toU64 ?_ Uw Uq; omega) | (with_reducible exact toU32 Uq Uw) | exact bin_lss | exact bin_gtr | exact bin_eql | exact bin_neq | exact bin_leq | exact bin_geq | exact lenV_sl Us | exact ext_0 | exact ext_1 | exact ext_2 | exact pick_t | exact pick_f | exact bin_add64 (by omega) | exact bin_sub64 (by omega) | exact un_not | exact cv_int Uq Uw | exact cv_int Uw Uq | exact bin_add | exact bin_sub | exact bin_mul | rfl)) rfl ?_ | refine Ev.prim (by (first | with_reducible exact lssL | with_reducible exact gtrL | with_reducible exact eqlL | with_reducible exact neqL | with_reducible exact leqL | with_reducible exact geqL | with_reducible exact lssN | with_reducible exact gtrN | with_reducible exact eqlN | with_reducible exact neqN | with_reducible exact leqN | with_reducible exact geqN | (with_reducible refine addL ?_; omega) | (with_reducible refine subL ?_; omega) | (with_reducible refine quoL ?_; omega) | (with_reducible refine mulL ?_; omega) | (with_reducible refine lmul ?_; omega) | (with_reducible refine addN ?_; omega) | (with_reducible refine subN ?_; omega) | (with_reducible refine quoN ?_; omega) | (with_reducible refine mulN ?_; omega) | (with_reducible refine addQ ?_; omega) | (with_reducible refine subQ ?_; omega) | (with_reducible refine mulQ ?_; omega) | (with_reducible refine shlQL ?_; omega) | (with_reducible refine shlQ ?_; omega) | (with_reducible refine remL ?_; decide) | (with_reducible refine shrL ?_; decide) | (with_reducible refine remN ?_; omega) | (with_reducible refine toU64 ?_ Uw Uq; omega) | (with_reducible exact toU32 Uq Uw) | exact bin_lss | exact bin_gtr | exact bin_eql | exact bin_neq | exact bin_leq | exact bin_geq | exact lenV_sl Us | exact ext_0 | exact ext_1 | exact ext_2 | exact pick_t | exact pick_f | exact bin_add64 (by omega) | exact bin_sub64 (by omega) | exact un_not | exact cv_int Uq Uw | exact cv_int Uw Uq | exact bin_add | exact bin_sub | exact bin_mul | rfl)) ?_)
  rw [borrow31 ha hb hc rfl]
  exact Ev.ret rfl
theorem sub_loop {H0 B0 B : AH} {xs ys : List Nat} {a b : Value} {bo : Nat} (ha : RdN B a xs) (hb : RdN B b ys) (hxy : ys.length ≤ xs.length) (hm : xs.length < 549755813888) :
    ∀ (m i : Nat) (zs : List Nat) (c : Nat) (H : AH), i + m = xs.length → zs.length = xs.length → small zs → c ≤ 1 → val (zs.take i) + val (ys.take i) = val (xs.take i) + 4294967296 ^ i * c →
    St H0 B0 B [(bo, ⟨zs.map u32, 70, .fix⟩)] H →
    Ev (fun k n => f47_L0 k a b (sl bo 0 xs.length xs.length) (u32 c) (i64 xs.length) (i64 i) n H)
      (fun o => ∃ zs c H, o = (.exit 0, f47_X_L0 (sl bo 0 xs.length xs.length) (u32 c), H) ∧ zs.length = xs.length ∧ small zs ∧ c ≤ 1 ∧ val zs + val ys = val xs + 4294967296 ^ xs.length * c ∧
        St H0 B0 B [(bo, ⟨zs.map u32, 70, .fix⟩)] H) := by
  intro m
  induction m with
  | zero =>
    intro i zs c H hi hz hsm hc hv hS
    refine Ev.succ (fun k n => f47_L0_succ k _ _ _ _ _ _ n H) ?_
    refine Ev.prim lssN ?_
    refine Ev.ifp (fun h => absurd h (by omega)) fun _ => ?_
    refine Ev.ret ⟨zs, c, H, rfl, hz, hsm, hc, ?_, hS⟩
    have : i = xs.length := by omega
    subst this
    rw [List.take_of_length_le (Nat.le_refl _) (l := xs), List.take_of_length_le hxy, List.take_of_length_le (by omega)] at hv
    exact hv
  | succ m ih =>
    intro i zs c H hi hz hsm hc hv hS
    refine Ev.succ (fun k n => f47_L0_succ k _ _ _ _ _ _ n H) ?_
    refine Ev.prim lssN ?_
    refine Ev.ifp (fun _ => ?_) fun h => absurd (by omega) h
    have hJ : ∀ y : Nat, y = ys.getD i 0 → Ev (fun k n => f47_J0 k n a b (sl bo 0 xs.length xs.length) (u32 c) (i64 i) (u32 y) (i64 xs.length) (i64 i) H)
      (fun o => ∃ zs c H, o = (.exit 0, f47_X_L0 (sl bo 0 xs.length xs.length) (u32 c), H) ∧ zs.length = xs.length ∧ small zs ∧ c ≤ 1 ∧ val zs + val ys = val xs + 4294967296 ^ xs.length * c ∧
        St H0 B0 B [(bo, ⟨zs.map u32, 70, .fix⟩)] H) := by
      intro y hy
      have hx := ha.2.getD i
      have hy' := hb.2.getD i
      refine Ev.eq (fun k n => f47_J0_eq k n _ _ _ _ _ _ _ _ H) ?_
      obtain ⟨p, hp1, hp2⟩ := ha.ixN (k := .i64) (i := i) Ew (by omega)
      refine Ev.prim hp1 ?_
      refine Ev.prim (hp2 H hS.le) ?_
      refine Ev.callP (Sub32_spec hx (by omega) (by omega)) ?_
      repeat (first | refine Ev.some2 ?_ | refine Ev.some1 ?_ | refine Ev.gDo ?_ | refine Ev.gSkipT ?_ | refine Ev.gSkipF ?_ | refine Ev.gUndef ?_ | refine Ev.gCall ?_ | refine Ev.tt ?_ | refine Ev.ff ?_ | refine Ev.gPrim (by (first | with_reducible exact lssL | with_reducible exact gtrL | with_reducible exact eqlL | with_reducible exact neqL | with_reducible exact leqL | with_reducible exact geqL | with_reducible exact lssN | with_reducible exact gtrN | with_reducible exact eqlN | with_reducible exact neqN | with_reducible exact leqN | with_reducible exact geqN | (with_reducible refine addL ?_; omega) | (with_reducible refine subL ?_; omega) | (with_reducible refine quoL ?_; omega) | (with_reducible refine mulL ?_; omega) | (with_reducible refine lmul ?_; omega) | (with_reducible refine addN ?_; omega) | (with_reducible refine subN ?_; omega) | (with_reducible refine quoN ?_; omega) | (with_reducible refine mulN ?_; omega) | (with_reducible refine addQ ?_; omega) | (with_reducible refine subQ ?_; omega) | (with_reducible refine mulQ ?_; omega) | (with_reducible refine shlQL ?_; omega) | (with_reducible refine shlQ ?_; omega) | (with_reducible refine remL ?_; decide) | (with_reducible refine shrL ?_; decide) | (with_reducible refine remN ?_; omega) | (with_reducible refine toU64 ?_ Uw Uq; omega) | (with_reducible exact toU32 Uq Uw) | exact bin_lss | exact bin_gtr | exact bin_eql | exact bin_neq | exact bin_leq | exact bin_geq | exact lenV_sl Us | exact ext_0 | exact ext_1 | exact ext_2 | exact pick_t | exact pick_f | exact bin_add64 (by omega) | exact bin_sub64 (by omega) | exact un_not | exact cv_int Uq Uw | exact cv_int Uw Uq | exact bin_add | exact bin_sub | exact bin_mul | rfl)) rfl ?_ | refine Ev.prim (by (first | with_reducible exact lssL | with_reducible exact gtrL | with_reducible exact eqlL | with_reducible exact neqL | with_reducible exact leqL | with_reducible exact geqL | with_reducible exact lssN | with_reducible exact gtrN | with_reducible exact eqlN | with_reducible exact neqN | with_reducible exact leqN | with_reducible exact geqN | (with_reducible refine addL ?_; omega) | (with_reducible refine subL ?_; omega) | (with_reducible refine quoL ?_; omega) | (with_reducible refine mulL ?_; omega) | (with_reducible refine lmul ?_; omega) | (with_reducible refine addN ?_; omega) | (with_reducible refine subN ?_; omega) | (with_reducible refine quoN ?_; omega) | (with_reducible refine mulN ?_; omega) | (with_reducible refine addQ ?_; omega) | (with_reducible refine subQ ?_; omega) | (with_reducible refine mulQ ?_; omega) | (with_reducible refine shlQL ?_; omega) | (with_reducible refine shlQ ?_; omega) | (with_reducible refine remL ?_; decide) | (with_reducible refine shrL ?_; decide) | (with_reducible refine remN ?_; omega) | (with_reducible refine toU64 ?_ Uw Uq; omega) | (with_reducible exact toU32 Uq Uw) | exact bin_lss | exact bin_gtr | exact bin_eql | exact bin_neq | exact bin_leq | exact bin_geq | exact lenV_sl Us | exact ext_0 | exact ext_1 | exact ext_2 | exact pick_t | exact pick_f | exact bin_add64 (by omega) | exact bin_sub64 (by omega) | exact un_not | exact cv_int Uq Uw | exact cv_int Uw Uq | exact bin_add | exact bin_sub | exact bin_mul | rfl)) ?_)
      refine Ev.prim (ixA_own Ew (by omega)) ?_
      refine Ev.stW Ew hS (by (first | exact .head _ | exact .tail _ (.head _) | exact .tail _ (.tail _ (.head _)) | exact .tail _ (.tail _ (.tail _ (.head _))) | exact .tail _ (.tail _ (.tail _ (.tail _ (.head _)))))) (j := i) (by omega) (by omega) rfl (by simp) (.head _) fun H' hS' => ?_
      repeat (first | refine Ev.some2 ?_ | refine Ev.some1 ?_ | refine Ev.gDo ?_ | refine Ev.gSkipT ?_ | refine Ev.gSkipF ?_ | refine Ev.gUndef ?_ | refine Ev.gCall ?_ | refine Ev.tt ?_ | refine Ev.ff ?_ | refine Ev.gPrim (by (first | with_reducible exact lssL | with_reducible exact gtrL | with_reducible exact eqlL | with_reducible exact neqL | with_reducible exact leqL | with_reducible exact geqL | with_reducible exact lssN | with_reducible exact gtrN | with_reducible exact eqlN | with_reducible exact neqN | with_reducible exact leqN | with_reducible exact geqN | (with_reducible refine addL ?_; omega) | (with_reducible refine subL ?_; omega) | (with_reducible refine quoL ?_; omega) | (with_reducible refine mulL ?_; omega) | (with_reducible refine lmul ?_; omega) | (with_reducible refine addN ?_; omega) | (with_reducible refine subN ?_; omega) | (with_reducible refine quoN ?_; omega) | (with_reducible refine mulN ?_; omega) | (with_reducible refine addQ ?_; omega) | (with_reducible refine subQ ?_; omega) | (with_reducible refine mulQ ?_; omega) | (with_reducible refine shlQL ?_; omega) | (with_reducible refine shlQ ?_; omega) | (with_reducible refine remL ?_; decide) | (with_reducible refine shrL ?_; decide) | (with_reducible refine remN ?_; omega) | (with_reducible refine toU64 ?_ Uw Uq; omega) | (with_reducible exact toU32 Uq Uw) | exact bin_lss | exact bin_gtr | exact bin_eql | exact bin_neq | exact bin_leq | exact bin_geq | exact lenV_sl Us | exact ext_0 | exact ext_1 | exact ext_2 | exact pick_t | exact pick_f | exact bin_add64 (by omega) | exact bin_sub64 (by omega) | exact un_not | exact cv_int Uq Uw | exact cv_int Uw Uq | exact bin_add | exact bin_sub | exact bin_mul | rfl)) rfl ?_ | refine Ev.prim (by (first | with_reducible exact lssL | with_reducible exact gtrL | with_reducible exact eqlL | with_reducible exact neqL | with_reducible exact leqL | with_reducible exact geqL | with_reducible exact lssN | with_reducible exact gtrN | with_reducible exact eqlN | with_reducible exact neqN | with_reducible exact leqN | with_reducible exact geqN | (with_reducible refine addL ?_; omega) | (with_reducible refine subL ?_; omega) | (with_reducible refine quoL ?_; omega) | (with_reducible refine mulL ?_; omega) | (with_reducible refine lmul ?_; omega) | (with_reducible refine addN ?_; omega) | (with_reducible refine subN ?_; omega) | (with_reducible refine quoN ?_; omega) | (with_reducible refine mulN ?_; omega) | (with_reducible refine addQ ?_; omega) | (with_reducible refine subQ ?_; omega) | (with_reducible refine mulQ ?_; omega) | (with_reducible refine shlQL ?_; omega) | (with_reducible refine shlQ ?_; omega) | (with_reducible refine remL ?_; decide) | (with_reducible refine shrL ?_; decide) | (with_reducible refine remN ?_; omega) | (with_reducible refine toU64 ?_ Uw Uq; omega) | (with_reducible exact toU32 Uq Uw) | exact bin_lss | exact bin_gtr | exact bin_eql | exact bin_neq | exact bin_leq | exact bin_geq | exact lenV_sl Us | exact ext_0 | exact ext_1 | exact ext_2 | exact pick_t | exact pick_f | exact bin_add64 (by omega) | exact bin_sub64 (by omega) | exact un_not | exact cv_int Uq Uw | exact cv_int Uw Uq | exact bin_add | exact bin_sub | exact bin_mul | rfl)) ?_)
      refine ih (i + 1) _ _ H' (by omega) (by simp [hz]) (hsm.set _ (Nat.mod_lt _ (by decide))) (by split <;> omega) ?_ hS'
      rw [val_take_set (by omega), val_take_succ' xs, val_take_succ' ys, Nat.pow_succ, ← hy]
      have e : (xs.getD i 0 + 8589934592 - y - c) % 4294967296 + (y + c) = xs.getD i 0 + 4294967296 * (if xs.getD i 0 < y + c then 1 else 0) := by
        split <;> omega
      generalize (xs.getD i 0 + 8589934592 - y - c) % 4294967296 = w at e ⊢
      generalize (if xs.getD i 0 < y + c then 1 else 0) = c' at e ⊢
      have e2 := congrArg (4294967296 ^ i * ·) e
      simp only [Nat.mul_add] at e2
      rw [Nat.mul_assoc]
      omega
    refine Ev.prim (hb.lenN Ew) ?_
    refine Ev.prim lssN ?_
    refine Ev.ifp (fun h => ?_) fun h => ?_
    · obtain ⟨p, hp1, hp2⟩ := hb.ixN (k := .i64) (i := i) Ew (by omega)
      refine Ev.prim hp1 ?_
      refine Ev.prim (hp2 H hS.le) ?_
      exact hJ _ rfl
    · exact hJ 0 (by rw [List.getD_eq_getElem?_getD, List.getElem?_eq_none (by omega)]; rfl)
theorem Sub_spec {B H : AH} {xs ys : List Nat} {a b : Value} (ha : RdN B a xs) (hb : RdN B b ys) (hm : xs.length < 549755813888) (hm' : ys.length < 549755813888) (hL : Le B H) :
    Ev (fun k _ => rn k 47 [a, b] H) (An B H fun B' v => (val xs < val ys ∧ v = .tuple #[.slice none 0 0, .bool false]) ∨ (val ys ≤ val xs ∧ ∃ s, v = .tuple #[s, .bool true] ∧ RdN B' s (limbs (val xs - val ys)))) := by
  refine Ev.fn (fun k => f47_eq k _ _ H) ?_
  have hx := limbs_length_le (val_lt ha.2)
  have hy := limbs_length_le (val_lt hb.2)
  refine Ev.callU (trim_pure (by omega) ha hL) fun a ha => ?_
  refine Ev.callU (trim_pure (by omega) hb hL) fun b hb => ?_
  generalize val xs = x at *
  generalize val ys = y at *
  have hS := St.start hL
  refine Ev.prim (ha.lenN Ew) ?_
  refine Ev.prim (hb.lenN Ew) ?_
  refine Ev.prim lssN ?_
  refine Ev.ifp (fun h => ?_) fun h => ?_
  · exact Ev.done hS (.inl ⟨limbs_length_lt h, rfl⟩)
  refine Ev.prim (ha.lenN Ew) ?_
  refine Ev.mkS Ew hS (by omega) (by omega) fun bo B1 H1 hm1 hS1 => ?_
  rw [map_replicate] at hS1
  refine Ev.prim (ha.lenN Ew) ?_
  refine Ev.bind (Ev.loop (sub_loop (ha.mono hm1) (hb.mono hm1) (by omega) (by omega) (limbs x).length 0 (List.replicate (limbs x).length 0) 0 H1 (by omega) (by simp) (small_replicate _) (by omega) (by simp [val]) hS1)) ?_
  rintro _ ⟨zs, c, H2, rfl, hz, hsm, hc, hv, hS2⟩
  refine Ev.eq (fun k _ => f47_A0_x0 k _ _ H2) ?_
  rw [val_limbs, val_limbs] at hv
  have hlt := val_lt hsm
  rw [hz] at hlt
  refine Ev.prim gtrL ?_
  refine Ev.ifp (fun h => ?_) fun h => ?_
  · have : c = 1 := by omega
    subst this
    exact Ev.done hS2 (.inl ⟨by omega, rfl⟩)
  · have : c = 0 := by omega
    subst this
    obtain ⟨B4, hm4, hr4, hS4⟩ := hS2.freezeN (n := (limbs x).length) (cap := (limbs x).length) hsm hz.symm (by omega)
    refine Ev.call hS4 (trim_spec (by omega) hr4) fun v B5 H5 hm5 hS5 h5 => ?_
    refine Ev.done hS5 (.inr ⟨by omega, v, rfl, ?_⟩)
    rw [show x - y = val zs by omega]; exact h5
theorem cmp_loop {B H : AH} {xs ys : List Nat} {a b : Value} {N : Nat} (ha : RdN B a xs) (hb : RdN B b ys) (hx : xs.length = N) (hy : ys.length = N) (hN : N < 549755813888) (hL : Le B H) :
    ∀ (m i : Nat), i + m = N →
    Ev (fun k n => f44_L0 k a b (i64 N) (i64 i) n H)
      (fun o => (o = (.exit 0, f44_X_L0 unk, H) ∧ cmpN (val (xs.take m)) (val (ys.take m)) = 0) ∨ o = (.ret, f44_X_L0 (.int .i64 (cmpN (val (xs.take m)) (val (ys.take m)))), H)) := by
  intro m
  induction m with
  | zero =>
    intro i hi
    refine Ev.succ (fun k n => f44_L0_succ k _ _ _ _ n H) ?_
    refine Ev.prim lssN ?_
    refine Ev.ifp (fun h => absurd h (by omega)) fun _ => ?_
    exact Ev.ret (.inl ⟨rfl, rfl⟩)
  | succ m ih =>
    intro i hi
    refine Ev.succ (fun k n => f44_L0_succ k _ _ _ _ n H) ?_
    refine Ev.prim lssN ?_
    refine Ev.ifp (fun _ => ?_) fun h => absurd (by omega) h
    refine Ev.prim (ha.lenN Ew) ?_
    repeat (first | refine Ev.some2 ?_ | refine Ev.some1 ?_ | refine Ev.gDo ?_ | refine Ev.gSkipT ?_ | refine Ev.gSkipF ?_ | refine Ev.gUndef ?_ | refine Ev.gCall ?_ | refine Ev.tt ?_ | refine Ev.ff ?_ | refine Ev.gPrim (by (first | with_reducible exact lssL | with_reducible exact gtrL | with_reducible exact eqlL | with_reducible exact neqL | with_reducible exact leqL | with_reducible exact geqL | with_reducible exact lssN | with_reducible exact gtrN | with_reducible exact eqlN | with_reducible exact neqN | with_reducible exact leqN | with_reducible exact geqN | (with_reducible refine addL ?_; omega) | (with_reducible refine subL ?_; omega) | (with_reducible refine quoL ?_; omega) | (with_reducible refine mulL ?_; omega) | (with_reducible refine lmul ?_; omega) | (with_reducible refine addN ?_; omega) | (with_reducible refine subN ?_; omega) | (with_reducible refine quoN ?_; omega) | (with_reducible refine mulN ?_; omega) | (with_reducible refine addQ ?_; omega) | (with_reducible refine subQ ?_; omega) | (with_reducible refine mulQ ?_; omega) | (with_reducible refine shlQL ?_; omega) | (with_reducible refine shlQ ?_; omega) | (with_reducible refine remL ?_; decide) | (with_reducible refine shrL ?_; decide) | (with_reducible refine remN ?_; omega) | (with_reducible refine toU64 ?_ Uw Uq; omega) | (with_reducible exact toU32 Uq Uw) | exact bin_lss | exact bin_gtr | exact bin_eql | exact bin_neq | exact bin_leq | exact bin_geq | exact lenV_sl Us | exact ext_0 | exact ext_1 | exact ext_2 | exact pick_t | exact pick_f | exact bin_add64 (by omega) | exact bin_sub64 (by omega) | exact un_not | exact cv_int Uq Uw | exact cv_int Uw Uq | exact bin_add | exact bin_sub | exact bin_mul | rfl)) rfl ?_ | refine Ev.prim (by (first | with_reducible exact lssL | with_reducible exact gtrL | with_reducible exact eqlL | with_reducible exact neqL | with_reducible exact leqL | with_reducible exact geqL | with_reducible exact lssN | with_reducible exact gtrN | with_reducible exact eqlN | with_reducible exact neqN | with_reducible exact leqN | with_reducible exact geqN | (with_reducible refine addL ?_; omega) | (with_reducible refine subL ?_; omega) | (with_reducible refine quoL ?_; omega) | (with_reducible refine mulL ?_; omega) | (with_reducible refine lmul ?_; omega) | (with_reducible refine addN ?_; omega) | (with_reducible refine subN ?_; omega) | (with_reducible refine quoN ?_; omega) | (with_reducible refine mulN ?_; omega) | (with_reducible refine addQ ?_; omega) | (with_reducible refine subQ ?_; omega) | (with_reducible refine mulQ ?_; omega) | (with_reducible refine shlQL ?_; omega) | (with_reducible refine shlQ ?_; omega) | (with_reducible refine remL ?_; decide) | (with_reducible refine shrL ?_; decide) | (with_reducible refine remN ?_; omega) | (with_reducible refine toU64 ?_ Uw Uq; omega) | (with_reducible exact toU32 Uq Uw) | exact bin_lss | exact bin_gtr | exact bin_eql | exact bin_neq | exact bin_leq | exact bin_geq | exact lenV_sl Us | exact ext_0 | exact ext_1 | exact ext_2 | exact pick_t | exact pick_f | exact bin_add64 (by omega) | exact bin_sub64 (by omega) | exact un_not | exact cv_int Uq Uw | exact cv_int Uw Uq | exact bin_add | exact bin_sub | exact bin_mul | rfl)) ?_)
    obtain ⟨p, hp1, hp2⟩ := ha.ixN (k := .i64) (i := xs.length - 1 - i) Ew (by omega)
    refine Ev.prim hp1 ?_
    refine Ev.prim (hp2 H hL.le) ?_
    refine Ev.prim (hb.lenN Ew) ?_
    repeat (first | refine Ev.some2 ?_ | refine Ev.some1 ?_ | refine Ev.gDo ?_ | refine Ev.gSkipT ?_ | refine Ev.gSkipF ?_ | refine Ev.gUndef ?_ | refine Ev.gCall ?_ | refine Ev.tt ?_ | refine Ev.ff ?_ | refine Ev.gPrim (by (first | with_reducible exact lssL | with_reducible exact gtrL | with_reducible exact eqlL | with_reducible exact neqL | with_reducible exact leqL | with_reducible exact geqL | with_reducible exact lssN | with_reducible exact gtrN | with_reducible exact eqlN | with_reducible exact neqN | with_reducible exact leqN | with_reducible exact geqN | (with_reducible refine addL ?_; omega) | (with_reducible refine subL ?_; omega) | (with_reducible refine quoL ?_; omega) | (with_reducible refine mulL ?_; omega) | (with_reducible refine lmul ?_; omega) | (with_reducible refine addN ?_; omega) | (with_reducible refine subN ?_; omega) | (with_reducible refine quoN ?_; omega) | (with_reducible refine mulN ?_; omega) | (with_reducible refine addQ ?_; omega) | (with_reducible refine subQ ?_; omega) | (with_reducible refine mulQ ?_; omega) | (with_reducible refine shlQL ?_; omega) | (with_reducible refine shlQ ?_; omega) | (with_reducible refine remL ?_; decide) | (with_reducible refine shrL ?_; decide) | (with_reducible refine remN ?_; omega) | (with_reducible refine toU64 ?_ Uw Uq; omega) | (with_reducible exact toU32 Uq Uw) | exact bin_lss | exact bin_gtr | exact bin_eql | exact bin_neq | exact bin_leq | exact bin_geq | exact lenV_sl Us | exact ext_0 | exact ext_1 | exact ext_2 | exact pick_t | exact pick_f | exact bin_add64 (by omega) | exact bin_sub64 (by omega) | exact un_not | exact cv_int Uq Uw | exact cv_int Uw Uq | exact bin_add | exact bin_sub | exact bin_mul | rfl)) rfl ?_ | refine Ev.prim (by (first | with_reducible exact lssL | with_reducible exact gtrL | with_reducible exact eqlL | with_reducible exact neqL | with_reducible exact leqL | with_reducible exact geqL | with_reducible exact lssN | with_reducible exact gtrN | with_reducible exact eqlN | with_reducible exact neqN | with_reducible exact leqN | with_reducible exact geqN | (with_reducible refine addL ?_; omega) | (with_reducible refine subL ?_; omega) | (with_reducible refine quoL ?_; omega) | (with_reducible refine mulL ?_; omega) | (with_reducible refine lmul ?_; omega) | (with_reducible refine addN ?_; omega) | (with_reducible refine subN ?_; omega) | (with_reducible refine quoN ?_; omega) | (with_reducible refine mulN ?_; omega) | (with_reducible refine addQ ?_; omega) | (with_reducible refine subQ ?_; omega) | (with_reducible refine mulQ ?_; omega) | (with_reducible refine shlQL ?_; omega) | (with_reducible refine shlQ ?_; omega) | (with_reducible refine remL ?_; decide) | (with_reducible refine shrL ?_; decide) | (with_reducible refine remN ?_; omega) | (with_reducible refine toU64 ?_ Uw Uq; omega) | (with_reducible exact toU32 Uq Uw) | exact bin_lss | exact bin_gtr | exact bin_eql | exact bin_neq | exact bin_leq | exact bin_geq | exact lenV_sl Us | exact ext_0 | exact ext_1 | exact ext_2 | exact pick_t | exact pick_f | exact bin_add64 (by omega) | exact bin_sub64 (by omega) | exact un_not | exact cv_int Uq Uw | exact cv_int Uw Uq | exact bin_add | exact bin_sub | exact bin_mul | rfl)) ?_)
    obtain ⟨q, hq1, hq2⟩ := hb.ixN (k := .i64) (i := ys.length - 1 - i) Ew (by omega)
    refine Ev.prim hq1 ?_
    refine Ev.prim (hq2 H hL.le) ?_
    rw [show xs.length - 1 - i = m by omega, show ys.length - 1 - i = m by omega]
    refine Ev.prim lssN ?_
    refine Ev.ifp (fun h => ?_) fun h1 => ?_
    · refine Ev.ret (.inr ?_)
      rw [cmpN, if_pos (val_take_cmp ha.2 hb.2 m h)]
    refine Ev.prim gtrN ?_
    refine Ev.ifp (fun h => ?_) fun h2 => ?_
    · refine Ev.ret (.inr ?_)
      have := val_take_cmp hb.2 ha.2 m h
      rw [cmpN, if_neg (by omega), if_pos this]
    · refine Ev.prim (by (first | with_reducible exact lssL | with_reducible exact gtrL | with_reducible exact eqlL | with_reducible exact neqL | with_reducible exact leqL | with_reducible exact geqL | with_reducible exact lssN | with_reducible exact gtrN | with_reducible exact eqlN | with_reducible exact neqN | with_reducible exact leqN | with_reducible exact geqN | (with_reducible refine addL ?_; omega) | (with_reducible refine subL ?_; omega) | (with_reducible refine quoL ?_; omega) | (with_reducible refine mulL ?_; omega) | (with_reducible refine lmul ?_; omega) | (with_reducible refine addN ?_; omega) | (with_reducible refine subN ?_; omega) | (with_reducible refine quoN ?_; omega) | (with_reducible refine mulN ?_; omega) | (with_reducible refine addQ ?_; omega) | (with_reducible refine subQ ?_; omega) | (with_reducible refine mulQ ?_; omega) | (with_reducible refine shlQL ?_; omega) | (with_reducible refine shlQ ?_; omega) | (with_reducible refine remL ?_; decide) | (with_reducible refine shrL ?_; decide) | (with_reducible refine remN ?_; omega) | (with_reducible refine toU64 ?_ Uw Uq; omega) | (with_reducible exact toU32 Uq Uw) | exact bin_lss | exact bin_gtr | exact bin_eql | exact bin_neq | exact bin_leq | exact bin_geq | exact lenV_sl Us | exact ext_0 | exact ext_1 | exact ext_2 | exact pick_t | exact pick_f | exact bin_add64 (by omega) | exact bin_sub64 (by omega) | exact un_not | exact cv_int Uq Uw | exact cv_int Uw Uq | exact bin_add | exact bin_sub | exact bin_mul | rfl)) ?_
      refine (ih (i + 1) (by omega)).mono fun o ho => ?_
      have e : cmpN (val (xs.take (m + 1))) (val (ys.take (m + 1))) = cmpN (val (xs.take m)) (val (ys.take m)) := by
        rw [val_take_succ', val_take_succ', show xs.getD m 0 = ys.getD m 0 by omega, cmpN, cmpN]
        congr 1
        · exact propext (by omega)
        · congr 1; exact propext (by omega)
      rw [e]; exact ho
theorem Cmp_spec {B H : AH} {xs ys : List Nat} {a b : Value} (ha : RdN B a xs) (hb : RdN B b ys) (hm : xs.length < 549755813888) (hm' : ys.length < 549755813888) (hL : Le B H) :
    Ev (fun k _ => rn k 44 [a, b] H) (Pu H fun v => v = .int .i64 (cmpN (val xs) (val ys))) := by
  refine Ev.fn (fun k => f44_eq k _ _ H) ?_
  have hx := limbs_length_le (val_lt ha.2)
  have hy := limbs_length_le (val_lt hb.2)
  refine Ev.callU (trim_pure (by omega) ha hL) fun a ha => ?_
  refine Ev.callU (trim_pure (by omega) hb hL) fun b hb => ?_
  generalize val xs = x at *
  generalize val ys = y at *
  refine Ev.prim (ha.lenN Ew) ?_
  refine Ev.prim (hb.lenN Ew) ?_
  refine Ev.prim neqN ?_
  refine Ev.ifp (fun h => ?_) fun h => ?_
  · refine Ev.prim (ha.lenN Ew) ?_
    refine Ev.prim (hb.lenN Ew) ?_
    refine Ev.prim lssN ?_
    refine Ev.ifp (fun h => ?_) fun h => ?_
    · exact Ev.doneU (by rw [cmpN, if_pos (limbs_length_lt h)])
    · have := limbs_length_lt (a := y) (b := x) (by omega)
      exact Ev.doneU (by rw [cmpN, if_neg (by omega), if_pos this])
  · refine Ev.prim (ha.lenN Ew) ?_
    refine Ev.bind (Ev.loop (cmp_loop ha hb rfl (by omega) (by omega) hL (limbs x).length 0 (by omega))) ?_
    have ex : val ((limbs x).take (limbs x).length) = x := by rw [List.take_of_length_le (Nat.le_refl _), val_limbs]
    have ey : val ((limbs y).take (limbs x).length) = y := by rw [List.take_of_length_le (by omega), val_limbs]
    rw [ex, ey]
    rintro _ (⟨rfl, h0⟩ | rfl)
    · refine Ev.eq (fun k _ => f44_A0_x0 k _ H) ?_
      exact Ev.doneU (by rw [h0])
    · refine Ev.eq (fun k _ => f44_A0_ret k _ H) ?_
      exact Ev.doneU rfl
end Go.AM.Z
set_option linter.unusedVariables false
set_option linter.unusedSimpArgs false
set_option maxRecDepth 100000
namespace Go.AM.Z
open Go Go.AM Go.Proofs
attribute [local irreducible] run bin un ld st box newV mkS fldA fld ixA ix slc slc3 build buildS cv cvS ap cpy lenV gOp pickV b2 aIf aChk evalK resume iterD Option.bind

theorem Ustr : Tryd.prog.underlying 9 = some .string := by kernel_rfl
theorem Ub : Tryd.prog.underlying 5 = some (.int .u8) := by kernel_rfl
theorem long0_len : ∀ x : Nat, x < 256 → x < long0.size ∧ (long0.data[x]?.getD 0).toNat = nbits x := by
  have h : ((List.range 256).all fun x => decide (x < long0.size) && ((long0.data[x]?.getD 0).toNat == nbits x)) = true := by kernel_rfl
  intro x hx
  have := List.all_eq_true.mp h x (List.mem_range.mpr hx)
  simp at this
  exact ⟨this.1, by simpa using this.2⟩
theorem len32_j1 {H : AH} {x c : Nat} (hx : x < 256) (hc : c ≤ 24) : Ev (fun k _ => f97_J1 k (u32 x) (i64 c) H) (Pu H fun v => v = i64 (c + nbits x)) := by
  refine Ev.eq (fun k _ => f97_J1_eq k _ _ H) ?_
  have hn : nbits x ≤ 8 := nbits_le.mpr (by omega)
  refine Ev.prim (toU8 Uw Ub) ?_
  rw [Nat.mod_eq_of_lt hx]
  have h1 := long0_len x hx
  refine Ev.prim (a := u8 (nbits x)) ?_ ?_
  · unfold ix
    rw [Ustr]; simp only
    rw [if_pos ⟨by omega, by omega⟩, Int.toNat_natCast, h1.2]
  refine Ev.prim (toI64 (by omega) Ub Ui) ?_
  repeat (first | refine Ev.some2 ?_ | refine Ev.some1 ?_ | refine Ev.gDo ?_ | refine Ev.gSkipT ?_ | refine Ev.gSkipF ?_ | refine Ev.gUndef ?_ | refine Ev.gCall ?_ | refine Ev.tt ?_ | refine Ev.ff ?_ | refine Ev.gPrim (by (first | with_reducible exact lssL | with_reducible exact gtrL | with_reducible exact eqlL | with_reducible exact neqL | with_reducible exact leqL | with_reducible exact geqL | with_reducible exact lssN | with_reducible exact gtrN | with_reducible exact eqlN | with_reducible exact neqN | with_reducible exact leqN | with_reducible exact geqN | (with_reducible refine addL ?_; omega) | (with_reducible refine subL ?_; omega) | (with_reducible refine quoL ?_; omega) | (with_reducible refine mulL ?_; omega) | (with_reducible refine lmul ?_; omega) | (with_reducible refine addN ?_; omega) | (with_reducible refine subN ?_; omega) | (with_reducible refine quoN ?_; omega) | (with_reducible refine mulN ?_; omega) | (with_reducible refine addQ ?_; omega) | (with_reducible refine subQ ?_; omega) | (with_reducible refine mulQ ?_; omega) | (with_reducible refine shlQL ?_; omega) | (with_reducible refine shlQ ?_; omega) | (with_reducible refine remL ?_; decide) | (with_reducible refine shrL ?_; decide) | (with_reducible refine remN ?_; omega) | (with_reducible refine toU64 ?_ Uw Uq; omega) | (with_reducible exact toU32 Uq Uw) | exact bin_lss | exact bin_gtr | exact bin_eql | exact bin_neq | exact bin_leq | exact bin_geq | exact lenV_sl Us | exact ext_0 | exact ext_1 | exact ext_2 | exact pick_t | exact pick_f | exact bin_add64 (by omega) | exact bin_sub64 (by omega) | exact un_not | exact cv_int Uq Uw | exact cv_int Uw Uq | exact bin_add | exact bin_sub | exact bin_mul | rfl)) rfl ?_ | refine Ev.prim (by (first | with_reducible exact lssL | with_reducible exact gtrL | with_reducible exact eqlL | with_reducible exact neqL | with_reducible exact leqL | with_reducible exact geqL | with_reducible exact lssN | with_reducible exact gtrN | with_reducible exact eqlN | with_reducible exact neqN | with_reducible exact leqN | with_reducible exact geqN | (with_reducible refine addL ?_; omega) | (with_reducible refine subL ?_; omega) | (with_reducible refine quoL ?_; omega) | (with_reducible refine mulL ?_; omega) | (with_reducible refine lmul ?_; omega) | (with_reducible refine addN ?_; omega) | (with_reducible refine subN ?_; omega) | (with_reducible refine quoN ?_; omega) | (with_reducible refine mulN ?_; omega) | (with_reducible refine addQ ?_; omega) | (with_reducible refine subQ ?_; omega) | (with_reducible refine mulQ ?_; omega) | (with_reducible refine shlQL ?_; omega) | (with_reducible refine shlQ ?_; omega) | (with_reducible refine remL ?_; decide) | (with_reducible refine shrL ?_; decide) | (with_reducible refine remN ?_; omega) | (with_reducible refine toU64 ?_ Uw Uq; omega) | (with_reducible exact toU32 Uq Uw) | exact bin_lss | exact bin_gtr | exact bin_eql | exact bin_neq | exact bin_leq | exact bin_geq | exact lenV_sl Us | exact ext_0 | exact ext_1 | exact ext_2 | exact pick_t | exact pick_f | exact bin_add64 (by omega) | exact bin_sub64 (by omega) | exact un_not | exact cv_int Uq Uw | exact cv_int Uw Uq | exact bin_add | exact bin_sub | exact bin_mul | rfl)) ?_)
  exact Ev.doneU rfl
theorem len32_j0 {H : AH} {x c : Nat} (hx : x < 65536) (hc : c ≤ 16) : Ev (fun k _ => f97_J0 k (u32 x) (i64 c) H) (Pu H fun v => v = i64 (c + nbits x)) := by
  refine Ev.eq (fun k _ => f97_J0_eq k _ _ H) ?_
  refine Ev.prim geqL ?_
  refine Ev.ifp (fun h => ?_) fun h => ?_
  · repeat (first | refine Ev.some2 ?_ | refine Ev.some1 ?_ | refine Ev.gDo ?_ | refine Ev.gSkipT ?_ | refine Ev.gSkipF ?_ | refine Ev.gUndef ?_ | refine Ev.gCall ?_ | refine Ev.tt ?_ | refine Ev.ff ?_ | refine Ev.gPrim (by (first | with_reducible exact lssL | with_reducible exact gtrL | with_reducible exact eqlL | with_reducible exact neqL | with_reducible exact leqL | with_reducible exact geqL | with_reducible exact lssN | with_reducible exact gtrN | with_reducible exact eqlN | with_reducible exact neqN | with_reducible exact leqN | with_reducible exact geqN | (with_reducible refine addL ?_; omega) | (with_reducible refine subL ?_; omega) | (with_reducible refine quoL ?_; omega) | (with_reducible refine mulL ?_; omega) | (with_reducible refine lmul ?_; omega) | (with_reducible refine addN ?_; omega) | (with_reducible refine subN ?_; omega) | (with_reducible refine quoN ?_; omega) | (with_reducible refine mulN ?_; omega) | (with_reducible refine addQ ?_; omega) | (with_reducible refine subQ ?_; omega) | (with_reducible refine mulQ ?_; omega) | (with_reducible refine shlQL ?_; omega) | (with_reducible refine shlQ ?_; omega) | (with_reducible refine remL ?_; decide) | (with_reducible refine shrL ?_; decide) | (with_reducible refine remN ?_; omega) | (with_reducible refine toU64 ?_ Uw Uq; omega) | (with_reducible exact toU32 Uq Uw) | exact bin_lss | exact bin_gtr | exact bin_eql | exact bin_neq | exact bin_leq | exact bin_geq | exact lenV_sl Us | exact ext_0 | exact ext_1 | exact ext_2 | exact pick_t | exact pick_f | exact bin_add64 (by omega) | exact bin_sub64 (by omega) | exact un_not | exact cv_int Uq Uw | exact cv_int Uw Uq | exact bin_add | exact bin_sub | exact bin_mul | rfl)) rfl ?_ | refine Ev.prim (by (first | with_reducible exact lssL | with_reducible exact gtrL | with_reducible exact eqlL | with_reducible exact neqL | with_reducible exact leqL | with_reducible exact geqL | with_reducible exact lssN | with_reducible exact gtrN | with_reducible exact eqlN | with_reducible exact neqN | with_reducible exact leqN | with_reducible exact geqN | (with_reducible refine addL ?_; omega) | (with_reducible refine subL ?_; omega) | (with_reducible refine quoL ?_; omega) | (with_reducible refine mulL ?_; omega) | (with_reducible refine lmul ?_; omega) | (with_reducible refine addN ?_; omega) | (with_reducible refine subN ?_; omega) | (with_reducible refine quoN ?_; omega) | (with_reducible refine mulN ?_; omega) | (with_reducible refine addQ ?_; omega) | (with_reducible refine subQ ?_; omega) | (with_reducible refine mulQ ?_; omega) | (with_reducible refine shlQL ?_; omega) | (with_reducible refine shlQ ?_; omega) | (with_reducible refine remL ?_; decide) | (with_reducible refine shrL ?_; decide) | (with_reducible refine remN ?_; omega) | (with_reducible refine toU64 ?_ Uw Uq; omega) | (with_reducible exact toU32 Uq Uw) | exact bin_lss | exact bin_gtr | exact bin_eql | exact bin_neq | exact bin_leq | exact bin_geq | exact lenV_sl Us | exact ext_0 | exact ext_1 | exact ext_2 | exact pick_t | exact pick_f | exact bin_add64 (by omega) | exact bin_sub64 (by omega) | exact un_not | exact cv_int Uq Uw | exact cv_int Uw Uq | exact bin_add | exact bin_sub | exact bin_mul | rfl)) ?_)
    rw [nbits_div (k := 8) h, show c + (nbits (x / 2 ^ 8) + 8) = c + 8 + nbits (x / 2 ^ 8) by omega]
    exact len32_j1 (by omega) (by omega)
  · exact len32_j1 (by omega) (by omega)
theorem Len32_spec {H : AH} {x : Nat} (hx : x < 4294967296) : Ev (fun k _ => rn k 97 [u32 x] H) (Pu H fun v => v = i64 (nbits x)) := by
  refine Ev.fn (fun k => f97_eq k _ H) ?_
  refine Ev.prim geqL ?_
  refine Ev.ifp (fun h => ?_) fun h => ?_
  · repeat (first | refine Ev.some2 ?_ | refine Ev.some1 ?_ | refine Ev.gDo ?_ | refine Ev.gSkipT ?_ | refine Ev.gSkipF ?_ | refine Ev.gUndef ?_ | refine Ev.gCall ?_ | refine Ev.tt ?_ | refine Ev.ff ?_ | refine Ev.gPrim (by (first | with_reducible exact lssL | with_reducible exact gtrL | with_reducible exact eqlL | with_reducible exact neqL | with_reducible exact leqL | with_reducible exact geqL | with_reducible exact lssN | with_reducible exact gtrN | with_reducible exact eqlN | with_reducible exact neqN | with_reducible exact leqN | with_reducible exact geqN | (with_reducible refine addL ?_; omega) | (with_reducible refine subL ?_; omega) | (with_reducible refine quoL ?_; omega) | (with_reducible refine mulL ?_; omega) | (with_reducible refine lmul ?_; omega) | (with_reducible refine addN ?_; omega) | (with_reducible refine subN ?_; omega) | (with_reducible refine quoN ?_; omega) | (with_reducible refine mulN ?_; omega) | (with_reducible refine addQ ?_; omega) | (with_reducible refine subQ ?_; omega) | (with_reducible refine mulQ ?_; omega) | (with_reducible refine shlQL ?_; omega) | (with_reducible refine shlQ ?_; omega) | (with_reducible refine remL ?_; decide) | (with_reducible refine shrL ?_; decide) | (with_reducible refine remN ?_; omega) | (with_reducible refine toU64 ?_ Uw Uq; omega) | (with_reducible exact toU32 Uq Uw) | exact bin_lss | exact bin_gtr | exact bin_eql | exact bin_neq | exact bin_leq | exact bin_geq | exact lenV_sl Us | exact ext_0 | exact ext_1 | exact ext_2 | exact pick_t | exact pick_f | exact bin_add64 (by omega) | exact bin_sub64 (by omega) | exact un_not | exact cv_int Uq Uw | exact cv_int Uw Uq | exact bin_add | exact bin_sub | exact bin_mul | rfl)) rfl ?_ | refine Ev.prim (by (first | with_reducible exact lssL | with_reducible exact gtrL | with_reducible exact eqlL | with_reducible exact neqL | with_reducible exact leqL | with_reducible exact geqL | with_reducible exact lssN | with_reducible exact gtrN | with_reducible exact eqlN | with_reducible exact neqN | with_reducible exact leqN | with_reducible exact geqN | (with_reducible refine addL ?_; omega) | (with_reducible refine subL ?_; omega) | (with_reducible refine quoL ?_; omega) | (with_reducible refine mulL ?_; omega) | (with_reducible refine lmul ?_; omega) | (with_reducible refine addN ?_; omega) | (with_reducible refine subN ?_; omega) | (with_reducible refine quoN ?_; omega) | (with_reducible refine mulN ?_; omega) | (with_reducible refine addQ ?_; omega) | (with_reducible refine subQ ?_; omega) | (with_reducible refine mulQ ?_; omega) | (with_reducible refine shlQL ?_; omega) | (with_reducible refine shlQ ?_; omega) | (with_reducible refine remL ?_; decide) | (with_reducible refine shrL ?_; decide) | (with_reducible refine remN ?_; omega) | (with_reducible refine toU64 ?_ Uw Uq; omega) | (with_reducible exact toU32 Uq Uw) | exact bin_lss | exact bin_gtr | exact bin_eql | exact bin_neq | exact bin_leq | exact bin_geq | exact lenV_sl Us | exact ext_0 | exact ext_1 | exact ext_2 | exact pick_t | exact pick_f | exact bin_add64 (by omega) | exact bin_sub64 (by omega) | exact un_not | exact cv_int Uq Uw | exact cv_int Uw Uq | exact bin_add | exact bin_sub | exact bin_mul | rfl)) ?_)
    rw [nbits_div (k := 16) h, Nat.add_comm]
    exact len32_j0 (c := 16) (by omega) (by omega)
  · have := len32_j0 (H := H) (x := x) (c := 0) (by omega) (by omega)
    rwa [Nat.zero_add] at this
theorem Small_spec {B H : AH} {xs : List Nat} {a : Value} (hm : xs.length < 549755813888) (ha : RdN B a xs) (hL : Le B H) : Ev (fun k _ => rn k 60 [a] H)
    (Pu H fun v => v = if val xs < 18446744073709551616 then .tuple #[u64 (val xs), .bool true] else .tuple #[u64 0, .bool false]) := by
  refine Ev.fn (fun k => f60_eq k _ H) ?_
  have hx := limbs_length_le (val_lt ha.2)
  refine Ev.callU (trim_pure (by omega) ha hL) fun a ha => ?_
  generalize val xs = x at *
  have hv := val_limbs x
  have hk : x < 18446744073709551616 → (limbs x).length ≤ 2 := fun h => limbs_length_le (k := 2) h
  have hsm := small_limbs x
  generalize limbs x = l at *
  subst hv
  refine Ev.prim (ha.lenN Ew) ?_
  refine Ev.prim eqlL ?_
  match l, hsm, ha, hx with
  | [], hsm, ha, hx =>
    refine Ev.ifp (fun h => ?_) fun h => absurd rfl h
    exact Ev.doneU rfl
  | [x], hsm, ha, hx =>
    refine Ev.ifp (fun h => absurd h (by simp)) fun h => ?_
    refine Ev.prim eqlL ?_
    refine Ev.ifp (fun h => ?_) fun h => absurd rfl h
    obtain ⟨p, hp1, hp2⟩ := ha.ixN (k := .i64) (i := 0) Ew (by simp)
    refine Ev.prim hp1 ?_
    refine Ev.prim (hp2 H hL.le) ?_
    have := hsm.head
    simp only [List.getD_cons_zero]
    repeat (first | refine Ev.some2 ?_ | refine Ev.some1 ?_ | refine Ev.gDo ?_ | refine Ev.gSkipT ?_ | refine Ev.gSkipF ?_ | refine Ev.gUndef ?_ | refine Ev.gCall ?_ | refine Ev.tt ?_ | refine Ev.ff ?_ | refine Ev.gPrim (by (first | with_reducible exact lssL | with_reducible exact gtrL | with_reducible exact eqlL | with_reducible exact neqL | with_reducible exact leqL | with_reducible exact geqL | with_reducible exact lssN | with_reducible exact gtrN | with_reducible exact eqlN | with_reducible exact neqN | with_reducible exact leqN | with_reducible exact geqN | (with_reducible refine addL ?_; omega) | (with_reducible refine subL ?_; omega) | (with_reducible refine quoL ?_; omega) | (with_reducible refine mulL ?_; omega) | (with_reducible refine lmul ?_; omega) | (with_reducible refine addN ?_; omega) | (with_reducible refine subN ?_; omega) | (with_reducible refine quoN ?_; omega) | (with_reducible refine mulN ?_; omega) | (with_reducible refine addQ ?_; omega) | (with_reducible refine subQ ?_; omega) | (with_reducible refine mulQ ?_; omega) | (with_reducible refine shlQL ?_; omega) | (with_reducible refine shlQ ?_; omega) | (with_reducible refine remL ?_; decide) | (with_reducible refine shrL ?_; decide) | (with_reducible refine remN ?_; omega) | (with_reducible refine toU64 ?_ Uw Uq; omega) | (with_reducible exact toU32 Uq Uw) | exact bin_lss | exact bin_gtr | exact bin_eql | exact bin_neq | exact bin_leq | exact bin_geq | exact lenV_sl Us | exact ext_0 | exact ext_1 | exact ext_2 | exact pick_t | exact pick_f | exact bin_add64 (by omega) | exact bin_sub64 (by omega) | exact un_not | exact cv_int Uq Uw | exact cv_int Uw Uq | exact bin_add | exact bin_sub | exact bin_mul | rfl)) rfl ?_ | refine Ev.prim (by (first | with_reducible exact lssL | with_reducible exact gtrL | with_reducible exact eqlL | with_reducible exact neqL | with_reducible exact leqL | with_reducible exact geqL | with_reducible exact lssN | with_reducible exact gtrN | with_reducible exact eqlN | with_reducible exact neqN | with_reducible exact leqN | with_reducible exact geqN | (with_reducible refine addL ?_; omega) | (with_reducible refine subL ?_; omega) | (with_reducible refine quoL ?_; omega) | (with_reducible refine mulL ?_; omega) | (with_reducible refine lmul ?_; omega) | (with_reducible refine addN ?_; omega) | (with_reducible refine subN ?_; omega) | (with_reducible refine quoN ?_; omega) | (with_reducible refine mulN ?_; omega) | (with_reducible refine addQ ?_; omega) | (with_reducible refine subQ ?_; omega) | (with_reducible refine mulQ ?_; omega) | (with_reducible refine shlQL ?_; omega) | (with_reducible refine shlQ ?_; omega) | (with_reducible refine remL ?_; decide) | (with_reducible refine shrL ?_; decide) | (with_reducible refine remN ?_; omega) | (with_reducible refine toU64 ?_ Uw Uq; omega) | (with_reducible exact toU32 Uq Uw) | exact bin_lss | exact bin_gtr | exact bin_eql | exact bin_neq | exact bin_leq | exact bin_geq | exact lenV_sl Us | exact ext_0 | exact ext_1 | exact ext_2 | exact pick_t | exact pick_f | exact bin_add64 (by omega) | exact bin_sub64 (by omega) | exact un_not | exact cv_int Uq Uw | exact cv_int Uw Uq | exact bin_add | exact bin_sub | exact bin_mul | rfl)) ?_)
    refine Ev.doneU ?_
    have e : val [x] = x := by simp [val]
    rw [if_pos (by omega), e]
  | [x, y], hsm, ha, hx =>
    refine Ev.ifp (fun h => absurd h (by simp)) fun h => ?_
    refine Ev.prim eqlL ?_
    refine Ev.ifp (fun h => absurd h (by simp)) fun h => ?_
    refine Ev.prim eqlL ?_
    refine Ev.ifp (fun h => ?_) fun h => absurd rfl h
    obtain ⟨p, hp1, hp2⟩ := ha.ixN (k := .i64) (i := 1) Ew (by simp)
    refine Ev.prim hp1 ?_
    refine Ev.prim (hp2 H hL.le) ?_
    have h0 := hsm.head
    have h1 := hsm.tail.head
    simp only [List.getD_cons_zero, List.getD_cons_succ]
    refine Ev.prim (toU64 (by omega) Uw Uq) ?_
    refine Ev.prim (shlQL ⟨by omega, by omega⟩) ?_
    obtain ⟨q, hq1, hq2⟩ := ha.ixN (k := .i64) (i := 0) Ew (by simp)
    refine Ev.prim hq1 ?_
    refine Ev.prim (hq2 H hL.le) ?_
    simp only [List.getD_cons_zero]
    refine Ev.prim (toU64 (by omega) Uw Uq) ?_
    refine Ev.prim (orQ ⟨by omega, by omega⟩) ?_
    refine Ev.doneU ?_
    have e : val [x, y] = x + 4294967296 * y := by simp [val]
    rw [if_pos (by omega), e, ← Nat.shiftLeft_eq, ← Nat.shiftLeft_add_eq_or_of_lt (show x < 2 ^ 32 by omega), Nat.shiftLeft_eq, show y * 2 ^ 32 + x = x + 4294967296 * y by omega]
  | x :: y :: z :: l, hsm, ha, hx =>
    refine Ev.ifp (fun h => absurd h (by simp)) fun h => ?_
    refine Ev.prim eqlL ?_
    refine Ev.ifp (fun h => absurd h (by simp)) fun h => ?_
    refine Ev.prim eqlL ?_
    refine Ev.ifp (fun h => absurd h (by simp)) fun h => ?_
    refine Ev.doneU ?_
    rw [if_neg fun h => absurd (hk h) (by simp)]; rfl
end Go.AM.Z
set_option linter.unusedVariables false
set_option linter.unusedSimpArgs false
set_option maxRecDepth 100000
namespace Go.AM.Z
open Go Go.AM Go.Proofs
attribute [local irreducible] run bin un ld st box newV mkS fldA fld ixA ix slc slc3 build buildS cv cvS ap cpy lenV gOp pickV b2 aIf aChk evalK resume iterD Option.bind

theorem mul_inner {H0 B0 B : AH} {xs ys : List Nat} {a b : Value} {bo i x T : Nat} (hb : RdN B b ys) (hx : x < 4294967296) (hi : i < xs.length) (hlen : xs.length + ys.length < 549755813888) :
    ∀ (m j : Nat) (zs : List Nat) (c : Nat) (H : AH), j + m = ys.length → zs.length = xs.length + ys.length → small zs → c < 4294967296 →
    val (zs.take (i + ys.length)) + 4294967296 ^ (i + j) * c = T + 4294967296 ^ i * (x * val (ys.take j)) →
    St H0 B0 B [(bo, ⟨zs.map u32, 70, .fix⟩)] H →
    Ev (fun k n => f59_L1 k b (sl bo 0 (xs.length + ys.length) (xs.length + ys.length)) (i64 i) (u32 x) (u64 c) a (i64 xs.length) (i64 i) b (i64 ys.length) (i64 j) n H)
      (fun o => ∃ zs c H, o = (.exit 2, f59_X_L1 b (sl bo 0 (xs.length + ys.length) (xs.length + ys.length)) (i64 i) (u64 c) a (i64 xs.length) (i64 i), H) ∧ zs.length = xs.length + ys.length ∧ small zs ∧ c < 4294967296 ∧
        val (zs.take (i + ys.length)) + 4294967296 ^ (i + ys.length) * c = T + 4294967296 ^ i * (x * val ys) ∧ St H0 B0 B [(bo, ⟨zs.map u32, 70, .fix⟩)] H) := by
  intro m
  induction m with
  | zero =>
    intro j zs c H hj hz hsm hc hv hS
    refine Ev.succ (fun k n => f59_L1_succ k _ _ _ _ _ _ _ _ _ _ _ n H) ?_
    refine Ev.prim lssN ?_
    refine Ev.ifp (fun h => absurd h (by omega)) fun _ => ?_
    refine Ev.ret ⟨zs, c, H, rfl, hz, hsm, hc, ?_, hS⟩
    have : j = ys.length := by omega
    subst this
    rw [List.take_of_length_le (Nat.le_refl _)] at hv
    exact hv
  | succ m ih =>
    intro j zs c H hj hz hsm hc hv hS
    refine Ev.succ (fun k n => f59_L1_succ k _ _ _ _ _ _ _ _ _ _ _ n H) ?_
    refine Ev.prim lssN ?_
    refine Ev.ifp (fun _ => ?_) fun h => absurd (by omega) h
    obtain ⟨p, hp1, hp2⟩ := hb.ixN (k := .i64) (i := j) Ew (by omega)
    refine Ev.prim hp1 ?_
    refine Ev.prim (hp2 H hS.le) ?_
    have hy := hb.2.getD j
    have ho := hsm.getD (i + j)
    have hxy : x * ys.getD j 0 ≤ 4294967295 * 4294967295 := Nat.mul_le_mul (by omega) (by omega)
    refine Ev.prim (toU64 (by omega) Uw Uq) ?_
    refine Ev.prim (toU64 (by omega) Uw Uq) ?_
    refine Ev.prim (mulQ (by omega)) ?_
    refine Ev.prim (addN (by omega)) ?_
    refine Ev.prim (ixA_own Ew (by omega)) ?_
    refine Ev.ldW Ew hS (by (first | exact .head _ | exact .tail _ (.head _) | exact .tail _ (.tail _ (.head _)) | exact .tail _ (.tail _ (.tail _ (.head _))) | exact .tail _ (.tail _ (.tail _ (.tail _ (.head _)))))) (j := i + j) (by omega) (by omega) ?_
    refine Ev.prim (toU64 (by omega) Uw Uq) ?_
    generalize hw : ys.getD j 0 = y at *
    generalize hp : x * y = q at *
    refine Ev.prim (addQ (by omega)) ?_
    refine Ev.prim (addQ (by omega)) ?_
    refine Ev.prim (addN (by omega)) ?_
    refine Ev.prim (toU32 Uq Uw) ?_
    refine Ev.prim (shrN (b := 32) (by decide)) ?_
    refine Ev.prim (ixA_own Ew (by omega)) ?_
    refine Ev.stW Ew hS (by (first | exact .head _ | exact .tail _ (.head _) | exact .tail _ (.tail _ (.head _)) | exact .tail _ (.tail _ (.tail _ (.head _))) | exact .tail _ (.tail _ (.tail _ (.tail _ (.head _)))))) (j := i + j) (by omega) (by omega) rfl (by simp) (.head _) fun H' hS' => ?_
    refine Ev.prim (by (first | with_reducible exact lssL | with_reducible exact gtrL | with_reducible exact eqlL | with_reducible exact neqL | with_reducible exact leqL | with_reducible exact geqL | with_reducible exact lssN | with_reducible exact gtrN | with_reducible exact eqlN | with_reducible exact neqN | with_reducible exact leqN | with_reducible exact geqN | (with_reducible refine addL ?_; omega) | (with_reducible refine subL ?_; omega) | (with_reducible refine quoL ?_; omega) | (with_reducible refine mulL ?_; omega) | (with_reducible refine lmul ?_; omega) | (with_reducible refine addN ?_; omega) | (with_reducible refine subN ?_; omega) | (with_reducible refine quoN ?_; omega) | (with_reducible refine mulN ?_; omega) | (with_reducible refine addQ ?_; omega) | (with_reducible refine subQ ?_; omega) | (with_reducible refine mulQ ?_; omega) | (with_reducible refine shlQL ?_; omega) | (with_reducible refine shlQ ?_; omega) | (with_reducible refine remL ?_; decide) | (with_reducible refine shrL ?_; decide) | (with_reducible refine remN ?_; omega) | (with_reducible refine toU64 ?_ Uw Uq; omega) | (with_reducible exact toU32 Uq Uw) | exact bin_lss | exact bin_gtr | exact bin_eql | exact bin_neq | exact bin_leq | exact bin_geq | exact lenV_sl Us | exact ext_0 | exact ext_1 | exact ext_2 | exact pick_t | exact pick_f | exact bin_add64 (by omega) | exact bin_sub64 (by omega) | exact un_not | exact cv_int Uq Uw | exact cv_int Uw Uq | exact bin_add | exact bin_sub | exact bin_mul | rfl)) ?_
    refine ih (j + 1) _ _ H' (by omega) (by simp [hz]) (hsm.set _ (Nat.mod_lt _ (by decide))) (by omega) ?_ hS'
    have e1 := val_set (zs := zs.take (i + ys.length)) (j := i + j) (w := (q + zs.getD (i + j) 0 + c) % 4294967296) (by rw [List.length_take]; omega)
    rw [getD_take (by omega)] at e1
    rw [List.take_set, val_take_succ', hw, Nat.mul_add x, Nat.mul_left_comm x, hp, Nat.mul_add (4294967296 ^ i), ← Nat.mul_assoc (4294967296 ^ i) (4294967296 ^ j), ← Nat.pow_add]
    have e2 : (q + zs.getD (i + j) 0 + c) % 4294967296 + 4294967296 * ((q + zs.getD (i + j) 0 + c) / 2 ^ 32) = q + zs.getD (i + j) 0 + c := by omega
    generalize (q + zs.getD (i + j) 0 + c) % 4294967296 = w at *
    generalize (q + zs.getD (i + j) 0 + c) / 2 ^ 32 = c' at *
    generalize zs.getD (i + j) 0 = o at *
    rw [show i + (j + 1) = i + j + 1 by omega, Nat.pow_succ, Nat.mul_assoc]
    have e3 := congrArg (4294967296 ^ (i + j) * ·) e2
    simp only [Nat.mul_add] at e3
    omega
theorem mul_loop {H0 B0 B : AH} {xs ys : List Nat} {a b : Value} {bo : Nat} (ha : RdN B a xs) (hb : RdN B b ys) (hlen : xs.length + ys.length < 549755813888) :
    ∀ (m i : Nat) (zs : List Nat) (H : AH), i + m = xs.length → zs.length = xs.length + ys.length → small zs → val (zs.take (i + ys.length)) = val (xs.take i) * val ys →
    St H0 B0 B [(bo, ⟨zs.map u32, 70, .fix⟩)] H →
    Ev (fun k n => f59_L0 k b (sl bo 0 (xs.length + ys.length) (xs.length + ys.length)) a (i64 xs.length) (i64 i) n H)
      (fun o => ∃ zs H, o = (.exit 0, f59_X_L0 (sl bo 0 (xs.length + ys.length) (xs.length + ys.length)), H) ∧ zs.length = xs.length + ys.length ∧ small zs ∧ val zs = val xs * val ys ∧
        St H0 B0 B [(bo, ⟨zs.map u32, 70, .fix⟩)] H) := by
  intro m
  induction m with
  | zero =>
    intro i zs H hi hz hsm hv hS
    refine Ev.succ (fun k n => f59_L0_succ k _ _ _ _ _ n H) ?_
    refine Ev.prim lssN ?_
    refine Ev.ifp (fun h => absurd h (by omega)) fun _ => ?_
    refine Ev.ret ⟨zs, H, rfl, hz, hsm, ?_, hS⟩
    have : i = xs.length := by omega
    subst this
    rw [List.take_of_length_le (by omega), List.take_of_length_le (Nat.le_refl _)] at hv
    exact hv
  | succ m ih =>
    intro i zs H hi hz hsm hv hS
    refine Ev.succ (fun k n => f59_L0_succ k _ _ _ _ _ n H) ?_
    refine Ev.prim lssN ?_
    refine Ev.ifp (fun _ => ?_) fun h => absurd (by omega) h
    obtain ⟨p, hp1, hp2⟩ := ha.ixN (k := .i64) (i := i) Ew (by omega)
    refine Ev.prim hp1 ?_
    refine Ev.prim (hp2 H hS.le) ?_
    refine Ev.prim (hb.lenN Ew) ?_
    refine Ev.bind (Ev.loop (mul_inner (a := a) (x := xs.getD i 0) (T := val (xs.take i) * val ys) hb (ha.2.getD i) (by omega) hlen ys.length 0 zs 0 H (by omega) hz hsm (by decide) (by simp [val, hv]) hS)) ?_
    rintro _ ⟨zs, c, H1, rfl, hz, hsm, hc, hv1, hS1⟩
    refine Ev.eq (fun k n => f59_A1_x2 k n _ _ _ _ _ _ _ H1) ?_
    refine Ev.prim (hb.lenN Ew) ?_
    refine Ev.prim (addN (by omega)) ?_
    refine Ev.prim (toU32 Uq Uw) ?_
    rw [Nat.mod_eq_of_lt hc]
    refine Ev.prim (ixA_own Ew (by omega)) ?_
    refine Ev.stW Ew hS1 (by (first | exact .head _ | exact .tail _ (.head _) | exact .tail _ (.tail _ (.head _)) | exact .tail _ (.tail _ (.tail _ (.head _))) | exact .tail _ (.tail _ (.tail _ (.tail _ (.head _)))))) (j := i + ys.length) (by omega) (by omega) rfl (by simp) (.head _) fun H' hS' => ?_
    refine Ev.prim (by (first | with_reducible exact lssL | with_reducible exact gtrL | with_reducible exact eqlL | with_reducible exact neqL | with_reducible exact leqL | with_reducible exact geqL | with_reducible exact lssN | with_reducible exact gtrN | with_reducible exact eqlN | with_reducible exact neqN | with_reducible exact leqN | with_reducible exact geqN | (with_reducible refine addL ?_; omega) | (with_reducible refine subL ?_; omega) | (with_reducible refine quoL ?_; omega) | (with_reducible refine mulL ?_; omega) | (with_reducible refine lmul ?_; omega) | (with_reducible refine addN ?_; omega) | (with_reducible refine subN ?_; omega) | (with_reducible refine quoN ?_; omega) | (with_reducible refine mulN ?_; omega) | (with_reducible refine addQ ?_; omega) | (with_reducible refine subQ ?_; omega) | (with_reducible refine mulQ ?_; omega) | (with_reducible refine shlQL ?_; omega) | (with_reducible refine shlQ ?_; omega) | (with_reducible refine remL ?_; decide) | (with_reducible refine shrL ?_; decide) | (with_reducible refine remN ?_; omega) | (with_reducible refine toU64 ?_ Uw Uq; omega) | (with_reducible exact toU32 Uq Uw) | exact bin_lss | exact bin_gtr | exact bin_eql | exact bin_neq | exact bin_leq | exact bin_geq | exact lenV_sl Us | exact ext_0 | exact ext_1 | exact ext_2 | exact pick_t | exact pick_f | exact bin_add64 (by omega) | exact bin_sub64 (by omega) | exact un_not | exact cv_int Uq Uw | exact cv_int Uw Uq | exact bin_add | exact bin_sub | exact bin_mul | rfl)) ?_
    refine ih (i + 1) _ H' (by omega) (by simp [hz]) (hsm.set _ hc) ?_ hS'
    rw [show i + 1 + ys.length = i + ys.length + 1 by omega, val_take_set (by omega), hv1, val_take_succ', Nat.add_mul, Nat.mul_assoc]
theorem Mul_spec {B H : AH} {xs ys : List Nat} {a b : Value} (ha : RdN B a xs) (hb : RdN B b ys) (hm : xs.length < 137438953472) (hm' : ys.length < 137438953472) (hL : Le B H) :
    Ev (fun k _ => rn k 59 [a, b] H) (An B H fun B' v => RdN B' v (limbs (val xs * val ys))) := by
  refine Ev.fn (fun k => f59_eq k _ _ H) ?_
  have hx := limbs_length_le (val_lt ha.2)
  have hy := limbs_length_le (val_lt hb.2)
  refine Ev.callU (trim_pure (by omega) ha hL) fun a ha => ?_
  refine Ev.callU (trim_pure (by omega) hb hL) fun b hb => ?_
  generalize val xs = x at *
  generalize val ys = y at *
  refine Ev.prim (ha.lenN Ew) ?_
  refine Ev.prim (hb.lenN Ew) ?_
  refine Ev.prim (addN (by omega)) ?_
  refine Ev.mkS Ew (St.start hL) (by omega) (by omega) fun bo B1 H1 hm1 hS1 => ?_
  rw [map_replicate] at hS1
  refine Ev.prim (ha.lenN Ew) ?_
  refine Ev.bind (Ev.loop (mul_loop (ha.mono hm1) (hb.mono hm1) (by omega) (limbs x).length 0 (List.replicate ((limbs x).length + (limbs y).length) 0) H1 (by omega) (by simp) (small_replicate _) (by simp [val, val_replicate]) hS1)) ?_
  rintro _ ⟨zs, H2, rfl, hz, hsm, hv, hS2⟩
  refine Ev.eq (fun k _ => f59_A0_x0 k _ H2) ?_
  rw [val_limbs, val_limbs] at hv
  obtain ⟨B4, hm4, hr4, hS4⟩ := hS2.freezeN (n := (limbs x).length + (limbs y).length) (cap := (limbs x).length + (limbs y).length) hsm hz.symm (by omega)
  refine Ev.call hS4 (trim_spec (by omega) hr4) fun v B5 H5 hm5 hS5 h5 => ?_
  refine Ev.done hS5 ?_
  rw [← hv]; exact h5
end Go.AM.Z
set_option linter.unusedVariables false
set_option linter.unusedSimpArgs false
set_option maxRecDepth 100000
namespace Go.AM.Z
open Go Go.AM Go.Proofs
attribute [local irreducible] run bin un ld st box newV mkS fldA fld ixA ix slc slc3 build buildS cv cvS ap cpy lenV gOp pickV b2 aIf aChk evalK resume iterD Option.bind

theorem or_add {a b i : Nat} (h : a < 2 ^ i) : a ||| b * 2 ^ i = a + b * 2 ^ i := by
  rw [Nat.or_comm, ← Nat.shiftLeft_eq, ← Nat.shiftLeft_add_eq_or_of_lt h, Nat.add_comm]
theorem or_low {o x s : Nat} (ho : o < 2 ^ s) (hs : s < 32) : o ||| x * 2 ^ s % 4294967296 = o + x * 2 ^ s % 4294967296 := by
  have e : x * 2 ^ s % 4294967296 = (x % 2 ^ (32 - s)) * 2 ^ s := by
    rw [show (4294967296 : Nat) = 2 ^ (32 - s) * 2 ^ s by rw [← Nat.pow_add, show 32 - s + s = 32 by omega], Nat.mul_mod_mul_right]
  rw [e, or_add ho]
theorem shl_loop {H0 B0 B : AH} {xs : List Nat} {a : Value} {bo n q s N : Nat} (ha : RdN B a xs) (hn : n = 32 * q + s) (hs : s < 32) (hlen : xs.length < 549755813888) (hq : q < 100000) (hN : N = q + xs.length + 1) :
    ∀ (m i : Nat) (zs : List Nat) (H : AH), i + m = xs.length → zs.length = N → small zs → val (zs.take (q + i + 1)) = 4294967296 ^ q * (val (xs.take i) * 2 ^ s) → zs.getD (q + i) 0 < 2 ^ s →
    St H0 B0 B [(bo, ⟨zs.map u32, 70, .fix⟩)] H →
    Ev (fun k l => f54_L0 k (i64 n) (sl bo 0 N N) a (i64 xs.length) (i64 i) l H)
      (fun o => ∃ zs H, o = (.exit 0, f54_X_L0 (sl bo 0 N N), H) ∧ zs.length = N ∧ small zs ∧ val zs = 4294967296 ^ q * (val xs * 2 ^ s) ∧ St H0 B0 B [(bo, ⟨zs.map u32, 70, .fix⟩)] H) := by
  intro m
  induction m with
  | zero =>
    intro i zs H hi hz hsm hv ho hS
    refine Ev.succ (fun k l => f54_L0_succ k _ _ _ _ _ l H) ?_
    refine Ev.prim lssN ?_
    refine Ev.ifp (fun h => absurd h (by omega)) fun _ => ?_
    refine Ev.ret ⟨zs, H, rfl, hz, hsm, ?_, hS⟩
    have : i = xs.length := by omega
    subst this
    rw [List.take_of_length_le (by omega), List.take_of_length_le (Nat.le_refl _)] at hv
    exact hv
  | succ m ih =>
    intro i zs H hi hz hsm hv ho hS
    refine Ev.succ (fun k l => f54_L0_succ k _ _ _ _ _ l H) ?_
    refine Ev.prim lssN ?_
    refine Ev.ifp (fun _ => ?_) fun h => absurd (by omega) h
    obtain ⟨p, hp1, hp2⟩ := ha.ixN (k := .i64) (i := i) Ew (by omega)
    refine Ev.prim hp1 ?_
    refine Ev.prim (hp2 H hS.le) ?_
    have hx := ha.2.getD i
    generalize hw : xs.getD i 0 = x at *
    refine Ev.prim (toU64 (by omega) Uw Uq) ?_
    refine Ev.prim (by (first | with_reducible exact lssL | with_reducible exact gtrL | with_reducible exact eqlL | with_reducible exact neqL | with_reducible exact leqL | with_reducible exact geqL | with_reducible exact lssN | with_reducible exact gtrN | with_reducible exact eqlN | with_reducible exact neqN | with_reducible exact leqN | with_reducible exact geqN | (with_reducible refine addL ?_; omega) | (with_reducible refine subL ?_; omega) | (with_reducible refine quoL ?_; omega) | (with_reducible refine mulL ?_; omega) | (with_reducible refine lmul ?_; omega) | (with_reducible refine addN ?_; omega) | (with_reducible refine subN ?_; omega) | (with_reducible refine quoN ?_; omega) | (with_reducible refine mulN ?_; omega) | (with_reducible refine addQ ?_; omega) | (with_reducible refine subQ ?_; omega) | (with_reducible refine mulQ ?_; omega) | (with_reducible refine shlQL ?_; omega) | (with_reducible refine shlQ ?_; omega) | (with_reducible refine remL ?_; decide) | (with_reducible refine shrL ?_; decide) | (with_reducible refine remN ?_; omega) | (with_reducible refine toU64 ?_ Uw Uq; omega) | (with_reducible exact toU32 Uq Uw) | exact bin_lss | exact bin_gtr | exact bin_eql | exact bin_neq | exact bin_leq | exact bin_geq | exact lenV_sl Us | exact ext_0 | exact ext_1 | exact ext_2 | exact pick_t | exact pick_f | exact bin_add64 (by omega) | exact bin_sub64 (by omega) | exact un_not | exact cv_int Uq Uw | exact cv_int Uw Uq | exact bin_add | exact bin_sub | exact bin_mul | rfl)) ?_
    rw [show n % 32 = s by omega]
    have hps : 2 ^ s ≤ 2 ^ 31 := Nat.pow_le_pow_right (n := 2) (by decide) (by omega : s ≤ 31)
    rw [show (2 : Nat) ^ 31 = 2147483648 by decide] at hps
    have hxs : x * 2 ^ s ≤ 4294967295 * 2147483648 := Nat.mul_le_mul (by omega) hps
    refine Ev.prim (shlQ ⟨by omega, by omega⟩) ?_
    refine Ev.prim (quoL ⟨by decide, by omega⟩) ?_
    rw [show n / 32 = q by omega]
    refine Ev.prim (addN (by omega)) ?_
    refine Ev.prim (ixA_own Ew (by omega)) ?_
    refine Ev.ldW Ew hS (by (first | exact .head _ | exact .tail _ (.head _) | exact .tail _ (.tail _ (.head _)) | exact .tail _ (.tail _ (.tail _ (.head _))) | exact .tail _ (.tail _ (.tail _ (.tail _ (.head _)))))) (j := q + i) (by omega) (by omega) ?_
    have hoo := hsm.getD (q + i)
    refine Ev.prim (toU32 Uq Uw) ?_
    refine Ev.prim (orW ⟨hoo, Nat.mod_lt _ (by decide)⟩) ?_
    refine Ev.prim (ixA_own Ew (by omega)) ?_
    rw [or_low ho hs]
    generalize ho' : zs.getD (q + i) 0 = o at *
    have hsum : o + x * 2 ^ s % 4294967296 < 4294967296 := by
      rw [← or_low ho hs]; exact Nat.or_lt_two_pow (n := 32) hoo (Nat.mod_lt _ (by decide))
    refine Ev.stW Ew hS (by (first | exact .head _ | exact .tail _ (.head _) | exact .tail _ (.tail _ (.head _)) | exact .tail _ (.tail _ (.tail _ (.head _))) | exact .tail _ (.tail _ (.tail _ (.tail _ (.head _)))))) (j := q + i) (by omega) (by omega) rfl (by simp) (.head _) fun H1 hS1 => ?_
    refine Ev.prim (quoL ⟨by decide, by omega⟩) ?_
    rw [show n / 32 = q by omega]
    refine Ev.prim (addN (by omega)) ?_
    refine Ev.prim (addL (by omega)) ?_
    refine Ev.prim (shrL (by decide)) ?_
    refine Ev.prim (toU32 Uq Uw) ?_
    have hdv : x * 2 ^ s / 2 ^ 32 < 2 ^ s := Nat.div_lt_of_lt_mul (Nat.mul_lt_mul_of_lt_of_le hx (Nat.le_refl _) (Nat.pow_pos (by decide)))
    rw [Nat.mod_eq_of_lt (show x * 2 ^ s / 2 ^ 32 < 4294967296 by omega)]
    refine Ev.prim (ixA_own Ew (by omega)) ?_
    refine Ev.stW Ew hS1 (by (first | exact .head _ | exact .tail _ (.head _) | exact .tail _ (.tail _ (.head _)) | exact .tail _ (.tail _ (.tail _ (.head _))) | exact .tail _ (.tail _ (.tail _ (.tail _ (.head _)))))) (j := q + i + 1) (by simp; omega) (by omega) rfl (by simp) (.head _) fun H2 hS2 => ?_
    refine Ev.prim (addL (by omega)) ?_
    refine ih (i + 1) _ H2 (by omega) (by simp [hz]) ((hsm.set _ hsum).set _ (by omega)) ?_ ?_ hS2
    · rw [show q + (i + 1) + 1 = q + i + 1 + 1 by omega, val_take_set (by simp; omega), val_take_set (by omega), val_take_succ' xs, hw]
      rw [val_take_succ', ho'] at hv
      have e : o + x * 2 ^ s % 4294967296 + 4294967296 * (x * 2 ^ s / 2 ^ 32) = o + x * 2 ^ s := by omega
      generalize x * 2 ^ s % 4294967296 = w1 at *
      generalize x * 2 ^ s / 2 ^ 32 = w2 at *
      have e2 := congrArg (4294967296 ^ (q + i) * ·) e
      simp only [Nat.mul_add] at e2
      rw [Nat.pow_succ, Nat.mul_assoc, Nat.add_mul, Nat.mul_add (4294967296 ^ q), ← hv, Nat.mul_assoc (4294967296 ^ i), ← Nat.mul_assoc (4294967296 ^ q) (4294967296 ^ i), ← Nat.pow_add, Nat.mul_add]
      omega
    · rw [show q + (i + 1) = q + i + 1 by omega, getD_set_self (by simp; omega)]; exact hdv
theorem Shl_spec {B H : AH} {xs : List Nat} {a : Value} {n : Nat} (ha : RdN B a xs) (hm : xs.length < 137438953472) (hn : n ≤ 100000) (hL : Le B H) :
    Ev (fun k _ => rn k 54 [a, i64 n] H) (An B H fun B' v => ∃ w, v = .tuple #[w, .bool true] ∧ RdN B' w (limbs (val xs * 2 ^ n))) := by
  refine Ev.fn (fun k => f54_eq k _ _ H) ?_
  have hx := limbs_length_le (val_lt ha.2)
  refine Ev.prim lssL ?_
  rw [show decide (n < 0) = false from decide_eq_false (by omega)]
  repeat (first | refine Ev.some2 ?_ | refine Ev.some1 ?_ | refine Ev.gDo ?_ | refine Ev.gSkipT ?_ | refine Ev.gSkipF ?_ | refine Ev.gUndef ?_ | refine Ev.gCall ?_ | refine Ev.tt ?_ | refine Ev.ff ?_ | refine Ev.gPrim (by (first | with_reducible exact lssL | with_reducible exact gtrL | with_reducible exact eqlL | with_reducible exact neqL | with_reducible exact leqL | with_reducible exact geqL | with_reducible exact lssN | with_reducible exact gtrN | with_reducible exact eqlN | with_reducible exact neqN | with_reducible exact leqN | with_reducible exact geqN | (with_reducible refine addL ?_; omega) | (with_reducible refine subL ?_; omega) | (with_reducible refine quoL ?_; omega) | (with_reducible refine mulL ?_; omega) | (with_reducible refine lmul ?_; omega) | (with_reducible refine addN ?_; omega) | (with_reducible refine subN ?_; omega) | (with_reducible refine quoN ?_; omega) | (with_reducible refine mulN ?_; omega) | (with_reducible refine addQ ?_; omega) | (with_reducible refine subQ ?_; omega) | (with_reducible refine mulQ ?_; omega) | (with_reducible refine shlQL ?_; omega) | (with_reducible refine shlQ ?_; omega) | (with_reducible refine remL ?_; decide) | (with_reducible refine shrL ?_; decide) | (with_reducible refine remN ?_; omega) | (with_reducible refine toU64 ?_ Uw Uq; omega) | (with_reducible exact toU32 Uq Uw) | exact bin_lss | exact bin_gtr | exact bin_eql | exact bin_neq | exact bin_leq | exact bin_geq | exact lenV_sl Us | exact ext_0 | exact ext_1 | exact ext_2 | exact pick_t | exact pick_f | exact bin_add64 (by omega) | exact bin_sub64 (by omega) | exact un_not | exact cv_int Uq Uw | exact cv_int Uw Uq | exact bin_add | exact bin_sub | exact bin_mul | rfl)) rfl ?_ | refine Ev.prim (by (first | with_reducible exact lssL | with_reducible exact gtrL | with_reducible exact eqlL | with_reducible exact neqL | with_reducible exact leqL | with_reducible exact geqL | with_reducible exact lssN | with_reducible exact gtrN | with_reducible exact eqlN | with_reducible exact neqN | with_reducible exact leqN | with_reducible exact geqN | (with_reducible refine addL ?_; omega) | (with_reducible refine subL ?_; omega) | (with_reducible refine quoL ?_; omega) | (with_reducible refine mulL ?_; omega) | (with_reducible refine lmul ?_; omega) | (with_reducible refine addN ?_; omega) | (with_reducible refine subN ?_; omega) | (with_reducible refine quoN ?_; omega) | (with_reducible refine mulN ?_; omega) | (with_reducible refine addQ ?_; omega) | (with_reducible refine subQ ?_; omega) | (with_reducible refine mulQ ?_; omega) | (with_reducible refine shlQL ?_; omega) | (with_reducible refine shlQ ?_; omega) | (with_reducible refine remL ?_; decide) | (with_reducible refine shrL ?_; decide) | (with_reducible refine remN ?_; omega) | (with_reducible refine toU64 ?_ Uw Uq; omega) | (with_reducible exact toU32 Uq Uw) | exact bin_lss | exact bin_gtr | exact bin_eql | exact bin_neq | exact bin_leq | exact bin_geq | exact lenV_sl Us | exact ext_0 | exact ext_1 | exact ext_2 | exact pick_t | exact pick_f | exact bin_add64 (by omega) | exact bin_sub64 (by omega) | exact un_not | exact cv_int Uq Uw | exact cv_int Uw Uq | exact bin_add | exact bin_sub | exact bin_mul | rfl)) ?_)
  rw [show decide (100000 < n) = false from decide_eq_false (by omega)]
  repeat (first | refine Ev.some2 ?_ | refine Ev.some1 ?_ | refine Ev.gDo ?_ | refine Ev.gSkipT ?_ | refine Ev.gSkipF ?_ | refine Ev.gUndef ?_ | refine Ev.gCall ?_ | refine Ev.tt ?_ | refine Ev.ff ?_ | refine Ev.gPrim (by (first | with_reducible exact lssL | with_reducible exact gtrL | with_reducible exact eqlL | with_reducible exact neqL | with_reducible exact leqL | with_reducible exact geqL | with_reducible exact lssN | with_reducible exact gtrN | with_reducible exact eqlN | with_reducible exact neqN | with_reducible exact leqN | with_reducible exact geqN | (with_reducible refine addL ?_; omega) | (with_reducible refine subL ?_; omega) | (with_reducible refine quoL ?_; omega) | (with_reducible refine mulL ?_; omega) | (with_reducible refine lmul ?_; omega) | (with_reducible refine addN ?_; omega) | (with_reducible refine subN ?_; omega) | (with_reducible refine quoN ?_; omega) | (with_reducible refine mulN ?_; omega) | (with_reducible refine addQ ?_; omega) | (with_reducible refine subQ ?_; omega) | (with_reducible refine mulQ ?_; omega) | (with_reducible refine shlQL ?_; omega) | (with_reducible refine shlQ ?_; omega) | (with_reducible refine remL ?_; decide) | (with_reducible refine shrL ?_; decide) | (with_reducible refine remN ?_; omega) | (with_reducible refine toU64 ?_ Uw Uq; omega) | (with_reducible exact toU32 Uq Uw) | exact bin_lss | exact bin_gtr | exact bin_eql | exact bin_neq | exact bin_leq | exact bin_geq | exact lenV_sl Us | exact ext_0 | exact ext_1 | exact ext_2 | exact pick_t | exact pick_f | exact bin_add64 (by omega) | exact bin_sub64 (by omega) | exact un_not | exact cv_int Uq Uw | exact cv_int Uw Uq | exact bin_add | exact bin_sub | exact bin_mul | rfl)) rfl ?_ | refine Ev.prim (by (first | with_reducible exact lssL | with_reducible exact gtrL | with_reducible exact eqlL | with_reducible exact neqL | with_reducible exact leqL | with_reducible exact geqL | with_reducible exact lssN | with_reducible exact gtrN | with_reducible exact eqlN | with_reducible exact neqN | with_reducible exact leqN | with_reducible exact geqN | (with_reducible refine addL ?_; omega) | (with_reducible refine subL ?_; omega) | (with_reducible refine quoL ?_; omega) | (with_reducible refine mulL ?_; omega) | (with_reducible refine lmul ?_; omega) | (with_reducible refine addN ?_; omega) | (with_reducible refine subN ?_; omega) | (with_reducible refine quoN ?_; omega) | (with_reducible refine mulN ?_; omega) | (with_reducible refine addQ ?_; omega) | (with_reducible refine subQ ?_; omega) | (with_reducible refine mulQ ?_; omega) | (with_reducible refine shlQL ?_; omega) | (with_reducible refine shlQ ?_; omega) | (with_reducible refine remL ?_; decide) | (with_reducible refine shrL ?_; decide) | (with_reducible refine remN ?_; omega) | (with_reducible refine toU64 ?_ Uw Uq; omega) | (with_reducible exact toU32 Uq Uw) | exact bin_lss | exact bin_gtr | exact bin_eql | exact bin_neq | exact bin_leq | exact bin_geq | exact lenV_sl Us | exact ext_0 | exact ext_1 | exact ext_2 | exact pick_t | exact pick_f | exact bin_add64 (by omega) | exact bin_sub64 (by omega) | exact un_not | exact cv_int Uq Uw | exact cv_int Uw Uq | exact bin_add | exact bin_sub | exact bin_mul | rfl)) ?_)
  refine Ev.callU (trim_pure (by omega) ha hL) fun a ha => ?_
  generalize val xs = x at *
  refine Ev.prim (quoL ⟨by decide, by omega⟩) ?_
  refine Ev.prim (ha.lenN Ew) ?_
  refine Ev.prim (addN (by omega)) ?_
  refine Ev.prim (addL (by omega)) ?_
  refine Ev.mkS Ew (St.start hL) (by omega) (by omega) fun bo B1 H1 hm1 hS1 => ?_
  rw [map_replicate] at hS1
  refine Ev.prim (ha.lenN Ew) ?_
  refine Ev.bind (Ev.loop (shl_loop (ha.mono hm1) (n := n) (q := n / 32) (s := n % 32) (by omega) (by omega) (by omega) (by omega) rfl (limbs x).length 0 (List.replicate (n / 32 + (limbs x).length + 1) 0) H1 (by omega) (by simp) (small_replicate _) (by simp [val, val_replicate]) (by rw [getD_zeros]; exact Nat.pow_pos (by decide)) hS1)) ?_
  rintro _ ⟨zs, H2, rfl, hz, hsm, hv, hS2⟩
  refine Ev.eq (fun k _ => f54_A0_x0 k _ H2) ?_
  rw [val_limbs] at hv
  obtain ⟨B4, hm4, hr4, hS4⟩ := hS2.freezeN (n := n / 32 + (limbs x).length + 1) (cap := n / 32 + (limbs x).length + 1) hsm hz.symm (by omega)
  refine Ev.call hS4 (trim_spec (by omega) hr4) fun v B5 H5 hm5 hS5 h5 => ?_
  refine Ev.done hS5 ⟨v, rfl, ?_⟩
  rw [hv, show (4294967296 : Nat) = 2 ^ 32 by decide, ← Nat.pow_mul, Nat.mul_left_comm, ← Nat.pow_add, show 32 * (n / 32) + n % 32 = n by omega] at h5
  exact h5
end Go.AM.Z
