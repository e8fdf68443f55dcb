/-
  The law NodeKeys holds of every input: it returns true, and its arguments stay as they are. Conditions: none.
-/
import Derived.Test.YteolpiadibbcaaaRows
import Derived.WalkKit
import Derived.ProofKit
import Derived.OpenShut
import Derived.ShutString
import Derived.ChangeOld
import Derived.Below
import Derived.SizedLaws
import Derived.Test.YteolpiadibbcaaaG2NodeKeys
set_option linter.unusedVariables false
set_option linter.unusedSimpArgs false
set_option linter.unnecessarySimpa false
set_option exponentiation.threshold 200000
set_option maxRecDepth 100000
set_option linter.unusedVariables false
set_option maxRecDepth 100000
namespace Go.Proofs.Yteolpiadibbcaaa.nodeKeys
open Go.ChangeShapes Go.WideShapes Go.ChangeAt Go.RowKit Go.AM
open Go.ChangeMaps (open_string shut_string)
theorem own : ownKnob Try.prog.godebug = none := by kernel_rfl
theorem laidOut : laidOutB Try.prog = true := by kernel_rfl
theorem mixed : Try.prog.follows .mixedOrders = true := by kernel_rfl
theorem lifted (os : Os) (started : os.Started) (H : Type) (enc : TypeId × Value → H) :
    ReturnsInHanded {} Try.checked os 7 .any (Rows.nodeKeysSpec.pre6 enc Try.prog Try.f7 Rows.nodeKeysRow.domain false) (Rows.nodeKeysSpec.post enc Try.prog Try.f7 false true false false) := by
  refine returnsInHanded_of_change_sized (C := Try.checked) own started (by kernel_rfl) Try.func7
    (ChangeSpec.witness6 (enc := enc) (C := Try.checked) false ⟨#[], #[.slice none 0 0, .string ByteArray.empty, .int .i64 0], []⟩ 8 (by kernel_rfl) (by kernel_rfl) (by kernel_rfl) (by kernel_rfl)) ?_
  intro W base args ds gs before hval0 hW hcnd hsz0 _
  have hsz : (DataW.weightsEach Try.prog (Try.f7.params.toList ++ Rows.nodeKeysSpec.plain.varTypes Try.prog) (ds ++ gs)).all (· ≤ reachBytes) = true := hsz0
  have hval : ∀ (j : Nat) t v, Try.f7.params[j]? = some t → args[j]? = some v → Value.okWide Try.prog W .any base t v := hval0
  have hW' := hW
  obtain ⟨p, q, hA0, hV, rfl, hfz, hnd⟩ := hW
  have hA : DataW.TrodAll enc Try.prog W 0 (fun _ => true) true Try.f7.params.toList args.toList ds p := hA0
  rw [Try.params7] at hA hval hsz
  have hA' := hA
  obtain ⟨v0, vs0, d0, ds0, p0, q0, hargs, rfl, rfl, h0, r0⟩ := trodAll_cons hA
  obtain ⟨v1, vs1, d1, ds1, p1, q1, rfl, rfl, rfl, h1, r1⟩ := trodAll_cons r0
  obtain ⟨v2, vs2, d2, ds2, p2, q2, rfl, rfl, rfl, h2, r2⟩ := trodAll_cons r1
  obtain ⟨rfl, rfl, rfl⟩ := trodAll_nil r2
  obtain rfl : args = #[v0, v1, v2] := by cases args; simp_all
  obtain ⟨rfl, rfl⟩ := trodVars_none hV
  have lt0 : ∀ x ∈ p0, x.block < W.heap.size := by obtain ⟨m, hm⟩ := h0; exact DataW.trod_lt m _ _ _ hm
  have lt1 : ∀ x ∈ p1, x.block < W.heap.size := by obtain ⟨m, hm⟩ := h1; exact DataW.trod_lt m _ _ _ hm
  have lt2 : ∀ x ∈ p2, x.block < W.heap.size := by obtain ⟨m, hm⟩ := h2; exact DataW.trod_lt m _ _ _ hm
  obtain ⟨s1, rfl, rfl, rfl, y1⟩ := open_string Try.underlying9 (hval 1 9 v1 rfl rfl) h1
  have w1 : s1.size ≤ reachBytes := by
    have z := sized_string hsz (j := 1) (t := 9) rfl rfl
    have e_ : s1.data.toList.length = s1.size := by rw [Array.length_toList]; rfl
    omega
  have OA := (opAs_cons (opV_cell Try.underlying22 ⟨(fun _ h => by cases h), (fun _ _ h => by cases h)⟩ (opA_slice (sz := 1) Try.underlying22 (by kernel_rfl) (opA_string Try.underlying9) (noSl_string Try.underlying9))) (opAs_cons (opV_cell Try.underlying9 ⟨(fun _ h => by cases h), (fun _ _ h => by cases h)⟩ (opA_string Try.underlying9)) (opAs_cons (opV_cell Try.underlying3 ⟨(fun _ h => by cases h), (fun _ _ h => by cases h)⟩ (opA_int (k := .i64) Try.underlying3)) opAs_nil)))
  obtain ⟨m, H1, us, x, R, _, _, hl, hK, hG⟩ := OA.op H enc W base (fun _ => true) true [v0, .string s1, v2] _ _ hA' (fun j t v h1 h2 => hval j t v (by simpa using h1) (by simpa using h2)) _ _ (Ro.empty W)
  have hw1 : ∀ s, us[1]? = some (.string s) → s.size ≤ 140737488351232 := fun s hs => by
    have e := VRel.flat_inv (x := .string s) rfl (hl.2 1 (.string s) (.string s1) hs rfl)
    injection e with e
    rw [← e]; exact w1
  obtain ⟨r, hr, k, hk⟩ := Go.AM.N.coreNodeKeys H1 us x hK hG hw1
  obtain ⟨rv, H2⟩ := r
  simp only at hr
  subst hr
  have hrun := hk k k (Nat.le_refl _) (Nat.le_refl _)
  have hgv : GivenOK Try.prog Go.AM.N.gv := Go.AM.N.gv_ok
  refine (walk_of (hy := by decide) (run_ok mixed (ranges_ok Go.AM.N.ranges) hgv k) R hl hrun rfl).mono fun e W' ⟨he, bel⟩ => ?_
  subst he
  exact ⟨_, rfl, _, _, _, [], _, [], hW', trodAll_mk1 (shut_bool Try.underlying4 _), (trodAll_cons_mk (Below.trod laidOut (by kernel_rfl) (of_decide_eq_true (by kernel_rfl)) h0 bel lt0) (trodAll_cons_mk (shut_string Try.underlying9 y1) (trodAll_cons_mk (Below.trod laidOut (by kernel_rfl) (of_decide_eq_true (by kernel_rfl)) h2 bel lt2) trodAll_mk0))), rfl, bel.frame _, fun h => by cases h⟩
theorem over : Rows.nodeKeysRow.holds Try.pinned (OpenSpec.ofChange Rows.nodeKeysSpec) :=
  OpenClaim.holds_of_wide 7 Try.f7 rfl rfl rfl rfl rfl rfl rfl ⟨rfl, rfl, rfl, rfl, rfl⟩ rfl rfl rfl rfl rfl (by kernel_rfl) Try.func7 (by kernel_rfl)
    (of_decide_eq_true (by kernel_rfl)) (by unfold Func.isWrapper; first | (rw [if_pos (by decide +kernel)]; kernel_rfl) | (rw [if_neg (by decide +kernel)]; exact ⟨rfl, rfl⟩))
    (fun os started H enc _ => lifted os started H enc)
theorem proved : Rows.NodeKeysSaid := over
#print axioms proved
end Go.Proofs.Yteolpiadibbcaaa.nodeKeys
namespace Go.Proofs.Yteolpiadibbcaaa
/-- The row, under a short name, for the claim. -/
theorem nodeKeys_holds : Rows.NodeKeysSaid := nodeKeys.proved
end Go.Proofs.Yteolpiadibbcaaa
