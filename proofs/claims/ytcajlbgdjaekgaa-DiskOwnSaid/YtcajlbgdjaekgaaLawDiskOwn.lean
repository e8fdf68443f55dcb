/-
  The law DiskOwn holds of every input: it returns true, and its arguments stay as they are. Conditions: none.
-/
import Derived.Test.YtcajlbgdjaekgaaRows
import Derived.WalkKit
import Derived.ProofKit
import Derived.OpenShut
import Derived.ShutString
import Derived.ChangeOld
import Derived.Below
import Derived.SizedLaws
import Derived.Test.YtcajlbgdjaekgaaG2DiskOwn
set_option linter.unusedVariables false
set_option linter.unusedSimpArgs false
set_option linter.unnecessarySimpa false
set_option exponentiation.threshold 200000
set_option maxRecDepth 100000
set_option linter.unusedVariables false
set_option maxRecDepth 100000
namespace Go.Proofs.Ytcajlbgdjaekgaa.diskOwn
open Go.ChangeShapes Go.WideShapes Go.ChangeAt Go.RowKit Go.AM
open Go.ChangeMaps (open_string shut_string)
theorem own : ownKnob Try.prog.godebug = none := by kernel_rfl
theorem laidOut : laidOutB Try.prog = true := by kernel_rfl
theorem mixed : Try.prog.follows .mixedOrders = true := by kernel_rfl
theorem lifted (os : Os) (started : os.Started) (H : Type) (enc : TypeId × Value → H) :
    ReturnsInHanded {} Try.checked os 3 .any (Rows.diskOwnSpec.pre6 enc Try.prog Try.f3 Rows.diskOwnRow.domain false) (Rows.diskOwnSpec.post enc Try.prog Try.f3 false true false false) := by
  refine returnsInHanded_of_change_sized (C := Try.checked) own started (by kernel_rfl) Try.func3
    (ChangeSpec.witness6 (enc := enc) (C := Try.checked) false ⟨#[], #[.slice none 0 0, .int .i64 0, .slice none 0 0], []⟩ 8 (by kernel_rfl) (by kernel_rfl) (by kernel_rfl) (by kernel_rfl)) ?_
  intro W base args ds gs before hval0 hW hcnd hsz0 _
  have hsz : (DataW.weightsEach Try.prog (Try.f3.params.toList ++ Rows.diskOwnSpec.plain.varTypes Try.prog) (ds ++ gs)).all (· ≤ reachBytes) = true := hsz0
  have hval : ∀ (j : Nat) t v, Try.f3.params[j]? = some t → args[j]? = some v → Value.okWide Try.prog W .any base t v := hval0
  have hW' := hW
  obtain ⟨p, q, hA0, hV, rfl, hfz, hnd⟩ := hW
  have hA : DataW.TrodAll enc Try.prog W 0 (fun _ => true) true Try.f3.params.toList args.toList ds p := hA0
  rw [Try.params3] at hA hval hsz
  have hA' := hA
  obtain ⟨v0, vs0, d0, ds0, p0, q0, hargs, rfl, rfl, h0, r0⟩ := trodAll_cons hA
  obtain ⟨v1, vs1, d1, ds1, p1, q1, rfl, rfl, rfl, h1, r1⟩ := trodAll_cons r0
  obtain ⟨v2, vs2, d2, ds2, p2, q2, rfl, rfl, rfl, h2, r2⟩ := trodAll_cons r1
  obtain ⟨rfl, rfl, rfl⟩ := trodAll_nil r2
  obtain rfl : args = #[v0, v1, v2] := by cases args; simp_all
  obtain ⟨rfl, rfl⟩ := trodVars_none hV
  have lt0 : ∀ x ∈ p0, x.block < W.heap.size := by obtain ⟨m, hm⟩ := h0; exact DataW.trod_lt m _ _ _ hm
  have lt1 : ∀ x ∈ p1, x.block < W.heap.size := by obtain ⟨m, hm⟩ := h1; exact DataW.trod_lt m _ _ _ hm
  have lt2 : ∀ x ∈ p2, x.block < W.heap.size := by obtain ⟨m, hm⟩ := h2; exact DataW.trod_lt m _ _ _ hm
  have OA := (opAs_cons (opV_cell Try.underlying22 ⟨(fun _ h => by cases h), (fun _ _ h => by cases h)⟩ (opA_slice (sz := 1) Try.underlying22 (by kernel_rfl) (opA_string Try.underlying9) (noSl_string Try.underlying9))) (opAs_cons (opV_cell Try.underlying3 ⟨(fun _ h => by cases h), (fun _ _ h => by cases h)⟩ (opA_int (k := .i64) Try.underlying3)) (opAs_cons (opV_cell Try.underlying23 ⟨(fun _ h => by cases h), (fun _ _ h => by cases h)⟩ (opA_slice (sz := 1) Try.underlying23 (by kernel_rfl) (opA_int (k := .i64) Try.underlying3) (noSl_int (k := .i64) Try.underlying3))) opAs_nil)))
  obtain ⟨m, H1, us, x, R, _, _, hl, hK, hG⟩ := OA.op H enc W base (fun _ => true) true [v0, v1, v2] _ _ hA' (fun j t v h1 h2 => hval j t v (by simpa using h1) (by simpa using h2)) _ _ (Ro.empty W)
  obtain ⟨r, hr, k, hk⟩ := Go.AM.K.coreDiskOwn H1 us x hK hG
  obtain ⟨rv, H2⟩ := r
  simp only at hr
  subst hr
  have hrun := hk k k (Nat.le_refl _) (Nat.le_refl _)
  have hgv : GivenOK Try.prog Go.AM.K.gv := Go.AM.K.gv_ok
  refine (walk_of (hy := by decide) (run_ok mixed (ranges_ok Go.AM.K.ranges) hgv k) R hl hrun rfl).mono fun e W' ⟨he, bel⟩ => ?_
  subst he
  exact ⟨_, rfl, _, _, _, [], _, [], hW', trodAll_mk1 (shut_bool Try.underlying4 _), (trodAll_cons_mk (Below.trod laidOut (by kernel_rfl) (of_decide_eq_true (by kernel_rfl)) h0 bel lt0) (trodAll_cons_mk (Below.trod laidOut (by kernel_rfl) (of_decide_eq_true (by kernel_rfl)) h1 bel lt1) (trodAll_cons_mk (Below.trod laidOut (by kernel_rfl) (of_decide_eq_true (by kernel_rfl)) h2 bel lt2) trodAll_mk0))), rfl, bel.frame _, fun h => by cases h⟩
theorem over : Rows.diskOwnRow.holds Try.pinned (OpenSpec.ofChange Rows.diskOwnSpec) :=
  OpenClaim.holds_of_wide 3 Try.f3 rfl rfl rfl rfl rfl rfl rfl ⟨rfl, rfl, rfl, rfl, rfl⟩ rfl rfl rfl rfl rfl (by kernel_rfl) Try.func3 (by kernel_rfl)
    (of_decide_eq_true (by kernel_rfl)) (by unfold Func.isWrapper; first | (rw [if_pos (by decide +kernel)]; kernel_rfl) | (rw [if_neg (by decide +kernel)]; exact ⟨rfl, rfl⟩))
    (fun os started H enc _ => lifted os started H enc)
theorem proved : Rows.DiskOwnSaid := over
#print axioms proved
end Go.Proofs.Ytcajlbgdjaekgaa.diskOwn
namespace Go.Proofs.Ytcajlbgdjaekgaa
/-- The row, under a short name, for the claim. -/
theorem diskOwn_holds : Rows.DiskOwnSaid := diskOwn.proved
end Go.Proofs.Ytcajlbgdjaekgaa
