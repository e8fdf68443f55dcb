/-
  The law DiskLasts holds of every input: it returns true, and its arguments stay as they are. Conditions: none.
-/
import Derived.Test.YtcajlbgdjaekgaaRows
import Derived.WalkKit
import Derived.ProofKit
import Derived.OpenShut
import Derived.ShutString
import Derived.ChangeOld
import Derived.Below
import Derived.SizedLaws
import Derived.Test.YtcajlbgdjaekgaaG2DiskLasts
set_option linter.unusedVariables false
set_option linter.unusedSimpArgs false
set_option linter.unnecessarySimpa false
set_option exponentiation.threshold 200000
set_option maxRecDepth 100000
set_option linter.unusedVariables false
set_option maxRecDepth 100000
namespace Go.Proofs.Ytcajlbgdjaekgaa.diskLasts
open Go.ChangeShapes Go.WideShapes Go.ChangeAt Go.RowKit Go.AM
open Go.ChangeMaps (open_string shut_string)
theorem own : ownKnob Try.prog.godebug = none := by kernel_rfl
theorem laidOut : laidOutB Try.prog = true := by kernel_rfl
theorem mixed : Try.prog.follows .mixedOrders = true := by kernel_rfl
theorem lifted (os : Os) (started : os.Started) (H : Type) (enc : TypeId × Value → H) :
    ReturnsInHanded {} Try.checked os 4 .any (Rows.diskLastsSpec.pre6 enc Try.prog Try.f4 Rows.diskLastsRow.domain false) (Rows.diskLastsSpec.post enc Try.prog Try.f4 false true false false) := by
  refine returnsInHanded_of_change_sized (C := Try.checked) own started (by kernel_rfl) Try.func4
    (ChangeSpec.witness6 (enc := enc) (C := Try.checked) false ⟨#[], #[.string ByteArray.empty, .string ByteArray.empty, .slice none 0 0, .int .i64 0, .int .i64 0], []⟩ 8 (by kernel_rfl) (by kernel_rfl) (by kernel_rfl) (by kernel_rfl)) ?_
  intro W base args ds gs before hval0 hW hcnd hsz0 _
  have hsz : (DataW.weightsEach Try.prog (Try.f4.params.toList ++ Rows.diskLastsSpec.plain.varTypes Try.prog) (ds ++ gs)).all (· ≤ reachBytes) = true := hsz0
  have hval : ∀ (j : Nat) t v, Try.f4.params[j]? = some t → args[j]? = some v → Value.okWide Try.prog W .any base t v := hval0
  have hW' := hW
  obtain ⟨p, q, hA0, hV, rfl, hfz, hnd⟩ := hW
  have hA : DataW.TrodAll enc Try.prog W 0 (fun _ => true) true Try.f4.params.toList args.toList ds p := hA0
  rw [Try.params4] at hA hval hsz
  have hA' := hA
  obtain ⟨v0, vs0, d0, ds0, p0, q0, hargs, rfl, rfl, h0, r0⟩ := trodAll_cons hA
  obtain ⟨v1, vs1, d1, ds1, p1, q1, rfl, rfl, rfl, h1, r1⟩ := trodAll_cons r0
  obtain ⟨v2, vs2, d2, ds2, p2, q2, rfl, rfl, rfl, h2, r2⟩ := trodAll_cons r1
  obtain ⟨v3, vs3, d3, ds3, p3, q3, rfl, rfl, rfl, h3, r3⟩ := trodAll_cons r2
  obtain ⟨v4, vs4, d4, ds4, p4, q4, rfl, rfl, rfl, h4, r4⟩ := trodAll_cons r3
  obtain ⟨rfl, rfl, rfl⟩ := trodAll_nil r4
  obtain rfl : args = #[v0, v1, v2, v3, v4] := by cases args; simp_all
  obtain ⟨rfl, rfl⟩ := trodVars_none hV
  have lt0 : ∀ x ∈ p0, x.block < W.heap.size := by obtain ⟨m, hm⟩ := h0; exact DataW.trod_lt m _ _ _ hm
  have lt1 : ∀ x ∈ p1, x.block < W.heap.size := by obtain ⟨m, hm⟩ := h1; exact DataW.trod_lt m _ _ _ hm
  have lt2 : ∀ x ∈ p2, x.block < W.heap.size := by obtain ⟨m, hm⟩ := h2; exact DataW.trod_lt m _ _ _ hm
  have lt3 : ∀ x ∈ p3, x.block < W.heap.size := by obtain ⟨m, hm⟩ := h3; exact DataW.trod_lt m _ _ _ hm
  have lt4 : ∀ x ∈ p4, x.block < W.heap.size := by obtain ⟨m, hm⟩ := h4; exact DataW.trod_lt m _ _ _ hm
  obtain ⟨s0, rfl, rfl, rfl, y0⟩ := open_string Try.underlying9 (hval 0 9 v0 rfl rfl) h0
  have w0 : s0.size ≤ reachBytes := by
    have z := sized_string hsz (j := 0) (t := 9) rfl rfl
    have e_ : s0.data.toList.length = s0.size := by rw [Array.length_toList]; rfl
    omega
  obtain ⟨s1, rfl, rfl, rfl, y1⟩ := open_string Try.underlying9 (hval 1 9 v1 rfl rfl) h1
  have w1 : s1.size ≤ reachBytes := by
    have z := sized_string hsz (j := 1) (t := 9) rfl rfl
    have e_ : s1.data.toList.length = s1.size := by rw [Array.length_toList]; rfl
    omega
  have OA := (opAs_cons (opV_cell Try.underlying9 ⟨(fun _ h => by cases h), (fun _ _ h => by cases h)⟩ (opA_string Try.underlying9)) (opAs_cons (opV_cell Try.underlying9 ⟨(fun _ h => by cases h), (fun _ _ h => by cases h)⟩ (opA_string Try.underlying9)) (opAs_cons (opV_cell Try.underlying23 ⟨(fun _ h => by cases h), (fun _ _ h => by cases h)⟩ (opA_slice (sz := 1) Try.underlying23 (by kernel_rfl) (opA_int (k := .i64) Try.underlying3) (noSl_int (k := .i64) Try.underlying3))) (opAs_cons (opV_cell Try.underlying3 ⟨(fun _ h => by cases h), (fun _ _ h => by cases h)⟩ (opA_int (k := .i64) Try.underlying3)) (opAs_cons (opV_cell Try.underlying3 ⟨(fun _ h => by cases h), (fun _ _ h => by cases h)⟩ (opA_int (k := .i64) Try.underlying3)) opAs_nil)))))
  obtain ⟨m, H1, us, x, R, _, _, hl, hK, hG⟩ := OA.op H enc W base (fun _ => true) true [.string s0, .string s1, v2, v3, v4] _ _ hA' (fun j t v h1 h2 => hval j t v (by simpa using h1) (by simpa using h2)) _ _ (Ro.empty W)
  have hw0 : ∀ s, us[0]? = some (.string s) → s.size ≤ 140737488351232 := fun s hs => by
    have e := VRel.flat_inv (x := .string s) rfl (hl.2 0 (.string s) (.string s0) hs rfl)
    injection e with e
    rw [← e]; exact w0
  have hw1 : ∀ s, us[1]? = some (.string s) → s.size ≤ 140737488351232 := fun s hs => by
    have e := VRel.flat_inv (x := .string s) rfl (hl.2 1 (.string s) (.string s1) hs rfl)
    injection e with e
    rw [← e]; exact w1
  obtain ⟨r, hr, k, hk⟩ := Go.AM.K.coreDiskLasts H1 us x hK hG hw0 hw1
  obtain ⟨rv, H2⟩ := r
  simp only at hr
  subst hr
  have hrun := hk k k (Nat.le_refl _) (Nat.le_refl _)
  have hgv : GivenOK Try.prog Go.AM.K.gv := Go.AM.K.gv_ok
  refine (walk_of (hy := by decide) (run_ok mixed (ranges_ok Go.AM.K.ranges) hgv k) R hl hrun rfl).mono fun e W' ⟨he, bel⟩ => ?_
  subst he
  exact ⟨_, rfl, _, _, _, [], _, [], hW', trodAll_mk1 (shut_bool Try.underlying4 _), (trodAll_cons_mk (shut_string Try.underlying9 y0) (trodAll_cons_mk (shut_string Try.underlying9 y1) (trodAll_cons_mk (Below.trod laidOut (by kernel_rfl) (of_decide_eq_true (by kernel_rfl)) h2 bel lt2) (trodAll_cons_mk (Below.trod laidOut (by kernel_rfl) (of_decide_eq_true (by kernel_rfl)) h3 bel lt3) (trodAll_cons_mk (Below.trod laidOut (by kernel_rfl) (of_decide_eq_true (by kernel_rfl)) h4 bel lt4) trodAll_mk0))))), rfl, bel.frame _, fun h => by cases h⟩
theorem over : Rows.diskLastsRow.holds Try.pinned (OpenSpec.ofChange Rows.diskLastsSpec) :=
  OpenClaim.holds_of_wide 4 Try.f4 rfl rfl rfl rfl rfl rfl rfl ⟨rfl, rfl, rfl, rfl, rfl⟩ rfl rfl rfl rfl rfl (by kernel_rfl) Try.func4 (by kernel_rfl)
    (of_decide_eq_true (by kernel_rfl)) (by unfold Func.isWrapper; first | (rw [if_pos (by decide +kernel)]; kernel_rfl) | (rw [if_neg (by decide +kernel)]; exact ⟨rfl, rfl⟩))
    (fun os started H enc _ => lifted os started H enc)
theorem proved : Rows.DiskLastsSaid := over
#print axioms proved
end Go.Proofs.Ytcajlbgdjaekgaa.diskLasts
namespace Go.Proofs.Ytcajlbgdjaekgaa
/-- The row, under a short name, for the claim. -/
theorem diskLasts_holds : Rows.DiskLastsSaid := diskLasts.proved
end Go.Proofs.Ytcajlbgdjaekgaa
