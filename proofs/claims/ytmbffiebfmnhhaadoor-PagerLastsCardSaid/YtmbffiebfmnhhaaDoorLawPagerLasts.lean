/-
  The law PagerLasts holds of every input: it returns true, and its arguments stay as they are. Conditions: none.
-/
import Derived.Test.YtmbffiebfmnhhaaDoorRows
import Derived.WalkKit
import Derived.ProofKit
import Derived.OpenShut
import Derived.ShutString
import Derived.ChangeOld
import Derived.Below
import Derived.SizedLaws
import Derived.Test.YtmbffiebfmnhhaaDoorCards
import Derived.Test.YtmbffiebfmnhhaaDoorTie
import Derived.Lay
import Derived.SevenTiedAt
import Derived.Test.YtmbffiebfmnhhaaDoorG4PagerLasts
set_option linter.unusedVariables false
set_option linter.unusedSimpArgs false
set_option linter.unnecessarySimpa false
set_option exponentiation.threshold 200000
set_option maxRecDepth 100000
set_option linter.unusedVariables false
set_option maxRecDepth 100000
namespace Go.Proofs.YtmbffiebfmnhhaaDoor.pagerLasts
open Go.ChangeShapes Go.WideShapes Go.ChangeAt Go.RowKit Go.AM
open Go.ChangeMaps (open_string shut_string)
theorem own : ownKnob Tryd.prog.godebug = none := by kernel_rfl
theorem laidOut : laidOutB Tryd.prog = true := by kernel_rfl
theorem mixed : Tryd.prog.follows .mixedOrders = true := by kernel_rfl
theorem lifted (os : Os) (started : os.Started) (H : Type) (enc : TypeId × Value → H) :
    ReturnsInHanded {} Tryd.checked os 5 .any (fun w args => (Rows.pagerLastsSpec.pre enc Tryd.prog Tryd.f5 [] false w args ∧ laidMetH Tryd.prog Rows.pagerLastsRow.laid w) ∧ sizedMet enc Tryd.prog Tryd.f5 (OpenSpec.ofChange Rows.pagerLastsSpec) false w args) (Rows.pagerLastsSpec.post enc Tryd.prog Tryd.f5 false true false false) := by
  refine returnsInHanded_of_change_and (C := Tryd.checked) (X := fun w _ => laidMetH Tryd.prog Rows.pagerLastsRow.laid w) (fun _ _ _ hh h => h.of_heap hh) own started (by kernel_rfl) Tryd.func5
    (ChangeSpec.witness_shaped (enc := enc) (C := Tryd.checked) (os := os) (X := fun w _ => laidMetH Tryd.prog Rows.pagerLastsRow.laid w) false (World.laidAll Tryd.prog os Rows.pagerLastsRow.laid) #[.slice none 0 0, .int .i64 0, .slice none 0 0, .int .i64 0, .int .i64 0] 8 (World.laidAll_os _ _ _)
      (World.shaped_of_ZipB (by kernel_rfl) (by kernel_rfl)) (by kernel_rfl) (by kernel_rfl) (by kernel_rfl)
      (by rw [MakeChecks.laidMetH_plain _ _ _ (by kernel_rfl)]; exact laidMet_laidAll _ (by kernel_rfl) (by kernel_rfl))) ?_
  intro W base args ds gs before hval0 hW hcnd hsz0 _ _
  have hsz : (DataW.weightsEach Tryd.prog (Tryd.f5.params.toList ++ Rows.pagerLastsSpec.plain.varTypes Tryd.prog) (ds ++ gs)).all (· ≤ reachBytes) = true := hsz0
  have hval : ∀ (j : Nat) t v, Tryd.f5.params[j]? = some t → args[j]? = some v → Value.okWide Tryd.prog W .any base t v := hval0
  have hW' := hW
  obtain ⟨p, q, hA0, hV, rfl, hfz, hnd⟩ := hW
  have hA : DataW.TrodAll enc Tryd.prog W 0 (fun _ => true) true Tryd.f5.params.toList args.toList ds p := hA0
  rw [Tryd.params5] at hA hval hsz
  have hA' := hA
  obtain ⟨v0, vs0, d0, ds0, p0, q0, hargs, rfl, rfl, h0, r0⟩ := trodAll_cons hA
  obtain ⟨v1, vs1, d1, ds1, p1, q1, rfl, rfl, rfl, h1, r1⟩ := trodAll_cons r0
  obtain ⟨v2, vs2, d2, ds2, p2, q2, rfl, rfl, rfl, h2, r2⟩ := trodAll_cons r1
  obtain ⟨v3, vs3, d3, ds3, p3, q3, rfl, rfl, rfl, h3, r3⟩ := trodAll_cons r2
  obtain ⟨v4, vs4, d4, ds4, p4, q4, rfl, rfl, rfl, h4, r4⟩ := trodAll_cons r3
  obtain ⟨rfl, rfl, rfl⟩ := trodAll_nil r4
  obtain rfl : args = #[v0, v1, v2, v3, v4] := by cases args; simp_all
  obtain ⟨rfl, rfl⟩ := trodVars_none hV
  have lt0 : ∀ x ∈ p0, x.block < W.heap.size := by obtain ⟨m, hm⟩ := h0; exact DataW.trod_lt m _ _ _ hm
  have lt1 : ∀ x ∈ p1, x.block < W.heap.size := by obtain ⟨m, hm⟩ := h1; exact DataW.trod_lt m _ _ _ hm
  have lt2 : ∀ x ∈ p2, x.block < W.heap.size := by obtain ⟨m, hm⟩ := h2; exact DataW.trod_lt m _ _ _ hm
  have lt3 : ∀ x ∈ p3, x.block < W.heap.size := by obtain ⟨m, hm⟩ := h3; exact DataW.trod_lt m _ _ _ hm
  have lt4 : ∀ x ∈ p4, x.block < W.heap.size := by obtain ⟨m, hm⟩ := h4; exact DataW.trod_lt m _ _ _ hm
  have OA := (opAs_cons (opV_cell Tryd.underlying41 ⟨(fun _ h => by cases h), (fun _ _ h => by cases h)⟩ (opA_slice (sz := 1) Tryd.underlying41 (by kernel_rfl) (opA_string Tryd.underlying9) (noSl_string Tryd.underlying9))) (opAs_cons (opV_cell Tryd.underlying3 ⟨(fun _ h => by cases h), (fun _ _ h => by cases h)⟩ (opA_int (k := .i64) Tryd.underlying3)) (opAs_cons (opV_cell Tryd.underlying33 ⟨(fun _ h => by cases h), (fun _ _ h => by cases h)⟩ (opA_slice (sz := 1) Tryd.underlying33 (by kernel_rfl) (opA_int (k := .i64) Tryd.underlying3) (noSl_int (k := .i64) Tryd.underlying3))) (opAs_cons (opV_cell Tryd.underlying3 ⟨(fun _ h => by cases h), (fun _ _ h => by cases h)⟩ (opA_int (k := .i64) Tryd.underlying3)) (opAs_cons (opV_cell Tryd.underlying3 ⟨(fun _ h => by cases h), (fun _ _ h => by cases h)⟩ (opA_int (k := .i64) Tryd.underlying3)) opAs_nil)))))
  obtain ⟨m, H1, us, x, R, _, _, hl, hK, hG⟩ := OA.op H enc W base (fun _ => true) true [v0, v1, v2, v3, v4] _ _ hA' (fun j t v h1 h2 => hval j t v (by simpa using h1) (by simpa using h2)) _ _ (Ro.empty W)
  obtain ⟨r, hr, k, hk⟩ := Go.AM.G.corePagerLasts H1 us x hK hG
  obtain ⟨rv, H2⟩ := r
  simp only at hr
  subst hr
  have hrun := hk k k (Nat.le_refl _) (Nat.le_refl _)
  have hgv : GivenOK Tryd.prog Go.AM.G.gv := Go.AM.G.gv_ok
  refine (walk_of (hy := by decide) (run_ok mixed (ranges_ok Go.AM.G.ranges) hgv k) R hl hrun rfl).mono fun e W' ⟨he, bel⟩ => ?_
  subst he
  exact ⟨_, rfl, _, _, _, [], _, [], hW', trodAll_mk1 (shut_bool Tryd.underlying4 _), (trodAll_cons_mk (Below.trod laidOut (by kernel_rfl) (of_decide_eq_true (by kernel_rfl)) h0 bel lt0) (trodAll_cons_mk (Below.trod laidOut (by kernel_rfl) (of_decide_eq_true (by kernel_rfl)) h1 bel lt1) (trodAll_cons_mk (Below.trod laidOut (by kernel_rfl) (of_decide_eq_true (by kernel_rfl)) h2 bel lt2) (trodAll_cons_mk (Below.trod laidOut (by kernel_rfl) (of_decide_eq_true (by kernel_rfl)) h3 bel lt3) (trodAll_cons_mk (Below.trod laidOut (by kernel_rfl) (of_decide_eq_true (by kernel_rfl)) h4 bel lt4) trodAll_mk0))))), rfl, bel.frame _, fun h => by cases h⟩
theorem over : Rows.pagerLastsRow.holds Tryd.pinned (OpenSpec.ofChange Rows.pagerLastsSpec) :=
  OpenClaim.holds_of_wide 5 Tryd.f5 rfl rfl rfl rfl rfl rfl rfl ⟨rfl, rfl, rfl, rfl, rfl⟩ rfl rfl rfl rfl rfl (by kernel_rfl) Tryd.func5 (by kernel_rfl)
    (of_decide_eq_true (by kernel_rfl)) (by unfold Func.isWrapper; first | (rw [if_pos (by decide +kernel)]; kernel_rfl) | (rw [if_neg (by decide +kernel)]; exact ⟨rfl, rfl⟩))
    (fun os started H enc _ => lifted os started H enc)
theorem plain (f : FuncId) (fn : Func) (hf : Tryd.pinned.checked.prog.funcNamed "astrolabe/astrolabelaw19.PagerLasts" = some f) (hfn : Tryd.pinned.checked.prog.funcs[f]? = some fn) :
    false = Tryd.pinned.checked.prog.looks [] ∧ ∀ (j : Nat) t, fn.params[j]? = some t → Tryd.pinned.checked.prog.wantsStandIn t = false := by
  obtain rfl : f = 5 := Option.some.inj ((show Tryd.prog.funcNamed "astrolabe/astrolabelaw19.PagerLasts" = some 5 by kernel_rfl).symm.trans hf) |>.symm
  obtain rfl : fn = Tryd.f5 := (Option.some.inj (Tryd.func5.symm.trans hfn)).symm
  refine ⟨by kernel_rfl, fun j t ht => ?_⟩
  rw [Tryd.params5] at ht
  have hm : t ∈ [41, 3, 33, 3, 3] := by simpa using Array.mem_of_getElem? ht
  have hall : ([41, 3, 33, 3, 3].all fun u => !Tryd.prog.wantsStandIn u) = true := by kernel_rfl
  exact (show Tryd.prog.wantsStandIn t = false by simpa using List.all_eq_true.1 hall t hm)
theorem card : Rows.PagerLastsCardSaid :=
  Claim7.holds_tied_plain_at .later [] _ _ _ _ over (fun _ h => by cases h) (by kernel_rfl) (fun _ h => by cases h) pagerLasts_row_tie rfl ⟨rfl, rfl⟩ (by kernel_rfl) rfl plain (by kernel_rfl)
#print axioms card
end Go.Proofs.YtmbffiebfmnhhaaDoor.pagerLasts
namespace Go.Proofs.YtmbffiebfmnhhaaDoor
/-- The card, under a short name, for the claim. -/
theorem pagerLasts_holds : Rows.PagerLastsCardSaid := pagerLasts.card
end Go.Proofs.YtmbffiebfmnhhaaDoor
