/-
  The law CatSaves holds of every input: it returns true, and its arguments stay as they are. Conditions: none.
-/
import Derived.Test.YtmoonbjbllkdoaaGreatDoorRows
import Derived.WalkKit
import Derived.ProofKit
import Derived.OpenShut
import Derived.ShutString
import Derived.ChangeOld
import Derived.Below
import Derived.SizedLaws
import Derived.Test.YtmoonbjbllkdoaaGreatDoorCards
import Derived.Test.YtmoonbjbllkdoaaGreatDoorTie
import Derived.Lay
import Derived.SevenTiedAt
import Derived.Test.YtmoonbjbllkdoaaGreatDoorG5CatSaves
set_option linter.unusedVariables false
set_option linter.unusedSimpArgs false
set_option linter.unnecessarySimpa false
set_option exponentiation.threshold 200000
set_option maxRecDepth 100000
namespace Go.Proofs.YtmoonbjbllkdoaaGreatDoor.catSaves
open Go.ChangeShapes Go.WideShapes Go.ChangeAt Go.RowKit Go.AM
open Go.ChangeMaps (open_string shut_string)
theorem own : ownKnob Tryz.prog.godebug = none := by kernel_rfl
theorem laidOut : laidOutB Tryz.prog = true := by kernel_rfl
theorem mixed : Tryz.prog.follows .mixedOrders = true := by kernel_rfl
theorem nosl71 : NoSl Tryz.prog 71 := by
  refine noSl_struct Tryz.underlying71 (fun f hf => ?_) (fun i hi => ?_)
  · simp only [List.mem_cons, List.not_mem_nil, or_false] at hf
    rcases hf with rfl | rfl
    · exact (noSl_int (k := .i64) Tryz.underlying3)
    · exact (noSl_int (k := .i64) Tryz.underlying3)
  · have hc : Program.cellsOf Tryz.prog 71 = 2 := by kernel_rfl
    rw [hc] at hi
    rcases i with _ | _ | i
    · exact ⟨_, .head _, of_decide_eq_true (by kernel_rfl), of_decide_eq_true (by kernel_rfl)⟩
    · exact ⟨_, .tail _ (.head _), of_decide_eq_true (by kernel_rfl), of_decide_eq_true (by kernel_rfl)⟩
    · omega
theorem lifted (os : Os) (started : os.Started) (H : Type) (enc : TypeId × Value → H) :
    ReturnsInHanded {} Tryz.checked os 3 .any (fun w args => (Rows.catSavesSpec.pre enc Tryz.prog Tryz.f3 [] false w args ∧ laidMetH Tryz.prog Rows.catSavesRow.laid w) ∧ sizedMet enc Tryz.prog Tryz.f3 (OpenSpec.ofChange Rows.catSavesSpec) false w args) (Rows.catSavesSpec.post enc Tryz.prog Tryz.f3 false true false false) := by
  refine returnsInHanded_of_change_and (C := Tryz.checked) (X := fun w _ => laidMetH Tryz.prog Rows.catSavesRow.laid w) (fun _ _ _ hh h => h.of_heap hh) own started (by kernel_rfl) Tryz.func3
    (ChangeSpec.witness_shaped (enc := enc) (C := Tryz.checked) (os := os) (X := fun w _ => laidMetH Tryz.prog Rows.catSavesRow.laid w) false (World.laidAll Tryz.prog os Rows.catSavesRow.laid) #[.int .i64 0, .agg #[.int .i64 0, .slice none 0 0], .int .i64 0, .int .i64 0, .string ByteArray.empty] 8 (World.laidAll_os _ _ _)
      (World.shaped_of_ZipB (by kernel_rfl) (by kernel_rfl)) (by kernel_rfl) (by kernel_rfl) (by kernel_rfl)
      (by rw [MakeChecks.laidMetH_plain _ _ _ (by kernel_rfl)]; exact laidMet_laidAll _ (by kernel_rfl) (by kernel_rfl))) ?_
  intro W base args ds gs before hval0 hW hcnd hsz0 _ _
  have hsz : (DataW.weightsEach Tryz.prog (Tryz.f3.params.toList ++ Rows.catSavesSpec.plain.varTypes Tryz.prog) (ds ++ gs)).all (· ≤ reachBytes) = true := hsz0
  have hval : ∀ (j : Nat) t v, Tryz.f3.params[j]? = some t → args[j]? = some v → Value.okWide Tryz.prog W .any base t v := hval0
  have hW' := hW
  obtain ⟨p, q, hA0, hV, rfl, hfz, hnd⟩ := hW
  have hA : DataW.TrodAll enc Tryz.prog W 0 (fun _ => true) true Tryz.f3.params.toList args.toList ds p := hA0
  rw [Tryz.params3] at hA hval hsz
  have hA' := hA
  obtain ⟨v0, vs0, d0, ds0, p0, q0, hargs, rfl, rfl, h0, r0⟩ := trodAll_cons hA
  obtain ⟨v1, vs1, d1, ds1, p1, q1, rfl, rfl, rfl, h1, r1⟩ := trodAll_cons r0
  obtain ⟨v2, vs2, d2, ds2, p2, q2, rfl, rfl, rfl, h2, r2⟩ := trodAll_cons r1
  obtain ⟨v3, vs3, d3, ds3, p3, q3, rfl, rfl, rfl, h3, r3⟩ := trodAll_cons r2
  obtain ⟨v4, vs4, d4, ds4, p4, q4, rfl, rfl, rfl, h4, r4⟩ := trodAll_cons r3
  obtain ⟨rfl, rfl, rfl⟩ := trodAll_nil r4
  obtain rfl : args = #[v0, v1, v2, v3, v4] := by cases args; simp_all
  obtain ⟨rfl, rfl⟩ := trodVars_none hV
  have lt0 : ∀ x ∈ p0, x.block < W.heap.size := by obtain ⟨m, hm⟩ := h0; exact DataW.trod_lt m _ _ _ hm
  have lt1 : ∀ x ∈ p1, x.block < W.heap.size := by obtain ⟨m, hm⟩ := h1; exact DataW.trod_lt m _ _ _ hm
  have lt2 : ∀ x ∈ p2, x.block < W.heap.size := by obtain ⟨m, hm⟩ := h2; exact DataW.trod_lt m _ _ _ hm
  have lt3 : ∀ x ∈ p3, x.block < W.heap.size := by obtain ⟨m, hm⟩ := h3; exact DataW.trod_lt m _ _ _ hm
  have lt4 : ∀ x ∈ p4, x.block < W.heap.size := by obtain ⟨m, hm⟩ := h4; exact DataW.trod_lt m _ _ _ hm
  obtain ⟨s4, rfl, rfl, rfl, y4⟩ := open_string Tryz.underlying9 (hval 4 9 v4 rfl rfl) h4
  have w4 : s4.size ≤ reachBytes := by
    have z := sized_string hsz (j := 4) (t := 9) rfl rfl
    have e_ : s4.data.toList.length = s4.size := by rw [Array.length_toList]; rfl
    omega
  have OA := (opAs_cons (opV_cell Tryz.underlying3 ⟨(fun _ h => by cases h), (fun _ _ h => by cases h)⟩ (opA_int (k := .i64) Tryz.underlying3)) (opAs_cons (opV_struct Tryz.underlying24 (opA_struct (tot := 2) Tryz.underlying24 (by kernel_rfl) (opFs_cons (sz := 1) rfl (by kernel_rfl) (opA_int (k := .i64) Tryz.underlying3) (opFs_cons (sz := 1) rfl (by kernel_rfl) (opA_slice (sz := 2) Tryz.underlying22 (by kernel_rfl) (opA_struct (tot := 2) Tryz.underlying71 (by kernel_rfl) (opFs_cons (sz := 1) rfl (by kernel_rfl) (opA_int (k := .i64) Tryz.underlying3) (opFs_cons (sz := 1) rfl (by kernel_rfl) (opA_int (k := .i64) Tryz.underlying3) opFs_nil))) nosl71) opFs_nil)))) (opAs_cons (opV_cell Tryz.underlying3 ⟨(fun _ h => by cases h), (fun _ _ h => by cases h)⟩ (opA_int (k := .i64) Tryz.underlying3)) (opAs_cons (opV_cell Tryz.underlying3 ⟨(fun _ h => by cases h), (fun _ _ h => by cases h)⟩ (opA_int (k := .i64) Tryz.underlying3)) (opAs_cons (opV_cell Tryz.underlying9 ⟨(fun _ h => by cases h), (fun _ _ h => by cases h)⟩ (opA_string Tryz.underlying9)) opAs_nil)))))
  obtain ⟨m, H1, us, x, R, _, _, hl, hK, hG⟩ := OA.op H enc W base (fun _ => true) true [v0, v1, v2, v3, .string s4] _ _ hA' (fun j t v h1 h2 => hval j t v (by simpa using h1) (by simpa using h2)) _ _ (Ro.empty W)
  have hw4 : ∀ s, us[4]? = some (.string s) → s.size ≤ 140737488351232 := fun s hs => by
    have e := VRel.flat_inv (x := .string s) rfl (hl.2 4 (.string s) (.string s4) hs rfl)
    injection e with e
    rw [← e]; exact w4
  obtain ⟨r, hr, k, hk⟩ := Go.AM.E.coreCatSaves H1 us x hK hG hw4
  obtain ⟨rv, H2⟩ := r
  simp only at hr
  subst hr
  have hrun := hk k k (Nat.le_refl _) (Nat.le_refl _)
  have hgv : GivenOK Tryz.prog Go.AM.E.gv := Go.AM.E.gv_ok
  refine (walk_of (hy := by decide) (run_ok mixed (ranges_ok Go.AM.E.ranges) hgv k) R hl hrun rfl).mono fun e W' ⟨he, bel⟩ => ?_
  subst he
  exact ⟨_, rfl, _, _, _, [], _, [], hW', trodAll_mk1 (shut_bool Tryz.underlying4 _), (trodAll_cons_mk (Below.trod laidOut (by kernel_rfl) (of_decide_eq_true (by kernel_rfl)) h0 bel lt0) (trodAll_cons_mk (Below.trod laidOut (by kernel_rfl) (of_decide_eq_true (by kernel_rfl)) h1 bel lt1) (trodAll_cons_mk (Below.trod laidOut (by kernel_rfl) (of_decide_eq_true (by kernel_rfl)) h2 bel lt2) (trodAll_cons_mk (Below.trod laidOut (by kernel_rfl) (of_decide_eq_true (by kernel_rfl)) h3 bel lt3) (trodAll_cons_mk (shut_string Tryz.underlying9 y4) trodAll_mk0))))), rfl, bel.frame _, fun h => by cases h⟩
theorem over : Rows.catSavesRow.holds Tryz.pinned (OpenSpec.ofChange Rows.catSavesSpec) :=
  OpenClaim.holds_of_wide 3 Tryz.f3 rfl rfl rfl rfl rfl rfl rfl ⟨rfl, rfl, rfl, rfl, rfl⟩ rfl rfl rfl rfl rfl (by kernel_rfl) Tryz.func3 (by kernel_rfl)
    (of_decide_eq_true (by kernel_rfl)) (by unfold Func.isWrapper; first | (rw [if_pos (by decide +kernel)]; kernel_rfl) | (rw [if_neg (by decide +kernel)]; exact ⟨rfl, rfl⟩))
    (fun os started H enc _ => lifted os started H enc)
theorem plain (f : FuncId) (fn : Func) (hf : Tryz.pinned.checked.prog.funcNamed "astrolabe/astrolabelaw23.CatSaves" = some f) (hfn : Tryz.pinned.checked.prog.funcs[f]? = some fn) :
    false = Tryz.pinned.checked.prog.looks [] ∧ ∀ (j : Nat) t, fn.params[j]? = some t → Tryz.pinned.checked.prog.wantsStandIn t = false := by
  obtain rfl : f = 3 := Option.some.inj ((show Tryz.prog.funcNamed "astrolabe/astrolabelaw23.CatSaves" = some 3 by kernel_rfl).symm.trans hf) |>.symm
  obtain rfl : fn = Tryz.f3 := (Option.some.inj (Tryz.func3.symm.trans hfn)).symm
  refine ⟨by kernel_rfl, fun j t ht => ?_⟩
  rw [Tryz.params3] at ht
  have hm : t ∈ [3, 24, 3, 3, 9] := by simpa using Array.mem_of_getElem? ht
  have hall : ([3, 24, 3, 3, 9].all fun u => !Tryz.prog.wantsStandIn u) = true := by kernel_rfl
  exact (show Tryz.prog.wantsStandIn t = false by simpa using List.all_eq_true.1 hall t hm)
theorem card : Rows.CatSavesCardSaid :=
  Claim7.holds_tied_plain_at .later [] _ _ _ _ over (fun _ h => by cases h) (by kernel_rfl) (fun _ h => by cases h) catSaves_row_tie rfl ⟨rfl, rfl⟩ (by kernel_rfl) rfl plain (by kernel_rfl)
#print axioms card
end Go.Proofs.YtmoonbjbllkdoaaGreatDoor.catSaves
namespace Go.Proofs.YtmoonbjbllkdoaaGreatDoor
theorem catSaves_holds : Rows.CatSavesCardSaid := catSaves.card
end Go.Proofs.YtmoonbjbllkdoaaGreatDoor
