/-
  The law CatBack holds of every input: it returns true, and its arguments stay as they are. Conditions: none.
-/
import Derived.Test.YtmoonbjbllkdoaaDoorRows
import Derived.WalkKit
import Derived.ProofKit
import Derived.OpenShut
import Derived.ShutString
import Derived.ChangeOld
import Derived.Below
import Derived.SizedLaws
import Derived.Test.YtmoonbjbllkdoaaDoorCards
import Derived.Test.YtmoonbjbllkdoaaDoorTie
import Derived.Lay
import Derived.SevenTiedAt
import Derived.JoinedCond
import Derived.Deep.CondSized
import Derived.Test.YtmoonbjbllkdoaaDoorG4CatBack
set_option linter.unusedVariables false
set_option linter.unusedSimpArgs false
set_option linter.unnecessarySimpa false
set_option exponentiation.threshold 200000
set_option maxRecDepth 100000
set_option linter.unusedVariables false
set_option maxRecDepth 100000
namespace Go.Proofs.YtmoonbjbllkdoaaDoor.catBack
open Go.ChangeShapes Go.WideShapes Go.ChangeAt Go.RowKit Go.AM
open Go.ChangeMaps (open_string shut_string)
theorem own : ownKnob Tryd.prog.godebug = none := by kernel_rfl
theorem laidOut : laidOutB Tryd.prog = true := by kernel_rfl
theorem mixed : Tryd.prog.follows .mixedOrders = true := by kernel_rfl
theorem nosl54 : NoSl Tryd.prog 54 := by
  refine noSl_struct Tryd.underlying54 (fun f hf => ?_) (fun i hi => ?_)
  · simp only [List.mem_cons, List.not_mem_nil, or_false] at hf
    rcases hf with rfl | rfl
    · exact (noSl_int (k := .i64) Tryd.underlying3)
    · exact (noSl_int (k := .i64) Tryd.underlying3)
  · have hc : Program.cellsOf Tryd.prog 54 = 2 := by kernel_rfl
    rw [hc] at hi
    rcases i with _ | _ | i
    · exact ⟨_, .head _, of_decide_eq_true (by kernel_rfl), of_decide_eq_true (by kernel_rfl)⟩
    · exact ⟨_, .tail _ (.head _), of_decide_eq_true (by kernel_rfl), of_decide_eq_true (by kernel_rfl)⟩
    · omega
theorem one_le {H : Type} (d : DataW H) : 1 ≤ Rows.uptoBulk d := by
  cases d with
  | lit l => cases l <;> simp [Rows.uptoBulk]
  | nil => simp [Rows.uptoBulk]
  | ptr d => simp [Rows.uptoBulk]
  | slice elems spare => simp [Rows.uptoBulk]
  | agg parts => simp [Rows.uptoBulk]
  | iface t d => simp [Rows.uptoBulk]
  | map entries => simp [Rows.uptoBulk]
  | held h => simp [Rows.uptoBulk]
theorem part_le {H : Type} {d : DataW H} {l : List (DataW H)} (h : d ∈ l) : Rows.uptoBulk d ≤ Rows.uptoBulkAll l := by
  induction l with
  | nil => cases h
  | cons x r ih =>
    simp only [Rows.uptoBulkAll]
    cases List.mem_cons.1 h with
    | inl e => subst e; omega
    | inr e => have := ih e; omega
theorem length_le {H : Type} (l : List (DataW H)) : l.length ≤ Rows.uptoBulkAll l := by
  induction l with
  | nil => simp [Rows.uptoBulkAll]
  | cons x r ih => have := one_le x; simp only [Rows.uptoBulkAll, List.length_cons]; omega
theorem bulkOK : BulkOK (fun H d => Rows.uptoBulk (H := H) d) :=
  ⟨fun H l => by simp [Rows.uptoBulk], fun H es sp => by have := length_le es; simp only [Rows.uptoBulk]; omega, fun H es sp e h => by have := part_le h; simp only [Rows.uptoBulk]; omega, fun H ps e h => by have := part_le h; simp only [Rows.uptoBulk]; omega⟩
theorem lifted (os : Os) (started : os.Started) (H : Type) (enc : TypeId × Value → H) (F : Stop.Interp) :
    ReturnsInHanded {} Tryd.checked os 3 .any (fun w args => (OpenSpec.pre enc Tryd.prog Tryd.f3 (Rows.OpenSpec.upto Rows.catBackSpec) [] false w args ∧ laidMetH Tryd.prog Rows.catBackUptoRow.laid w) ∧ sizedMet enc Tryd.prog Tryd.f3 (Rows.OpenSpec.upto Rows.catBackSpec) false w args) (((Rows.OpenSpec.upto Rows.catBackSpec).at F).post enc Tryd.prog Tryd.f3 false true false false) := by
  refine Go.AM.returnsInHanded_of_cond_and (C := Tryd.checked) (s := (Rows.OpenSpec.upto Rows.catBackSpec)) (k := Rows.uptoSmall) rfl (X := fun w _ => laidMetH Tryd.prog Rows.catBackUptoRow.laid w) (fun _ _ _ hh h => h.of_heap hh) own started (by kernel_rfl) Tryd.func3
    (Go.AM.witness_shaped_cond (enc := enc) (C := Tryd.checked) (os := os) (s := (Rows.OpenSpec.upto Rows.catBackSpec)) (k := Rows.uptoSmall) rfl (X := fun w _ => laidMetH Tryd.prog Rows.catBackUptoRow.laid w) false (World.laidAll Tryd.prog os Rows.catBackUptoRow.laid) #[.agg #[.int .i64 0, .slice none 0 0], .string ByteArray.empty] 8 (World.laidAll_os _ _ _)
      (World.shaped_of_ZipB (by kernel_rfl) (by kernel_rfl)) (by kernel_rfl) (x := ([.agg [.lit (.int .i64 0), .nil], .lit (.string [])], [], [])) (by kernel_rfl) rfl (by kernel_rfl) (by kernel_rfl)
      (by rw [MakeChecks.laidMetH_plain _ _ _ (by kernel_rfl)]; exact laidMet_laidAll _ (by kernel_rfl) (by kernel_rfl))) ?_
  intro W base args ds gs before hval0 hW0 _ hk0 _ _ _
  have hW : DataW.Whole enc Tryd.prog Tryd.f3.params.toList Rows.catBackSpec.vars false W args.toList ds gs before := hW0
  have hbk : ∀ d ∈ ds, Rows.uptoBulk d ≤ 1048576 := by
    have h : Rows.uptoBulkAll (ds ++ gs) ≤ 1048576 := of_decide_eq_true hk0
    exact fun d hd => Nat.le_trans (part_le (List.mem_append_left _ hd)) h
  have hval : ∀ (j : Nat) t v, Tryd.f3.params[j]? = some t → args[j]? = some v → Value.okWide Tryd.prog W .any base t v := hval0
  have hW' := hW
  obtain ⟨p, q, hA0, hV, rfl, hfz, hnd⟩ := hW
  have hA : DataW.TrodAll enc Tryd.prog W 0 (fun _ => true) true Tryd.f3.params.toList args.toList ds p := hA0
  rw [Tryd.params3] at hA hval
  have hA' := hA
  obtain ⟨v0, vs0, d0, ds0, p0, q0, hargs, rfl, rfl, h0, r0⟩ := trodAll_cons hA
  obtain ⟨v1, vs1, d1, ds1, p1, q1, rfl, rfl, rfl, h1, r1⟩ := trodAll_cons r0
  obtain ⟨rfl, rfl, rfl⟩ := trodAll_nil r1
  obtain rfl : args = #[v0, v1] := by cases args; simp_all
  obtain ⟨rfl, rfl⟩ := trodVars_none hV
  have lt0 : ∀ x ∈ p0, x.block < W.heap.size := by obtain ⟨m, hm⟩ := h0; exact DataW.trod_lt m _ _ _ hm
  have lt1 : ∀ x ∈ p1, x.block < W.heap.size := by obtain ⟨m, hm⟩ := h1; exact DataW.trod_lt m _ _ _ hm
  obtain ⟨s1, rfl, rfl, rfl, y1⟩ := open_string Tryd.underlying9 (hval 1 9 v1 rfl rfl) h1
  have OA : OpAsU (fun H d => Rows.uptoBulk (H := H) d) 1048576 Tryd.prog _ _ _ := (opAsU_cons (opVU_struct Tryd.underlying24 (opAU_struct (tot := 2) bulkOK Tryd.underlying24 (by kernel_rfl) (opFsU_cons (sz := 1) rfl (by kernel_rfl) (opAU_int (k := .i64) Tryd.underlying3) (opFsU_cons (sz := 1) rfl (by kernel_rfl) (opAU_slice (sz := 2) bulkOK Tryd.underlying22 (by kernel_rfl) (opAU_struct (tot := 2) bulkOK Tryd.underlying54 (by kernel_rfl) (opFsU_cons (sz := 1) rfl (by kernel_rfl) (opAU_int (k := .i64) Tryd.underlying3) (opFsU_cons (sz := 1) rfl (by kernel_rfl) (opAU_int (k := .i64) Tryd.underlying3) opFsU_nil))) nosl54) opFsU_nil)))) (opAsU_cons (opVU_cell Tryd.underlying9 ⟨(fun _ h => by cases h), (fun _ _ h => by cases h)⟩ (opAU_string bulkOK Tryd.underlying9)) opAsU_nil))
  obtain ⟨m, H1, us, x, R, _, _, hl, hK, hG⟩ := OA.op H enc W base (fun _ => true) true [v0, .string s1] _ _ hA' hbk (fun j t v h1 h2 => hval j t v (by simpa using h1) (by simpa using h2)) _ _ (Ro.empty W)
  obtain ⟨r, hr, k, hk⟩ := Go.AM.C.coreCatBack H1 us x hK hG
  obtain ⟨rv, H2⟩ := r
  simp only at hr
  subst hr
  have hrun := hk k k (Nat.le_refl _) (Nat.le_refl _)
  have hgv : GivenOK Tryd.prog Go.AM.C.gv := Go.AM.C.gv_ok
  refine (walk_of (hy := by decide) (run_ok mixed (ranges_ok Go.AM.C.ranges) hgv k) R hl hrun rfl).mono fun e W' ⟨he, bel⟩ => ?_
  subst he
  exact ⟨_, rfl, _, _, _, [], _, [], hW', trodAll_mk1 (shut_bool Tryd.underlying4 _), (trodAll_cons_mk (Below.trod laidOut (by kernel_rfl) (of_decide_eq_true (by kernel_rfl)) h0 bel lt0) (trodAll_cons_mk (shut_string Tryd.underlying9 y1) trodAll_mk0)), rfl, bel.frame _, fun h => by cases h⟩
theorem over : Rows.CatBackUptoSaid :=
  OpenClaim.holds_of_cond 3 Tryd.f3 rfl rfl rfl rfl rfl rfl rfl ⟨rfl, rfl, rfl, rfl, rfl⟩ rfl rfl rfl rfl rfl (by kernel_rfl) Tryd.func3 (by kernel_rfl)
    (of_decide_eq_true (by kernel_rfl)) (by unfold Func.isWrapper; first | (rw [if_pos (by decide +kernel)]; kernel_rfl) | (rw [if_neg (by decide +kernel)]; exact ⟨rfl, rfl⟩))
    (fun os started H enc _ F => lifted os started H enc F)
theorem plain (f : FuncId) (fn : Func) (hf : Tryd.pinned.checked.prog.funcNamed "astrolabe/astrolabelaw23.CatBack" = some f) (hfn : Tryd.pinned.checked.prog.funcs[f]? = some fn) :
    false = Tryd.pinned.checked.prog.looks [] ∧ ∀ (j : Nat) t, fn.params[j]? = some t → Tryd.pinned.checked.prog.wantsStandIn t = false := by
  obtain rfl : f = 3 := Option.some.inj ((show Tryd.prog.funcNamed "astrolabe/astrolabelaw23.CatBack" = some 3 by kernel_rfl).symm.trans hf) |>.symm
  obtain rfl : fn = Tryd.f3 := (Option.some.inj (Tryd.func3.symm.trans hfn)).symm
  refine ⟨by kernel_rfl, fun j t ht => ?_⟩
  rw [Tryd.params3] at ht
  have hm : t ∈ [24, 9] := by simpa using Array.mem_of_getElem? ht
  have hall : ([24, 9].all fun u => !Tryd.prog.wantsStandIn u) = true := by kernel_rfl
  exact (show Tryd.prog.wantsStandIn t = false by simpa using List.all_eq_true.1 hall t hm)
theorem card : Rows.CatBackUptoCardSaid :=
  Claim7.holds_tied_plain_at .later [] _ _ _ _ over (fun _ h => by cases h) (by kernel_rfl) (fun _ h => by cases h) catBackUpto_row_tie rfl ⟨rfl, rfl⟩ (by kernel_rfl) rfl plain (by kernel_rfl)
#print axioms card
end Go.Proofs.YtmoonbjbllkdoaaDoor.catBack
namespace Go.Proofs.YtmoonbjbllkdoaaDoor
/-- The card, under a short name, for the claim. -/
theorem catBack_holds : Rows.CatBackUptoCardSaid := catBack.card
end Go.Proofs.YtmoonbjbllkdoaaDoor
