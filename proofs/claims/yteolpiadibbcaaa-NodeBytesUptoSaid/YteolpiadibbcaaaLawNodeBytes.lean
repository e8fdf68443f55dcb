/-
  The law NodeBytes holds of every input: it returns true, and its arguments stay as they are. Conditions: none.
-/
import Derived.Test.YteolpiadibbcaaaRows
import Derived.WalkKit
import Derived.ProofKit
import Derived.OpenShut
import Derived.ShutString
import Derived.ChangeOld
import Derived.Below
import Derived.SizedLaws
import Derived.JoinedCond
import Derived.Deep.CondSized
import Derived.Test.YteolpiadibbcaaaG2NodeBytes
set_option linter.unusedVariables false
set_option linter.unusedSimpArgs false
set_option linter.unnecessarySimpa false
set_option exponentiation.threshold 200000
set_option maxRecDepth 100000
set_option linter.unusedVariables false
set_option maxRecDepth 100000
namespace Go.Proofs.Yteolpiadibbcaaa.nodeBytes
open Go.ChangeShapes Go.WideShapes Go.ChangeAt Go.RowKit Go.AM
open Go.ChangeMaps (open_string shut_string)
theorem own : ownKnob Try.prog.godebug = none := by kernel_rfl
theorem laidOut : laidOutB Try.prog = true := by kernel_rfl
theorem mixed : Try.prog.follows .mixedOrders = true := by kernel_rfl
theorem one_le {H : Type} (d : DataW H) : 1 ≤ Rows.uptoBulk d := by
  cases d with
  | lit l => cases l <;> simp [Rows.uptoBulk]
  | nil => simp [Rows.uptoBulk]
  | ptr d => simp [Rows.uptoBulk]
  | slice elems spare => simp [Rows.uptoBulk]
  | agg parts => simp [Rows.uptoBulk]
  | iface t d => simp [Rows.uptoBulk]
  | map entries => simp [Rows.uptoBulk]
  | held h => simp [Rows.uptoBulk]
theorem part_le {H : Type} {d : DataW H} {l : List (DataW H)} (h : d ∈ l) : Rows.uptoBulk d ≤ Rows.uptoBulkAll l := by
  induction l with
  | nil => cases h
  | cons x r ih =>
    simp only [Rows.uptoBulkAll]
    cases List.mem_cons.1 h with
    | inl e => subst e; omega
    | inr e => have := ih e; omega
theorem length_le {H : Type} (l : List (DataW H)) : l.length ≤ Rows.uptoBulkAll l := by
  induction l with
  | nil => simp [Rows.uptoBulkAll]
  | cons x r ih => have := one_le x; simp only [Rows.uptoBulkAll, List.length_cons]; omega
theorem bulkOK : BulkOK (fun H d => Rows.uptoBulk (H := H) d) :=
  ⟨fun H l => by simp [Rows.uptoBulk], fun H es sp => by have := length_le es; simp only [Rows.uptoBulk]; omega, fun H es sp e h => by have := part_le h; simp only [Rows.uptoBulk]; omega, fun H ps e h => by have := part_le h; simp only [Rows.uptoBulk]; omega⟩
theorem lifted (os : Os) (started : os.Started) (H : Type) (enc : TypeId × Value → H) (F : Stop.Interp) :
    ReturnsInHanded {} Try.checked os 3 .any ((Rows.OpenSpec.upto Rows.nodeBytesSpec).pre6 enc Try.prog Try.f3 Rows.nodeBytesUptoRow.domain false) (((Rows.OpenSpec.upto Rows.nodeBytesSpec).at F).post enc Try.prog Try.f3 false true false false) := by
  refine returnsInHanded_of_cond_sized (C := Try.checked) (s := (Rows.OpenSpec.upto Rows.nodeBytesSpec)) (k := Rows.uptoSmall) rfl own started (by kernel_rfl) Try.func3
    (OpenSpec.witness (enc := enc) (C := Try.checked) (s := (Rows.OpenSpec.upto Rows.nodeBytesSpec)) (k := Rows.uptoSmall) rfl false ⟨#[], #[.agg #[.bool false, .slice none 0 0, .slice none 0 0], .string ByteArray.empty], []⟩ 8 (by kernel_rfl) (by kernel_rfl) (by kernel_rfl)
      (x := ([.agg [.lit (.bool false), .nil, .nil], .lit (.string [])], [], [])) (by kernel_rfl) rfl (by kernel_rfl)) ?_
  intro W base args ds gs before hval0 hW0 _ hk0 _ _
  have hW : DataW.Whole enc Try.prog Try.f3.params.toList Rows.nodeBytesSpec.vars false W args.toList ds gs before := hW0
  have hbk : ∀ d ∈ ds, Rows.uptoBulk d ≤ 1048576 := by
    have h : Rows.uptoBulkAll (ds ++ gs) ≤ 1048576 := of_decide_eq_true hk0
    exact fun d hd => Nat.le_trans (part_le (List.mem_append_left _ hd)) h
  have hval : ∀ (j : Nat) t v, Try.f3.params[j]? = some t → args[j]? = some v → Value.okWide Try.prog W .any base t v := hval0
  have hW' := hW
  obtain ⟨p, q, hA0, hV, rfl, hfz, hnd⟩ := hW
  have hA : DataW.TrodAll enc Try.prog W 0 (fun _ => true) true Try.f3.params.toList args.toList ds p := hA0
  rw [Try.params3] at hA hval
  have hA' := hA
  obtain ⟨v0, vs0, d0, ds0, p0, q0, hargs, rfl, rfl, h0, r0⟩ := trodAll_cons hA
  obtain ⟨v1, vs1, d1, ds1, p1, q1, rfl, rfl, rfl, h1, r1⟩ := trodAll_cons r0
  obtain ⟨rfl, rfl, rfl⟩ := trodAll_nil r1
  obtain rfl : args = #[v0, v1] := by cases args; simp_all
  obtain ⟨rfl, rfl⟩ := trodVars_none hV
  have lt0 : ∀ x ∈ p0, x.block < W.heap.size := by obtain ⟨m, hm⟩ := h0; exact DataW.trod_lt m _ _ _ hm
  have lt1 : ∀ x ∈ p1, x.block < W.heap.size := by obtain ⟨m, hm⟩ := h1; exact DataW.trod_lt m _ _ _ hm
  obtain ⟨s1, rfl, rfl, rfl, y1⟩ := open_string Try.underlying9 (hval 1 9 v1 rfl rfl) h1
  have OA : OpAsU (fun H d => Rows.uptoBulk (H := H) d) 1048576 Try.prog _ _ _ := (opAsU_cons (opVU_struct Try.underlying25 (opAU_struct (tot := 3) bulkOK Try.underlying25 (by kernel_rfl) (opFsU_cons (sz := 1) rfl (by kernel_rfl) (opAU_bool Try.underlying4) (opFsU_cons (sz := 1) rfl (by kernel_rfl) (opAU_slice (sz := 1) bulkOK Try.underlying22 (by kernel_rfl) (opAU_string bulkOK Try.underlying9) (noSl_string Try.underlying9)) (opFsU_cons (sz := 1) rfl (by kernel_rfl) (opAU_slice (sz := 1) bulkOK Try.underlying23 (by kernel_rfl) (opAU_int (k := .i64) Try.underlying3) (noSl_int (k := .i64) Try.underlying3)) opFsU_nil))))) (opAsU_cons (opVU_cell Try.underlying9 ⟨(fun _ h => by cases h), (fun _ _ h => by cases h)⟩ (opAU_string bulkOK Try.underlying9)) opAsU_nil))
  obtain ⟨m, H1, us, x, R, _, _, hl, hK, hG⟩ := OA.op H enc W base (fun _ => true) true [v0, .string s1] _ _ hA' hbk (fun j t v h1 h2 => hval j t v (by simpa using h1) (by simpa using h2)) _ _ (Ro.empty W)
  obtain ⟨r, hr, k, hk⟩ := Go.AM.N.coreNodeBytes H1 us x hK hG
  obtain ⟨rv, H2⟩ := r
  simp only at hr
  subst hr
  have hrun := hk k k (Nat.le_refl _) (Nat.le_refl _)
  have hgv : GivenOK Try.prog Go.AM.N.gv := Go.AM.N.gv_ok
  refine (walk_of (run_ok mixed hgv k) R hl hrun rfl).mono fun e W' ⟨he, bel⟩ => ?_
  subst he
  exact ⟨_, rfl, _, _, _, [], _, [], hW', trodAll_mk1 (shut_bool Try.underlying4 _), (trodAll_cons_mk (Below.trod laidOut (by kernel_rfl) (of_decide_eq_true (by kernel_rfl)) h0 bel lt0) (trodAll_cons_mk (shut_string Try.underlying9 y1) trodAll_mk0)), rfl, bel.frame _, fun h => by cases h⟩
theorem over : Rows.NodeBytesUptoSaid :=
  OpenClaim.holds_of_cond 3 Try.f3 rfl rfl rfl rfl rfl rfl rfl ⟨rfl, rfl, rfl, rfl, rfl⟩ rfl rfl rfl rfl rfl (by kernel_rfl) Try.func3 (by kernel_rfl)
    (of_decide_eq_true (by kernel_rfl)) (by unfold Func.isWrapper; first | (rw [if_pos (by decide +kernel)]; kernel_rfl) | (rw [if_neg (by decide +kernel)]; exact ⟨rfl, rfl⟩))
    (fun os started H enc _ F => lifted os started H enc F)
theorem proved : Rows.NodeBytesUptoSaid := over
#print axioms proved
end Go.Proofs.Yteolpiadibbcaaa.nodeBytes
namespace Go.Proofs.Yteolpiadibbcaaa
/-- The row, under a short name, for the claim. -/
theorem nodeBytes_holds : Rows.NodeBytesUptoSaid := nodeBytes.proved
end Go.Proofs.Yteolpiadibbcaaa
