/-
  Facts of the abstract evaluator and of the functions that the law reaches, part 2. Conditions: none.
-/
import Derived.ProofKit
import Derived.Deep.Slices
import Derived.DataElems
import Derived.DataReads
import Derived.ChangeArms
import Derived.ChangeSame
import Derived.Shelf.Strings.BuilderX
import Derived.Shelf.RegionOpenPlain
import Derived.Lib.Strings
import Derived.Lib.Walk
import Derived.Lib.Builder
import Derived.Lib.MakeNoZero
import Derived.WalkKit
import Derived.Laws.Externs
import Derived.Laws.IdiomCopy
import Derived.Test.YteolpiadibbcaaaG1NodeBytes
set_option linter.unusedVariables false
set_option linter.unusedSimpArgs false
set_option linter.unnecessarySimpa false
set_option exponentiation.threshold 200000
set_option maxRecDepth 100000
set_option linter.unusedVariables false
set_option linter.unusedSimpArgs false
namespace Go.AM
open Go.RowKit

section
variable {P : Program} {call : CallF} {ops : Array Oper}
def dstAt (ops : Array Oper) (i : Nat) : Option Tmp := (ops[i]?).bind (·.dst)
def sv (ops : Array Oper) (vl : Nat → Value) (T0 : List Value) (D : Nat → Bool) : Nat → Nat → Value
  | 0, s => T0.getD s undef
  | i + 1, s => if D i = true ∧ dstAt ops i = some s then vl i else sv ops vl T0 D i s
def svL (ops : Array Oper) (vl : Nat → Value) (T0 : List Value) (D : Nat → Bool) : List Value := (List.range T0.length).map (sv ops vl T0 D ops.size)
variable {vl : Nat → Value} {T0 : List Value}
theorem svL_length (D : Nat → Bool) : (svL ops vl T0 D).length = T0.length := by simp [svL]
theorem svL_getD (D : Nat → Bool) {s : Nat} (hs : s < T0.length) : (svL ops vl T0 D).getD s undef = sv ops vl T0 D ops.size s := by
  unfold svL
  rw [List.getD_eq_getElem?_getD, List.getElem?_map, List.getElem?_range hs]
  rfl
theorem sv_congr {D D' : Nat → Bool} {s : Nat} : ∀ i, (∀ j, j < i → dstAt ops j = some s → D j = D' j) → sv ops vl T0 D i s = sv ops vl T0 D' i s
  | 0, _ => rfl
  | i + 1, h => by
    have ih := sv_congr (D := D) (D' := D') i fun j hj => h j (by omega)
    unfold sv
    rw [ih]
    by_cases hd : dstAt ops i = some s
    · rw [h i (by omega) hd]
    · rw [if_neg (fun hh => hd hh.2), if_neg (fun hh => hd hh.2)]
theorem sv_cut {D : Nat → Bool} {s i : Nat} : ∀ d, (∀ j, i ≤ j → j < i + d → dstAt ops j = some s → D j = false) → sv ops vl T0 D (i + d) s = sv ops vl T0 D i s
  | 0, _ => rfl
  | d + 1, h => by
    have ih := sv_cut (D := D) (s := s) (i := i) d fun j h1 h2 => h j h1 (by omega)
    have e : sv ops vl T0 D (i + (d + 1)) s = if D (i + d) = true ∧ dstAt ops (i + d) = some s then vl (i + d) else sv ops vl T0 D (i + d) s := rfl
    rw [e, if_neg]
    · exact ih
    · intro hh
      have := h (i + d) (by omega) (by omega) hh.2
      rw [hh.1] at this
      cases this
theorem tT_sv {tT : Nat → List Value} (h0 : tT 0 = T0) (hstep : ∀ j o, ops[j]? = some o → tT (j + 1) = putT (tT j) o.dst (vl j)) : ∀ j, j ≤ ops.size → (tT j).length = T0.length ∧ ∀ s, s < T0.length → (tT j).getD s undef = sv ops vl T0 (fun _ => true) j s
  | 0, _ => by rw [h0]; exact ⟨rfl, fun s _ => rfl⟩
  | j + 1, hj => by
    obtain ⟨h1, h2⟩ := tT_sv h0 hstep j (by omega)
    have ho : ops[j]? = some ops[j] := Array.getElem?_eq_getElem (by omega)
    rw [hstep j _ ho]
    have hd : dstAt ops j = ops[j].dst := by simp [dstAt, ho]
    cases hdst : ops[j].dst with
    | none =>
      refine ⟨h1, fun s hs => ?_⟩
      unfold sv
      rw [if_neg (by rw [hd, hdst]; simp)]
      exact h2 s hs
    | some d =>
      refine ⟨by simp [putT, h1], fun s hs => ?_⟩
      unfold sv
      rw [hd, hdst]
      by_cases he : d = s
      · subst he
        rw [if_pos ⟨rfl, rfl⟩]
        simp only [putT]
        rw [List.getD_eq_getElem?_getD, List.getElem?_set_self (by omega)]
        rfl
      · rw [if_neg (by simp [he])]
        simp only [putT]
        rw [List.getD_eq_getElem?_getD, List.getElem?_set_ne he, ← List.getD_eq_getElem?_getD]
        exact h2 s hs
/-- What the region's own test says of two operations. -/
theorem regOK_pair (hreg : regOK ops = true) {i j : Nat} (hij : i < j) {oi oj : Oper} (hi : ops[i]? = some oi) (hj : ops[j]? = some oj) : ordB (befL [] ops.toList) i j = true ∨ ((isEff oi.op = true → isEff oj.op = true → False) ∧ oi.apart ops oj = true ∧ oj.apart ops oi = true) := by
  unfold regOK at hreg
  rw [Bool.and_eq_true] at hreg
  have h1 := List.all_eq_true.1 hreg.2 j (List.mem_range.2 (Array.getElem?_eq_some_iff.1 hj).1)
  have h2 := List.all_eq_true.1 h1 i (List.mem_range.2 hij)
  rw [Bool.or_eq_true] at h2
  rcases h2 with h2 | h2
  · exact .inl h2
  · right
    simp only [hi, hj, Option.any_some, Bool.and_eq_true, Bool.not_eq_true', Bool.and_eq_false_iff] at h2
    refine ⟨fun h3 h4 => ?_, h2.1.2, h2.2⟩
    rcases h2.1.1 with h5 | h5
    · rw [h3] at h5; cases h5
    · rw [h4] at h5; cases h5
theorem regOK_edge (hreg : regOK ops = true) {j : Nat} {o : Oper} (ho : ops[j]? = some o) {e : Edge} (he : e ∈ o.after) (hb : Region.binds .any e = true) : e.on < j := by
  unfold regOK at hreg
  rw [Bool.and_eq_true] at hreg
  have h1 := List.all_eq_true.1 hreg.1 j (List.mem_range.2 (Array.getElem?_eq_some_iff.1 ho).1)
  simp only [ho, Option.any_some] at h1
  have h2 := Array.all_eq_true'.1 h1 e he
  simpa [hb] using h2
/-- The operation is ready: what it comes behind is done, it is not. -/
structure Ready (ops : Array Oper) (D : Nat → Bool) (j : Nat) (o : Oper) : Prop where
  op : ops[j]? = some o
  down : Down ops (fun i => D i = true)
  edges : ∀ e ∈ o.after, Region.binds .any e = true → D e.on = true
  not : D j = false
variable {D : Nat → Bool} {j : Nat} {o : Oper}
theorem Ready.before (h : Ready ops D j o) {i : Nat} (ho : ordB (befL [] ops.toList) i j = true) : D i = true := ordB_down h.down j o h.op h.edges i ho
theorem Ready.behind (h : Ready ops D j o) {i : Nat} {oi : Oper} (hi : ops[i]? = some oi) (ho : ordB (befL [] ops.toList) j i = true) : D i = false := by
  cases hD : D i with
  | false => rfl
  | true =>
    have := ordB_down h.down i oi hi (fun e he hb => h.down i oi hi hD e he hb) j ho
    have h2 := h.not
    rw [this] at h2
    cases h2
theorem Ready.slots (hreg : regOK ops = true) (h : Ready ops D j o) {s : Tmp} (hs : s ∈ o.looksAt ops) : sv ops vl T0 D ops.size s = sv ops vl T0 (fun _ => true) j s := by
  have hj : j < ops.size := (Array.getElem?_eq_some_iff.1 h.op).1
  have e1 : sv ops vl T0 D ops.size s = sv ops vl T0 D j s := by
    have := sv_cut (ops := ops) (vl := vl) (T0 := T0) (D := D) (s := s) (i := j) (ops.size - j) fun i h1 h2 hd => ?_
    · rwa [show j + (ops.size - j) = ops.size by omega] at this
    · by_cases hij : i = j
      · subst hij; exact h.not
      · have hi : ops[i]? = some ops[i] := Array.getElem?_eq_getElem (by omega)
        rcases regOK_pair hreg (show j < i by omega) h.op hi with h3 | ⟨_, h3, _⟩
        · exact h.behind hi h3
        · obtain ⟨_, _, h5⟩ := Oper.apart_spec h3
          exact absurd hs (h5 s (by simpa [dstAt, hi] using hd))
  rw [e1]
  refine sv_congr j fun i hij hd => ?_
  have hi : ops[i]? = some ops[i] := Array.getElem?_eq_getElem (by omega)
  rcases regOK_pair hreg hij hi h.op with h3 | ⟨_, h3, _⟩
  · exact h.before h3
  · obtain ⟨h4, _, _⟩ := Oper.apart_spec h3
    exact absurd hs (h4 s (by simpa [dstAt, hi] using hd))
theorem Ready.put (hreg : regOK ops = true) (h : Ready ops D j o) : svL ops vl T0 (fun i => if i = j then true else D i) = putT (svL ops vl T0 D) o.dst (vl j) := by
  have hj : j < ops.size := (Array.getElem?_eq_some_iff.1 h.op).1
  have hdj : dstAt ops j = o.dst := by simp [dstAt, h.op]
  apply List.ext_getElem?
  intro s
  rcases Nat.lt_or_ge s T0.length with hs | hs
  · have hl : (svL ops vl T0 (fun i => if i = j then true else D i))[s]? = some (sv ops vl T0 (fun i => if i = j then true else D i) ops.size s) := by
      unfold svL; rw [List.getElem?_map, List.getElem?_range hs]; rfl
    have hl2 : (svL ops vl T0 D)[s]? = some (sv ops vl T0 D ops.size s) := by
      unfold svL; rw [List.getElem?_map, List.getElem?_range hs]; rfl
    rw [hl]
    by_cases hd : o.dst = some s
    · rw [hd]
      simp only [putT]
      rw [List.getElem?_set_self (by rw [svL_length]; exact hs)]
      congr 1
      have := sv_cut (ops := ops) (vl := vl) (T0 := T0) (D := fun i => if i = j then true else D i) (s := s) (i := j + 1) (ops.size - (j + 1)) fun i h1 h2 hdi => ?_
      · rw [show j + 1 + (ops.size - (j + 1)) = ops.size by omega] at this
        rw [this]
        unfold sv
        rw [if_pos ⟨by simp, by rw [hdj]; exact hd⟩]
      · simp only [if_neg (show i ≠ j by omega)]
        have hi : ops[i]? = some ops[i] := Array.getElem?_eq_getElem (by omega)
        rcases regOK_pair hreg (show j < i by omega) h.op hi with h3 | ⟨_, h3, _⟩
        · exact h.behind hi h3
        · obtain ⟨_, h5, _⟩ := Oper.apart_spec h3
          exact absurd (show ops[i].dst = some s by simpa [dstAt, hi] using hdi) (h5 s hd)
    · have e1 : sv ops vl T0 (fun i => if i = j then true else D i) ops.size s = sv ops vl T0 D ops.size s := sv_congr _ fun i hi hdi => by
        have : i ≠ j := fun he => hd (by rw [← hdj, ← he]; exact hdi)
        simp only [if_neg this]
      rw [e1]
      cases hdst : o.dst with
      | none => exact hl2.symm
      | some d =>
        simp only [putT]
        rw [List.getElem?_set_ne (fun he => hd (by rw [hdst, he]))]
        exact hl2.symm
  · have hl : (svL ops vl T0 (fun i => if i = j then true else D i))[s]? = none := List.getElem?_eq_none (by rw [svL_length]; exact hs)
    rw [hl]
    cases o.dst with
    | none => exact (List.getElem?_eq_none (by simp only [putT]; rw [svL_length]; exact hs)).symm
    | some d => exact (List.getElem?_eq_none (by simp only [putT, List.length_set]; rw [svL_length]; exact hs)).symm
theorem opv_slots {T T' : List Value} (hl : T.length = T'.length) {o : Oper} (h : ∀ s ∈ o.looksAt ops, s < T.length → T.getD s undef = T'.getD s undef) : (∀ x ∈ o.op.operands, opv T x = opv T' x) ∧ ∀ g want, o.guard = some (g, want) → yieldV ops T g = yieldV ops T' g := by
  have one : ∀ s ∈ o.looksAt ops, T.getD s undef = T'.getD s undef := by
    intro s hs
    rcases Nat.lt_or_ge s T.length with h1 | h1
    · exact h s hs h1
    · rw [List.getD_eq_getElem?_getD, List.getD_eq_getElem?_getD, List.getElem?_eq_none h1, List.getElem?_eq_none (by omega)]
  refine ⟨fun x hx => ?_, fun g want hg => ?_⟩
  · cases x with
    | tmp s => exact one s (List.mem_append_left _ (List.mem_filterMap.2 ⟨.tmp s, by simpa using hx, rfl⟩))
    | _ => rfl
  · unfold yieldV
    cases hd : (ops[g]?).bind (·.dst) with
    | none => rfl
    | some s => exact one s (by simp [Oper.looksAt, hg, hd])
end
end Go.AM
set_option linter.unusedVariables false
set_option linter.unusedSimpArgs false
namespace Go.AM
open Go.RowKit

section
variable {P : Program} {call : CallF} {ops : Array Oper} {tT : Nat → List Value} {tH : Nat → AH} {sk : Nat → Bool} {vl : Nat → Value}

theorem read_sound {B0 : Nat} {w0 : World} {m : Mp} {X : AH} {w : World} (R0 : Rel P B0 w0 m X w) {T : List Value} {a : Act} (hT : LRel m T a.tmps.toList) {o : Oper} {f : AH → Option Value} (hf : opRead P (opv T) o.op = some f) {v : Value} (h : f X = some v) :
    ∃ v', (execOp a.eval o).run P w = .ok (.value v') w ∧ VRel m v v' := by
  obtain ⟨dst, op, ty, ps, af, g⟩ := o
  unfold opRead at hf
  split at hf
  · rename_i t x hop
    simp only at hop
    subst hop
    cases hf
    obtain ⟨v', q1, q2⟩ := ld_sound R0 (opv_rel hT x) h
    exact ⟨v', by simp [execOp, q1], q2⟩
  · rename_i s d x hop
    simp only at hop
    subst hop
    cases hb : isBytesToString P s d with
    | true =>
      rw [hb] at hf
      cases hf
      obtain ⟨v', q1, q2⟩ := cvS_sound R0 (opv_rel hT x) h
      exact ⟨v', by simp [execOp, q1], q2⟩
    | false => rw [hb] at hf; cases hf
  · cases hf
theorem nextE (s : Nat) : ∀ d, s + d = ops.size → ∃ q, s ≤ q ∧ q ≤ ops.size ∧ (∀ e, s ≤ e → e < q → eE ops sk e = false) ∧ (q < ops.size → eE ops sk q = true)
  | 0, h => ⟨s, Nat.le_refl _, by omega, fun e h1 h2 => by omega, fun h1 => by omega⟩
  | d + 1, h => by
    cases he : eE ops sk s with
    | true => exact ⟨s, Nat.le_refl _, by omega, fun e h1 h2 => by omega, fun _ => he⟩
    | false =>
      obtain ⟨q, h1, h2, h3, h4⟩ := nextE (s + 1) d (by omega)
      exact ⟨q, by omega, h2, fun e h5 h6 => by
        by_cases hes : e = s
        · subst hes; exact he
        · exact h3 e (by omega) h6, h4⟩
theorem eE_inv {j : Nat} (h : eE ops sk j = true) : ∃ o, ops[j]? = some o ∧ isEff o.op = true ∧ sk j = false := by
  unfold eE at h
  rw [Bool.and_eq_true] at h
  cases ho : ops[j]? with
  | none => rw [ho] at h; cases h.1
  | some o => rw [ho] at h; exact ⟨o, rfl, by simpa using h.1, by simpa using h.2⟩
theorem crossing (f : Nat → Nat) (i : Nat) (b : Nat) (h0 : f i ≤ b) : ∀ d, b < f (i + d) → ∃ j, i ≤ j ∧ j < i + d ∧ f j ≤ b ∧ b < f (j + 1)
  | 0, h => by simp at h; omega
  | d + 1, h => by
    rcases Nat.lt_or_ge b (f (i + d)) with h1 | h1
    · obtain ⟨j, h2, h3, h4⟩ := crossing f i b h0 d h1
      exact ⟨j, h2, by omega, h4⟩
    · exact ⟨i + d, by omega, by omega, h1, h⟩

structure Inv (P : Program) (ops : Array Oper) (tT : Nat → List Value) (tH : Nat → AH) (sk : Nat → Bool) (vl : Nat → Value) (B0 : Nat) (w0 : World) (m0 : Mp) (wI : World) (listed : Array Bool) (q : Nat) (m : Mp) (a : Act) (w : World) : Prop where
  lsize : listed.size = ops.size
  down : Down ops (fun i => listed.getD i false = true)
  hq : q ≤ ops.size
  hq1 : q < ops.size → eE ops sk q = true ∧ listed.getD q false = false
  hq2 : ∀ e, e < q → eE ops sk e = true → listed.getD e false = true
  slots : LRel m (svL ops vl (tT 0) (fun i => listed.getD i false)) a.tmps.toList
  defers : a.defers = []
  vr : VR P B0 w0 tH ops.size q m w
  dm : ∀ b L, m b = some L → b < (tH 0).length ∨ ∃ i, i < ops.size ∧ listed.getD i false = true ∧ (tH i).length ≤ b ∧ b < (tH (i + 1)).length
  mono0 : ∀ b L, m0 b = some L → m b = some L
  size : wI.heap.size ≤ w.heap.size
  new : ∀ b L, m b = some L → m0 b = some L ∨ ((tH 0).length ≤ b ∧ (wI.heap.size ≤ L.blk ∨ ∃ b0 L0 k0, m0 b0 = some L0 ∧ blk (tH 0) b0 = some k0 ∧ k0.kind ≠ .ro ∧ L0.blk = L.blk))
  frame : ∀ B, B < wI.heap.size → (∀ b L k, m0 b = some L → blk (tH 0) b = some k → k.kind ≠ .ro → L.blk ≠ B) → w.heap[B]? = wI.heap[B]?

/-- The lengths and kinds along the text's own order. -/
structure Along (ops : Array Oper) (tT : Nat → List Value) (tH : Nat → AH) (m0 : Mp) : Prop where
  lens : ∀ i d, i + d ≤ ops.size → (tH i).length ≤ (tH (i + d)).length
  alive : ∀ d, d ≤ ops.size → ∀ b k', b < (tH 0).length → blk (tH d) b = some k' → ∃ k, blk (tH 0) b = some k ∧ k.kind = k'.kind
  bel : ∀ (j s : Nat) (x : Value), j ≤ ops.size → (tT j)[s]? = some x → Bel (tH j).length x
  dom0 : ∀ b L, m0 b = some L → b < (tH 0).length
theorem Along.le {m0 : Mp} (A : Along ops tT tH m0) {i j : Nat} (h : i ≤ j) (hj : j ≤ ops.size) : (tH i).length ≤ (tH j).length := by
  have := A.lens i (j - i) (by omega)
  rwa [show i + (j - i) = j by omega] at this
theorem getD_set {listed : Array Bool} {j : Nat} (hj : j < listed.size) (i : Nat) : (listed.setIfInBounds j true).getD i false = if i = j then true else listed.getD i false := by
  by_cases h : i = j
  · subst h
    rw [if_pos rfl]
    simp [Array.getD, hj]
  · rw [if_neg h]
    exact getD_set_ne false (Ne.symm h)
section
variable {B0 : Nat} {w0 : World} {m0 : Mp} {wI : World} {listed : Array Bool} {q : Nat} {m : Mp} {a : Act} {w : World}
theorem Inv.rdy (I : Inv P ops tT tH sk vl B0 w0 m0 wI listed q m a w) {j : Nat} (hr : j ∈ Region.ready .any ops listed) : ∃ o, Ready ops (fun i => listed.getD i false) j o := by
  unfold Region.ready at hr
  rw [List.mem_filter] at hr
  obtain ⟨h1, h2⟩ := hr
  have hj : j < ops.size := List.mem_range.1 h1
  have ho : ops[j]? = some ops[j] := Array.getElem?_eq_getElem hj
  rw [Bool.and_eq_true, ho] at h2
  simp only [Option.map_some, Option.getD_some] at h2
  refine ⟨ops[j], ho, I.down, fun e he hb => ?_, ?_⟩
  · have := Array.all_eq_true'.1 h2.2 e he
    simpa [hb] using this
  · have hlt : j < listed.size := by rw [I.lsize]; exact hj
    have := h2.1
    simp [Array.getD, hlt] at this ⊢
    exact this
theorem Inv.down' (I : Inv P ops tT tH sk vl B0 w0 m0 wI listed q m a w) {j : Nat} {o : Oper} (hr : Ready ops (fun i => listed.getD i false) j o) : Down ops (fun i => (listed.setIfInBounds j true).getD i false = true) := by
  have hlt : j < listed.size := by rw [I.lsize]; exact (Array.getElem?_eq_some_iff.1 hr.op).1
  intro i oi hi hD e he hb
  simp only [getD_set hlt] at hD ⊢
  by_cases hij : i = j
  · subst hij
    rw [hr.op] at hi
    cases hi
    have := hr.edges e he hb
    split
    · rfl
    · exact this
  · rw [if_neg hij] at hD
    have := I.down i oi hi hD e he hb
    split
    · rfl
    · exact this
/-- An operation that doesn't act is done: slots and marks. -/
theorem Inv.mark (hreg : regOK ops = true) (I : Inv P ops tT tH sk vl B0 w0 m0 wI listed q m a w) {j : Nat} {o : Oper} (hr : Ready ops (fun i => listed.getD i false) j o) (hne : eE ops sk j = false) {m2 : Mp} {w2 : World} {v' : Value}
    (hmono : ∀ b L, m b = some L → m2 b = some L) (hv : VRel m2 (vl j) v') (hvr : VR P B0 w0 tH ops.size q m2 w2) (hdm : ∀ b L, m2 b = some L → m b = some L ∨ ((tH j).length ≤ b ∧ b < (tH (j + 1)).length ∧ w.heap.size ≤ L.blk)) (h0 : (tH 0).length ≤ (tH j).length)
    (hs : w.heap.size ≤ w2.heap.size) (hw : ∀ B, B < w.heap.size → w2.heap[B]? = w.heap[B]?) :
    Inv P ops tT tH sk vl B0 w0 m0 wI (listed.setIfInBounds j true) q m2 (a.put o.dst v') w2 := by
  have hj : j < ops.size := (Array.getElem?_eq_some_iff.1 hr.op).1
  have hlt : j < listed.size := by rw [I.lsize]; exact hj
  refine ⟨by simp [I.lsize], I.down' hr, I.hq, fun h => ?_, fun e he hE => ?_, ?_, by rw [AM.put_defers]; exact I.defers, hvr, fun b L hb => ?_, fun b L hb => hmono b L (I.mono0 b L hb), Nat.le_trans I.size hs, fun b L hb => ?_, fun B hB hr' => ?_⟩
  · obtain ⟨h1, h2⟩ := I.hq1 h
    refine ⟨h1, ?_⟩
    rw [getD_set hlt, if_neg]
    · exact h2
    · intro he
      subst he
      rw [h1] at hne
      cases hne
  · rw [getD_set hlt]
    split
    · rfl
    · exact I.hq2 e he hE
  · have e1 : (fun i => (listed.setIfInBounds j true).getD i false) = fun i => if i = j then true else listed.getD i false := by funext i; exact getD_set hlt i
    rw [e1, hr.put hreg]
    exact put_rel (I.slots.mono hmono) _ hv
  · rcases hdm b L hb with h1 | ⟨h1, h2, h3⟩
    · rcases I.dm b L h1 with h4 | ⟨i, h4, h5, h6⟩
      · exact .inl h4
      · refine .inr ⟨i, h4, ?_, h6⟩
        rw [getD_set hlt]
        split
        · rfl
        · exact h5
    · exact .inr ⟨j, hj, by rw [getD_set hlt, if_pos rfl], h1, h2⟩
  · rcases hdm b L hb with h1 | ⟨h1, h2, h3⟩
    · exact I.new b L h1
    · exact .inr ⟨by omega, .inl (Nat.le_trans I.size h3)⟩
  · rw [hw B (Nat.lt_of_lt_of_le hB I.size)]
    exact I.frame B hB hr'
/-- A read tells the same now. -/
theorem Inv.readNow (X : Tr P call ops (befL [] ops.toList) 0 tT tH sk vl) (A : Along ops tT tH m0) (I : Inv P ops tT tH sk vl B0 w0 m0 wI listed q m a w) {j : Nat} {o : Oper} (hr : Ready ops (fun i => listed.getD i false) j o) (hs : sk j = false) {f : AH → Option Value}
    (hf : opRead P (opv (tT j)) o.op = some f) : f (tH q) = some (vl j) := by
  have hj : j < ops.size := (Array.getElem?_eq_some_iff.1 hr.op).1
  have hnj : eE ops sk j = false := by simp [eE, hr.op, read_not_eff hf]
  rcases Nat.lt_or_ge j q with hlt | hge
  · have key : ∀ d, j + 1 + d ≤ q → f (tH (j + 1 + d)) = some (vl j) := by
      intro d
      induction d with
      | zero =>
        intro _
        obtain ⟨h1, h2⟩ := X.read j o f (Nat.zero_le _) hr.op hs hf
        rw [Nat.add_zero, h2]
        exact h1
      | succ d ih =>
        intro hd
        have hprev := ih (by omega)
        have hq := I.hq
        cases hE : eE ops sk (j + 1 + d) with
        | true =>
          obtain ⟨oe, he1, he2, he3⟩ := eE_inv hE
          have hl := I.hq2 (j + 1 + d) (by omega) hE
          have hord : ordB (befL [] ops.toList) j (j + 1 + d) = false := by
            cases hc : ordB (befL [] ops.toList) j (j + 1 + d) with
            | false => rfl
            | true => have := hr.behind he1 hc; rw [hl] at this; cases this
          exact X.futR j o f (j + 1 + d) oe (Nat.zero_le _) (by omega) hr.op he1 hs he3 he2 hf hord
        | false =>
          rcases X.noeff (j := j + 1 + d) (by omega) hE with h3 | ⟨k, _, h3⟩
          · rw [show j + 1 + (d + 1) = j + 1 + d + 1 by omega, h3]; exact hprev
          · rw [show j + 1 + (d + 1) = j + 1 + d + 1 by omega, h3]
            exact opRead_keep hf (fun b k' hk => by rw [blk_app_old _ (blk_lt' hk)]; exact hk) hprev
    have := key (q - (j + 1)) (by omega)
    rwa [show j + 1 + (q - (j + 1)) = q by omega] at this
  · have hne : q ≠ j := by
      intro he
      subst he
      have := (I.hq1 hj).1
      rw [hnj] at this
      cases this
    obtain ⟨h1, h2⟩ := I.hq1 (by omega)
    obtain ⟨oe, he1, he2, he3⟩ := eE_inv h1
    refine X.pastR j o f q oe (Nat.zero_le _) (by omega) hr.op he1 hs he3 he2 hf ?_
    cases hc : ordB (befL [] ops.toList) q j with
    | false => rfl
    | true => have := hr.before hc; rw [h2] at this; cases this
/-- A block that is yet to be made stands as it will be made. -/
theorem Inv.makeNow (X : Tr P call ops (befL [] ops.toList) 0 tT tH sk vl) (A : Along ops tT tH m0) (I : Inv P ops tT tH sk vl B0 w0 m0 wI listed q m a w) {j : Nat} {o : Oper} (hr : Ready ops (fun i => listed.getD i false) j o) (hs : sk j = false)
    (hf : opRead P (opv (tT j)) o.op = none) (ha : isAlloc o.op = true) {k : Blk} (hk : tH (j + 1) = tH j ++ [some k]) : kb tH ops.size q (tH j).length = some k := by
  have hj : j < ops.size := (Array.getElem?_eq_some_iff.1 hr.op).1
  have hnew : blk (tH (j + 1)) (tH j).length = some k := by rw [hk]; unfold blk; simp
  have hlen : (tH (j + 1)).length = (tH j).length + 1 := by rw [hk]; simp
  have hnj : eE ops sk j = false := by simp [eE, hr.op, alloc_not_eff ha]
  rcases Nat.lt_or_ge j q with hlt | hge
  · have key : ∀ d, j + 1 + d ≤ q → blk (tH (j + 1 + d)) (tH j).length = some k := by
      intro d
      induction d with
      | zero => intro _; exact hnew
      | succ d ih =>
        intro hd
        have hprev := ih (by omega)
        have hq := I.hq
        cases hE : eE ops sk (j + 1 + d) with
        | true =>
          obtain ⟨oe, he1, he2, he3⟩ := eE_inv hE
          have hl := I.hq2 (j + 1 + d) (by omega) hE
          have hord : ordB (befL [] ops.toList) j (j + 1 + d) = false := by
            cases hc : ordB (befL [] ops.toList) j (j + 1 + d) with
            | false => rfl
            | true => have := hr.behind he1 hc; rw [hl] at this; cases this
          have := X.futA j o (j + 1 + d) oe (Nat.zero_le _) (by omega) hr.op he1 hs he3 he2 hf ha hord
          rw [show j + 1 + (d + 1) = j + 1 + d + 1 by omega, this]
          exact hnew
        | false =>
          rcases X.noeff (j := j + 1 + d) (by omega) hE with h3 | ⟨k', _, h3⟩
          · rw [show j + 1 + (d + 1) = j + 1 + d + 1 by omega, h3]; exact hprev
          · rw [show j + 1 + (d + 1) = j + 1 + d + 1 by omega, h3, blk_app_old _ (blk_lt' hprev)]
            exact hprev
    have := key (q - (j + 1)) (by omega)
    rw [show j + 1 + (q - (j + 1)) = q by omega] at this
    rw [kb_lt (blk_lt' this)]
    exact this
  · have hle := A.le hge (by omega)
    rw [kb_ge hle, ini_eq A.lens hj (Nat.le_refl _) (by omega)]
    exact hnew
end
end
end Go.AM
set_option linter.unusedVariables false
set_option linter.unusedSimpArgs false
namespace Go.AM
open Go.RowKit

section
variable {P : Program} {call : CallF} {ops : Array Oper} {tT : Nat → List Value} {tH : Nat → AH} {sk : Nat → Bool} {vl : Nat → Value} {B0 : Nat} {w0 : World} {m0 : Mp} {wI : World} {listed : Array Bool} {q : Nat} {m : Mp} {a : Act} {w : World}

theorem Tr.sv (X : Tr P call ops (befL [] ops.toList) 0 tT tH sk vl) {j : Nat} (hj : j ≤ ops.size) : (tT j).length = (tT 0).length ∧ ∀ s, s < (tT 0).length → (tT j).getD s undef = AM.sv ops vl (tT 0) (fun _ => true) j s :=
  tT_sv rfl (fun j o ho => X.step j o (Nat.zero_le _) ho) j hj
/-- What the operation looks at holds what it held in the text's own order. -/
theorem Inv.looks (hreg : regOK ops = true) (X : Tr P call ops (befL [] ops.toList) 0 tT tH sk vl) (I : Inv P ops tT tH sk vl B0 w0 m0 wI listed q m a w) {j : Nat} {o : Oper} (hr : Ready ops (fun i => listed.getD i false) j o) :
    ∀ s ∈ o.looksAt ops, s < (svL ops vl (tT 0) (fun i => listed.getD i false)).length → (svL ops vl (tT 0) (fun i => listed.getD i false)).getD s undef = (tT j).getD s undef := by
  intro s hs hlt
  rw [svL_length] at hlt
  rw [svL_getD _ hlt, hr.slots hreg hs, ((X.sv (Nat.le_of_lt (Array.getElem?_eq_some_iff.1 hr.op).1)).2 s hlt)]
theorem Inv.opv (hreg : regOK ops = true) (X : Tr P call ops (befL [] ops.toList) 0 tT tH sk vl) (I : Inv P ops tT tH sk vl B0 w0 m0 wI listed q m a w) {j : Nat} {o : Oper} (hr : Ready ops (fun i => listed.getD i false) j o) :
    (∀ x ∈ o.op.operands, AM.opv (svL ops vl (tT 0) (fun i => listed.getD i false)) x = AM.opv (tT j) x) ∧ ∀ g want, o.guard = some (g, want) → yieldV ops (svL ops vl (tT 0) (fun i => listed.getD i false)) g = yieldV ops (tT j) g := by
  have hj := Nat.le_of_lt (Array.getElem?_eq_some_iff.1 hr.op).1
  exact opv_slots (by rw [svL_length, (X.sv hj).1]) (I.looks hreg X hr)
theorem Inv.wanted (hreg : regOK ops = true) (X : Tr P call ops (befL [] ops.toList) 0 tT tH sk vl) (I : Inv P ops tT tH sk vl B0 w0 m0 wI listed q m a w) {j : Nat} {o : Oper} (hr : Ready ops (fun i => listed.getD i false) j o) :
    Region.wanted o (yielded ops a.tmps) = !sk j := by
  obtain ⟨_, hy⟩ := I.opv hreg X hr
  cases hs : sk j with
  | true =>
    obtain ⟨⟨g, want, hg, hu⟩, _⟩ := X.skip j o (Nat.zero_le _) hr.op hs
    rcases hu with ⟨b, hu, hb⟩ | ⟨vs, hu, _⟩
    · rw [wanted_of hg ((yield_rel I.slots g).1 b (by rw [hy g want hg]; exact hu))]
      simp [hb]
    · rw [wanted_of hg ((yield_rel I.slots g).2 vs (by rw [hy g want hg]; exact hu))]
      rfl
  | false =>
    rcases X.go j o (Nat.zero_le _) hr.op hs with hg | ⟨g, want, hg, hu⟩
    · unfold Region.wanted; rw [hg]; rfl
    · rw [wanted_of hg ((yield_rel I.slots g).1 want (by rw [hy g want hg]; exact hu))]
      simp
/-- What acts next is the one. -/
theorem Inv.isq (hreg : regOK ops = true) (I : Inv P ops tT tH sk vl B0 w0 m0 wI listed q m a w) {j : Nat} {o : Oper} (hr : Ready ops (fun i => listed.getD i false) j o) (hE : eE ops sk j = true) : j = q := by
  have hj : j < ops.size := (Array.getElem?_eq_some_iff.1 hr.op).1
  rcases Nat.lt_trichotomy j q with h | h | h
  · have := I.hq2 j h hE
    have h2 := hr.not
    rw [this] at h2
    cases h2
  · exact h
  · obtain ⟨h1, h2⟩ := I.hq1 (by omega)
    obtain ⟨oq, hq1, hq2, _⟩ := eE_inv h1
    obtain ⟨oj, hj1, hj2, _⟩ := eE_inv hE
    rcases regOK_pair hreg h hq1 hj1 with h3 | ⟨h3, _⟩
    · have := hr.before h3; rw [h2] at this; cases this
    · exact (h3 hq2 hj2).elim
/-- The slots that an operation looks at, under the lesser map. -/
theorem Inv.masked (hreg : regOK ops = true) (X : Tr P call ops (befL [] ops.toList) 0 tT tH sk vl) (A : Along ops tT tH m0) (I : Inv P ops tT tH sk vl B0 w0 m0 wI listed q m a w) {j : Nat} {o : Oper} (hr : Ready ops (fun i => listed.getD i false) j o) :
    ∃ T, LRel (cutM m (tH j).length) T a.tmps.toList ∧ ∀ x ∈ o.op.operands, AM.opv T x = AM.opv (tT j) x := by
  have hj : j ≤ ops.size := Nat.le_of_lt (Array.getElem?_eq_some_iff.1 hr.op).1
  refine ⟨(List.range (tT 0).length).map fun s => if s ∈ o.looksAt ops then (tT j).getD s undef else unk, ⟨?_, ?_⟩, ?_⟩
  · rw [List.length_map, List.length_range, ← I.slots.1, svL_length]
  · intro s x y hx hy
    rw [List.getElem?_map] at hx
    have hlt : s < (tT 0).length := by
      rcases Nat.lt_or_ge s (tT 0).length with h1 | h1
      · exact h1
      · rw [List.getElem?_eq_none (by simpa using h1)] at hx; cases hx
    rw [List.getElem?_range hlt, Option.map_some] at hx
    cases hx
    split
    · rename_i hs
      have h1 := I.looks hreg X hr s hs (by rw [svL_length]; exact hlt)
      have h2 : (svL ops vl (tT 0) (fun i => listed.getD i false))[s]? = some ((tT j).getD s undef) := by
        rw [← h1, List.getD_eq_getElem?_getD, List.getElem?_eq_getElem (by rw [svL_length]; exact hlt)]
        rfl
      have h3 := I.slots.2 s _ y h2 hy
      have h4 : (tT j)[s]? = some ((tT j).getD s undef) := by
        rw [List.getD_eq_getElem?_getD, List.getElem?_eq_getElem (by rw [(X.sv hj).1]; exact hlt)]
        rfl
      exact h3.cutB (A.bel j s _ hj h4)
    · exact .unk _
  · refine (opv_slots (ops := ops) (by rw [List.length_map, List.length_range, (X.sv hj).1]) fun s hs hlt => ?_).1
    rw [List.length_map, List.length_range] at hlt
    rw [List.getD_eq_getElem?_getD, List.getElem?_map, List.getElem?_range hlt, Option.map_some, Option.getD_some, if_pos hs]
theorem Inv.act (hreg : regOK ops = true) (X : Tr P call ops (befL [] ops.toList) 0 tT tH sk vl) (A : Along ops tT tH m0) (I : Inv P ops tT tH sk vl B0 w0 m0 wI listed q m a w) {o : Oper} (hr : Ready ops (fun i => listed.getD i false) q o) (hE : eE ops sk q = true)
    {m1 : Mp} {w1 : World} {v' : Value} (E : Ext (cutM m (tH q).length) (tH q) w m1 (tH (q + 1)) w1) (R1 : Rel P B0 w0 m1 (tH (q + 1)) w1) (hv : VRel m1 (vl q) v') :
    ∃ q' m2, Inv P ops tT tH sk vl B0 w0 m0 wI (listed.setIfInBounds q true) q' m2 (a.put o.dst v') w1 := by
  have hq : q < ops.size := (Array.getElem?_eq_some_iff.1 hr.op).1
  have hlt : q < listed.size := by rw [I.lsize]; exact hq
  obtain ⟨q', hq1, hq2, hq3, hq4⟩ := nextE (ops := ops) (sk := sk) (q + 1) (ops.size - (q + 1)) (by omega)
  have hlen := A.le (i := q) (j := q + 1) (by omega) (by omega)
  have hsame := X.same (q + 1) (q' - (q + 1)) (by omega) (fun e h1 h2 => hq3 e h1 (by omega))
  rw [show q + 1 + (q' - (q + 1)) = q' by omega] at hsame
  have hini : ∀ b, (tH (q + 1)).length ≤ b → b < (tH q').length → blk (tH q') b = ini tH ops.size b := by
    intro b h1 h2
    obtain ⟨j, h3, h4, h5, h6⟩ := crossing (fun i => (tH i).length) (q + 1) b h1 (q' - (q + 1)) (by rw [show q + 1 + (q' - (q + 1)) = q' by omega]; exact h2)
    rw [ini_eq A.lens (show j < ops.size by omega) h5 h6]
    have h7 := X.same (j + 1) (q' - (j + 1)) (by omega) (fun e h7 h8 => hq3 e (by omega) (by omega))
    rw [show j + 1 + (q' - (j + 1)) = q' by omega] at h7
    exact h7.2 b h6
  have hnew : ∀ b, (tH q).length ≤ b → b < (tH (q + 1)).length → m b = none := by
    intro b h1 h2
    cases hb : m b with
    | none => rfl
    | some L =>
      exfalso
      rcases I.dm b L hb with h3 | ⟨i, h3, h4, h5, h6⟩
      · have := A.le (i := 0) (j := q) (by omega) (by omega); omega
      · rcases Nat.lt_trichotomy i q with h7 | h7 | h7
        · have := A.le (i := i + 1) (j := q) (by omega) (by omega); omega
        · subst h7
          have := hr.not
          rw [h4] at this
          cases this
        · have := A.le (i := q + 1) (j := i) (by omega) (by omega); omega
  obtain ⟨V, hmono⟩ := I.vr.eff (by omega) hq2 hlen hsame hini (A.le hq2 (Nat.le_refl _)) R1 E hnew
  have hmono1 : ∀ b L, m1 b = some L → mrg m1 m (tH (q + 1)).length b = some L := by
    intro b L hb
    unfold mrg
    rw [if_pos (R1.dom b L hb).1]
    exact hb
  have split_ : ∀ b L, mrg m1 m (tH (q + 1)).length b = some L → m b = some L ∨ ((tH q).length ≤ b ∧ b < (tH (q + 1)).length ∧ (w.heap.size ≤ L.blk ∨ ∃ b0 L0 k0, m b0 = some L0 ∧ blk (tH q) b0 = some k0 ∧ b0 < (tH q).length ∧ k0.kind ≠ .ro ∧ L0.blk = L.blk)) := by
    intro b L hb
    unfold mrg at hb
    split at hb
    · rename_i h1
      rcases E.new b L hb with h2 | ⟨h2, h3 | ⟨b0, L0, k0, h3, h4, h5, h6⟩⟩
      · exact .inl (cutM_some h2).2
      · exact .inr ⟨h2, h1, .inl h3⟩
      · obtain ⟨h7, h8⟩ := cutM_some h3
        exact .inr ⟨h2, h1, .inr ⟨b0, L0, k0, h8, h4, h7, h5, h6⟩⟩
    · exact .inl hb
  -- an own block that there was
  have own0 : ∀ b L k, m b = some L → blk (tH q) b = some k → k.kind ≠ .ro → (wI.heap.size ≤ L.blk ∨ ∃ b0 L0 k0, m0 b0 = some L0 ∧ blk (tH 0) b0 = some k0 ∧ k0.kind ≠ .ro ∧ L0.blk = L.blk) := by
    intro b L k h1 h2 h3
    rcases I.new b L h1 with h4 | ⟨_, h4⟩
    · obtain ⟨k0, h5, h6⟩ := A.alive q (by omega) b k (A.dom0 b L h4) h2
      exact .inr ⟨b, L, k0, h4, h5, by rw [h6]; exact h3, rfl⟩
    · exact h4
  refine ⟨q', mrg m1 m (tH (q + 1)).length, ⟨by simp [I.lsize], I.down' hr, hq2, fun h => ⟨hq4 h, ?_⟩, fun e he hEe => ?_, ?_, by rw [AM.put_defers]; exact I.defers, V, fun b L hb => ?_, fun b L hb => hmono b L (I.mono0 b L hb), Nat.le_trans I.size E.size, fun b L hb => ?_, fun B hB hr' => ?_⟩⟩
  · rw [getD_set hlt, if_neg (by omega)]
    cases hc : listed.getD q' false with
    | false => rfl
    | true =>
      exfalso
      obtain ⟨oq', h1, h2, _⟩ := eE_inv (hq4 h)
      obtain ⟨oq, h3, h4, _⟩ := eE_inv hE
      rcases regOK_pair hreg (show q < q' by omega) h3 h1 with h5 | ⟨h5, _⟩
      · have := hr.behind h1 h5
        rw [hc] at this
        cases this
      · exact h5 h4 h2
  · rw [getD_set hlt]
    split
    · rfl
    · rename_i hne
      rcases Nat.lt_or_ge e q with h1 | h1
      · exact I.hq2 e h1 hEe
      · have := hq3 e (by omega) he
        rw [hEe] at this
        cases this
  · have e1 : (fun i => (listed.setIfInBounds q true).getD i false) = fun i => if i = q then true else listed.getD i false := by funext i; exact getD_set hlt i
    rw [e1, hr.put hreg]
    exact put_rel (I.slots.mono hmono) _ (hv.mono hmono1)
  · rcases split_ b L hb with h1 | ⟨h1, h2, _⟩
    · rcases I.dm b L h1 with h4 | ⟨i, h4, h5, h6⟩
      · exact .inl h4
      · refine .inr ⟨i, h4, ?_, h6⟩
        rw [getD_set hlt]
        split
        · rfl
        · exact h5
    · exact .inr ⟨q, hq, by rw [getD_set hlt, if_pos rfl], h1, h2⟩
  · rcases split_ b L hb with h1 | ⟨h1, h2, h3⟩
    · exact I.new b L h1
    · have := A.le (i := 0) (j := q) (by omega) (by omega)
      refine .inr ⟨by omega, ?_⟩
      rcases h3 with h3 | ⟨b0, L0, k0, h3, h4, _, h5, h6⟩
      · exact .inl (Nat.le_trans I.size h3)
      · have := own0 b0 L0 k0 h3 h4 h5
        rw [h6] at this
        exact this
  · rw [E.frame B (Nat.lt_of_lt_of_le hB I.size), I.frame B hB hr']
    intro b L k hb hk hne
    obtain ⟨h1, h2⟩ := cutM_some hb
    rcases own0 b L k h2 hk hne with h3 | ⟨b0, L0, k0, h3, h4, h5, h6⟩
    · omega
    · rw [← h6]; exact hr' b0 L0 k0 h3 h4 h5
def left (ops : Array Oper) (listed : Array Bool) : List Nat := (List.range ops.size).filter fun i => !listed.getD i false
theorem filter_less {f g : Nat → Bool} : ∀ (l : List Nat) (j : Nat), j ∈ l → f j = true → g j = false → (∀ i, g i = true → f i = true) → (l.filter g).length < (l.filter f).length
  | [], j, hj, _, _, _ => by cases hj
  | i :: l, j, hj, hf, hg, hgf => by
    have hle : (l.filter g).length ≤ (l.filter f).length := by
      clear hj
      induction l with
      | nil => simp
      | cons i l ih =>
        simp only [List.filter_cons]
        cases hgi : g i with
        | true => rw [hgf i hgi]; simp; exact ih
        | false => cases f i <;> simp <;> omega
    by_cases hij : i = j
    · subst hij
      simp only [List.filter_cons, hf, hg, if_true]
      simp
      omega
    · have hjl : j ∈ l := by cases hj with | head => exact (hij rfl).elim | tail _ h => exact h
      have := filter_less l j hjl hf hg hgf
      simp only [List.filter_cons]
      cases hgi : g i with
      | true => rw [hgf i hgi]; simp; exact this
      | false => cases f i <;> simp <;> omega
theorem Inv.any (hcall : CallOK P call) (hreg : regOK ops = true) (X : Tr P call ops (befL [] ops.toList) 0 tT tH sk vl) (A : Along ops tT tH m0) {Q : Exit → Act → World → Prop}
    (hq : ∀ (m' : Mp) (a' : Act) (w' : World), After P B0 w0 m0 (tH 0) wI (tT ops.size) (tH ops.size) m' a' w' → Q .normal a' w') :
    ∀ (fuel : Nat) (listed : Array Bool) (q : Nat) (m : Mp) (a : Act) (w : World), Inv P ops tT tH sk vl B0 w0 m0 wI listed q m a w → (left ops listed).length ≤ fuel → wpAny P .any ops Q fuel listed a w := by
  -- when nothing is ready, all is done
  have fin : ∀ (listed : Array Bool) (q : Nat) (m : Mp) (a : Act) (w : World), Inv P ops tT tH sk vl B0 w0 m0 wI listed q m a w → (∀ j, j < ops.size → listed.getD j false = true) → Q .normal a w := by
    intro listed q m a w I hall
    have hqn : q = ops.size := by
      rcases Nat.lt_or_ge q ops.size with h | h
      · have := (I.hq1 h).2
        rw [hall q h] at this
        cases this
      · have := I.hq; omega
    subst hqn
    have hN : ∀ b L, m b = some L → cutM m (tH ops.size).length b = some L := fun b L hb => cutM_of (I.vr.dom b L hb).1 hb
    have hT : svL ops vl (tT 0) (fun i => listed.getD i false) = tT ops.size := by
      obtain ⟨h1, h2⟩ := X.sv (Nat.le_refl ops.size)
      apply List.ext_getElem?
      intro s
      rcases Nat.lt_or_ge s (tT 0).length with hs | hs
      · have e1 : (svL ops vl (tT 0) (fun i => listed.getD i false))[s]? = some (AM.sv ops vl (tT 0) (fun i => listed.getD i false) ops.size s) := by
          unfold svL; rw [List.getElem?_map, List.getElem?_range hs]; rfl
        rw [e1, AM.sv_congr (D' := fun _ => true) _ (fun j hj _ => hall j hj), ← h2 s hs, List.getD_eq_getElem?_getD, List.getElem?_eq_getElem (by omega)]
        rfl
      · rw [List.getElem?_eq_none (by rw [svL_length]; exact hs), List.getElem?_eq_none (by omega)]
    refine hq (cutM m (tH ops.size).length) a w ⟨⟨fun b L hb => hN b L (I.mono0 b L hb), A.le (Nat.zero_le _) (Nat.le_refl _), I.size, fun b k' hb hk => A.alive ops.size (Nat.le_refl _) b k' hb hk, fun b L hb => I.new b L (cutM_some hb).2, I.frame⟩, I.vr.rel, ?_, I.defers⟩
    rw [← hT]
    exact I.slots.mono hN
  have ready_nil : ∀ (listed : Array Bool), Region.ready .any ops listed = [] → listed.size = ops.size → ∀ j, j < ops.size → listed.getD j false = true := by
    intro listed hnil hsz j
    induction j using Nat.strongRecOn with
    | _ j ih =>
      intro hj
      cases hl : listed.getD j false with
      | true => rfl
      | false =>
        exfalso
        have ho : ops[j]? = some ops[j] := Array.getElem?_eq_getElem hj
        have hmem : j ∈ Region.ready .any ops listed := by
          unfold Region.ready
          rw [List.mem_filter]
          refine ⟨List.mem_range.2 hj, ?_⟩
          rw [Bool.and_eq_true, ho]
          have hlt : j < listed.size := by omega
          refine ⟨by simp [Array.getD, hlt] at hl ⊢; exact hl, ?_⟩
          simp only [Option.map_some, Option.getD_some]
          refine Array.all_eq_true'.2 fun e he => ?_
          cases hb : Region.binds .any e with
          | false => rfl
          | true =>
            have hlte := regOK_edge hreg ho he hb
            simp [ih e.on hlte (by omega)]
        rw [hnil] at hmem
        cases hmem
  intro fuel
  induction fuel with
  | zero =>
    intro listed q m a w I hf
    have hall : ∀ j, j < ops.size → listed.getD j false = true := by
      intro j hj
      cases hl : listed.getD j false with
      | true => rfl
      | false =>
        exfalso
        have : j ∈ left ops listed := List.mem_filter.2 ⟨List.mem_range.2 hj, by simp [hl]⟩
        have hnil : left ops listed = [] := List.eq_nil_of_length_eq_zero (by omega)
        rw [hnil] at this
        cases this
    refine ⟨?_, fin listed q m a w I hall⟩
    cases hr : Region.ready .any ops listed with
    | nil => rfl
    | cons j rest =>
      exfalso
      obtain ⟨o, hrd⟩ := I.rdy (j := j) (by rw [hr]; simp)
      have := hrd.not
      rw [hall j (Array.getElem?_eq_some_iff.1 hrd.op).1] at this
      cases this
  | succ fuel ih =>
    intro listed q m a w I hf
    refine ⟨fun hnil => fin listed q m a w I (ready_nil listed hnil I.lsize), fun j hjr => ?_⟩
    obtain ⟨o, hr⟩ := I.rdy hjr
    have hj : j < ops.size := (Array.getElem?_eq_some_iff.1 hr.op).1
    have hlt : j < listed.size := by rw [I.lsize]; exact hj
    have hfuel : (left ops (listed.setIfInBounds j true)).length ≤ fuel := by
      have : (left ops (listed.setIfInBounds j true)).length < (left ops listed).length := by
        refine filter_less _ j (List.mem_range.2 hj) (by have := hr.not; simpa using this) (by rw [getD_set hlt]; simp) fun i hi => ?_
        rw [getD_set hlt] at hi
        split at hi
        · cases hi
        · exact hi
      omega
    have h0 : (tH 0).length ≤ (tH j).length := A.le (Nat.zero_le _) (by omega)
    unfold wpOp
    rw [hr.op]
    simp only
    rw [I.wanted hreg X hr]
    cases hs : sk j with
    | true =>
      simp only [Bool.not_true, Bool.false_eq_true, if_false]
      obtain ⟨_, h2, _⟩ := X.skip j o (Nat.zero_le _) hr.op hs
      refine ih _ q m _ w (I.mark hreg hr (by simp [eE, hs]) (fun _ _ h => h) (by rw [h2]; exact VRel.undef _) I.vr (fun b L h => .inl h) h0 (Nat.le_refl _) fun _ _ => rfl) hfuel
    | false =>
      simp only [Bool.not_false, if_true]
      refine .inl ?_
      obtain ⟨hop, _⟩ := I.opv hreg X hr
      cases hE : eE ops sk j with
      | true =>
        have hjq := I.isq hreg hr hE
        subst hjq
        obtain ⟨T, hT, hTo⟩ := I.masked hreg X A hr
        have hres := X.res hr.op hs
        rw [← aRes_congr o.op hTo] at hres
        refine res_sound hcall hres I.vr.rel hT _ _ fun m1 v' w1 E R1 hv => ?_
        obtain ⟨q', m2, I2⟩ := I.act hreg X A hr hE E R1 hv
        exact ih _ q' m2 _ w1 I2 hfuel
      | false =>
        have heff : isEff o.op = false := by simpa [eE, hr.op, hs] using hE
        cases hf' : opRead P (AM.opv (tT j)) o.op with
        | some f =>
          have hnow := I.readNow X A hr hs hf'
          have hpad : f (padH tH ops.size q) = some (vl j) := opRead_keep hf' (fun b k hk => by
            unfold padH blk
            rw [List.getElem?_append_left (blk_lt' hk)]
            exact hk) hnow
          rw [← opRead_congr o.op hop] at hf'
          obtain ⟨v', q1, q2⟩ := read_sound (I.vr.pad (A.le I.hq (Nat.le_refl _))) I.slots hf' hpad
          unfold Oper.wp
          rw [q1]
          exact ih _ q m _ w (I.mark hreg hr hE (fun _ _ h => h) q2 I.vr (fun b L h => .inl h) h0 (Nat.le_refl _) fun _ _ => rfl) hfuel
        | none =>
          have hres := X.other j o (Nat.zero_le _) hr.op hs hf'
          cases ha : isAlloc o.op with
          | false =>
            obtain ⟨_, hpure⟩ := pure_res heff hf' ha hres
            have hp2 := hpure (List.replicate (tH ops.size).length none)
            rw [← aRes_congr o.op hop] at hp2
            have hN : ∀ b L, m b = some L → cutM m (tH ops.size).length b = some L := fun b L hb => cutM_of (I.vr.dom b L hb).1 hb
            refine res_sound hcall hp2 (I.vr.dead _) (I.slots.mono hN) _ _ fun m1 v' w1 E R1 hv => ?_
            have hback : ∀ b L, m1 b = some L → m b = some L := by
              intro b L hb
              rcases E.new b L hb with h1 | ⟨h1, _⟩
              · exact (cutM_some h1).2
              · have := (R1.dom b L hb).1; omega
            have hw : ∀ B, B < w.heap.size → w1.heap[B]? = w.heap[B]? := fun B hB => E.frame B hB fun b L k _ hk => by rw [blk_dead] at hk; cases hk
            exact ih _ q m _ w1 (I.mark hreg hr hE (fun _ _ h => h) (hv.mono hback) (I.vr.still R1.below E.size hw) (fun b L h => .inl h) h0 E.size hw) hfuel
          | true =>
            obtain ⟨k, hk1, hk2, hall⟩ := alloc_res ha hres
            have hp2 := hall (List.replicate (tH j).length none) (by simp)
            have hkb := I.makeNow X A hr hs hf' ha hk2
            have hlen : (tH (j + 1)).length = (tH j).length + 1 := by rw [hk2]; simp
            have hnone : m (tH j).length = none := by
              cases hb : m (tH j).length with
              | none => rfl
              | some L =>
                exfalso
                rcases I.dm _ L hb with h3 | ⟨i, h3, h4, h5, h6⟩
                · omega
                · rcases Nat.lt_trichotomy i j with h7 | h7 | h7
                  · have := A.le (i := i + 1) (j := j) (by omega) (by omega); omega
                  · subst h7
                    have := hr.not
                    rw [h4] at this
                    cases this
                  · have := A.le (i := j + 1) (j := i) (by omega) (by omega); omega
            obtain ⟨T, hT, hTo⟩ := I.masked hreg X A hr
            rw [← aRes_congr o.op hTo] at hp2
            refine res_sound hcall hp2 (I.vr.dead _) hT _ _ fun m1 v' w1 E R1 hv => ?_
            have hmap : ∃ L, m1 (tH j).length = some L := by
              rcases hk1.2 with h1 | ⟨n, c, h1⟩
              · rw [h1] at hv; obtain ⟨L, h2, _⟩ := VRel.ptr_inv hv; exact ⟨L, h2⟩
              · rw [h1] at hv; obtain ⟨L, _, _, h2, _⟩ := VRel.slice_inv hv; exact ⟨L, h2⟩
            obtain ⟨L, hL⟩ := hmap
            have hup : ∀ b L', m1 b = some L' → upd m (tH j).length L b = some L' ∧ b < (tH j).length + 1 := by
              intro b L' hb
              have h2 := (R1.dom b L' hb).1
              rw [List.length_append, List.length_replicate, List.length_singleton] at h2
              refine ⟨?_, h2⟩
              unfold upd
              by_cases hbl : b = (tH j).length
              · subst hbl; rw [if_pos rfl, ← hL]; exact hb
              · rw [if_neg hbl]
                rcases E.new b L' hb with h1 | ⟨h1, _⟩
                · exact (cutM_some h1).2
                · rw [List.length_replicate] at h1; omega
            have hblk : blk (List.replicate (tH j).length none ++ [some k]) (tH j).length = some k := by
              unfold blk
              rw [List.getElem?_append_right (by simp)]
              simp
            have hfresh : w.heap.size ≤ L.blk := by
              rcases E.new _ L hL with h1 | ⟨_, h1 | ⟨b0, L0, k0, _, h1, _⟩⟩
              · have := (cutM_some h1).1; omega
              · exact h1
              · rw [blk_dead] at h1; cases h1
            have hw : ∀ B, B < w.heap.size → w1.heap[B]? = w.heap[B]? := fun B hB => E.frame B hB fun b L k _ hk => by rw [blk_dead] at hk; cases hk
            have hmono : ∀ b L', m b = some L' → upd m (tH j).length L b = some L' := by
              intro b L' hb
              unfold upd
              rw [if_neg]
              · exact hb
              · intro he; rw [he, hnone] at hb; cases hb
            have hV := I.vr.alloc R1.below E.size hw (l := (tH j).length) (L := L) (k := k) (by have := A.le (i := j + 1) (j := ops.size) (by omega) (Nat.le_refl _); omega) hnone hkb hfresh (R1.dom _ L hL).2
              ((R1.blks _ L k hL hblk).mono fun b L' hb => cutM_of (hup b L' hb).2 (hup b L' hb).1)
            refine ih _ q _ _ w1 (I.mark hreg hr hE hmono (hv.mono fun b L' hb => (hup b L' hb).1) hV (fun b L' hb => ?_) h0 E.size hw) hfuel
            unfold upd at hb
            split at hb
            · rename_i he
              cases hb
              exact .inr ⟨by omega, by omega, hfresh⟩
            · exact .inl hb
theorem getD_replicate (n i : Nat) : (Array.replicate n false).getD i false = false := by
  unfold Array.getD
  split
  · simp
  · rfl
theorem draw_ok {P : Program} {call : CallF} (hcall : CallOK P call) : DrawOK P call := by
  intro ops hreg R T H K r h
  obtain ⟨tT, tH, sk, vl, h0, h1, X, _, hK⟩ := evD_inv ops (befL [] ops.toList) ops.toList 0 T H [] [] (fun j => by simp) h
  simp only [Array.length_toList, Nat.zero_add] at hK
  subst h0 h1
  refine ⟨_, _, hK, fun B0 w0 m a w Q R0 hT hd hq => ?_⟩
  have A : Along ops tT tH m := ⟨fun i d hd => (X.lens hcall R0 hT i d hd).1, fun d hd b k' hb hk => by
      have := (X.lens hcall R0 hT 0 d (by omega)).2 b k' hb (by rw [Nat.zero_add]; exact hk)
      exact this, fun j s x hj hx => X.bel hcall R0 hT hj s x hx, fun b L hb => (R0.dom b L hb).1⟩
  obtain ⟨q, _, hq1, hq2, hq3⟩ := nextE (ops := ops) (sk := sk) 0 ops.size (by omega)
  have hsame := X.same 0 q (by omega) (fun e h1 h2 => hq2 e h1 (by omega))
  rw [Nat.zero_add] at hsame
  have hle := A.le hq1 (Nat.le_refl _)
  refine Inv.any hcall hreg X A hq ops.size _ q m a w ⟨by simp, fun j o ho hD => (by have hD' : (Array.replicate ops.size false).getD j false = true := hD; rw [getD_replicate] at hD'; cases hD'), hq1, fun hlt => ⟨hq3 hlt, getD_replicate _ _⟩, fun e he hE => ?_, ?_, hd, ?_, fun b L hb => .inl (R0.dom b L hb).1, fun _ _ h => h, Nat.le_refl _, fun b L hb => .inl hb, fun _ _ _ => rfl⟩ ?_
  · have := hq2 e (Nat.zero_le _) he
    rw [hE] at this
    cases this
  · have e1 : svL ops vl (tT 0) (fun i => (Array.replicate ops.size false).getD i false) = tT 0 := by
      apply List.ext_getElem?
      intro s
      rcases Nat.lt_or_ge s (tT 0).length with hs | hs
      · have e2 : (svL ops vl (tT 0) (fun i => (Array.replicate ops.size false).getD i false))[s]? = some (AM.sv ops vl (tT 0) (fun i => (Array.replicate ops.size false).getD i false) ops.size s) := by
          unfold svL; rw [List.getElem?_map, List.getElem?_range hs]; rfl
        have e3 := sv_cut (ops := ops) (vl := vl) (T0 := tT 0) (D := fun i => (Array.replicate ops.size false).getD i false) (s := s) (i := 0) ops.size fun j _ _ _ => getD_replicate _ _
        rw [Nat.zero_add] at e3
        rw [e2, e3]
        unfold AM.sv
        rw [List.getD_eq_getElem?_getD, List.getElem?_eq_getElem hs]
        rfl
      · rw [List.getElem?_eq_none (by rw [svL_length]; exact hs), List.getElem?_eq_none hs]
    rw [e1]
    exact hT
  · have kb0 : ∀ b, b < (tH 0).length → kb tH ops.size q b = blk (tH 0) b := fun b hb => by rw [kb_lt (by omega)]; exact hsame.2 b hb
    have hcut : ∀ l, (tH 0).length ≤ l → ∀ b L, m b = some L → cutM m l b = some L := fun l hl b L hb => cutM_of (by have := (R0.dom b L hb).1; omega) hb
    refine ⟨R0.below, R0.hB, fun b L hb => ⟨by have := (R0.dom b L hb).1; omega, (R0.dom b L hb).2⟩, fun b L k hb hk => ?_, fun b1 b2 L1 L2 k1 k2 hm1 hm2 hk1 hk2 hne hbb => ?_⟩
    · rw [kb0 b (R0.dom b L hb).1] at hk
      exact (R0.blks b L k hb hk).mono (hcut _ (by omega))
    · rw [kb0 b1 (R0.dom b1 L1 hm1).1] at hk1
      rw [kb0 b2 (R0.dom b2 L2 hm2).1] at hk2
      exact R0.inj b1 b2 L1 L2 k1 k2 hm1 hm2 hk1 hk2 hne hbb
  · unfold left
    exact Nat.le_trans (List.length_filter_le _ _) (by simp)
end
/-- What the evaluator tells of a call, the machine comes to. -/
theorem run_ok {P : Program} (hmix : P.follows .mixedOrders = true) {tbs : FuncId → Tbl} {gv : Given} (hgv : GivenOK P gv) (k : Nat) : CallOK P (run P tbs gv k) := run_sound (fun _ h => draw_ok h) hmix hgv k
end Go.AM
set_option linter.unusedVariables false
set_option linter.unusedSimpArgs false
namespace Go.AM
open Go.ChangeShapes Go.WideShapes Go.Deep Go.RowKit
variable {P : Program}

structure Ro (P : Program) (W : World) (m : Mp) (H : AH) : Prop where
  rel : Rel P W.heap.size W m H W
  ro : ∀ b k, blk H b = some k → k.kind = .ro
def Sub (m m' : Mp) : Prop := ∀ b L, m b = some L → m' b = some L
theorem Sub.refl (m : Mp) : Sub m m := fun _ _ h => h
theorem Sub.trans {a b c : Mp} (h : Sub a b) (k : Sub b c) : Sub a c := fun x L hx => k x L (h x L hx)
theorem Ro.empty (W : World) : Ro P W (fun _ => none) [] :=
  ⟨⟨Below.refl _ _, Nat.le_refl _, fun _ _ h => (by cases h), fun _ _ _ h => (by cases h), fun _ _ _ _ _ _ h => (by cases h)⟩, fun b k h => (by simp [blk] at h)⟩
def SlOK (W : World) (cs : List Value) : Prop := ∀ a len cap, Value.slice (some a) len cap ∈ cs → a.spot = none ∧ ∃ c e fr, W.heap[a.block]? = some (.cells c e fr)

/-- One more that came in. -/
theorem Ro.add {W : World} {m : Mp} {H : AH} {ks : List Value} {e : TypeId} {bl base : Nat} {c : Array Value} {te : TypeId} {fr : Nat × Nat} (R : Ro P W m H) (hb : W.heap[bl]? = some (.cells c te fr))
    (hl : LRel m ks ((c.toList.drop base).take ks.length)) :
    ∃ m' : Mp, Sub m m' ∧ m' H.length = some ⟨bl, base, .ro, 0, 0⟩ ∧ Ro P W m' (mkB H ks e .ro) := by
  refine ⟨fun b => if b = H.length then some ⟨bl, base, .ro, 0, 0⟩ else m b, ?_, if_pos rfl, ?_⟩
  · intro b L h
    have := (R.rel.dom b L h).1
    show (if b = H.length then _ else m b) = _
    rw [if_neg (by omega)]; exact h
  have hsub : Sub m (fun b => if b = H.length then some ⟨bl, base, .ro, 0, 0⟩ else m b) := by
    intro b L h
    have := (R.rel.dom b L h).1
    show (if b = H.length then _ else m b) = _
    rw [if_neg (by omega)]; exact h
  have hro : ∀ b k, blk (mkB H ks e .ro) b = some k → k.kind = .ro := by
    intro b k h
    by_cases hbn : b < H.length
    · rw [blk_mkB_old hbn] at h; exact R.ro b k h
    · have := blk_lt h
      rw [length_mkB] at this
      have : b = H.length := by omega
      subst this
      rw [blk_mkB_new] at h; cases h; rfl
  refine ⟨⟨R.rel.below, R.rel.hB, ?_, ?_, ?_⟩, hro⟩
  · intro b L h
    replace h : (if b = H.length then some _ else m b) = some L := h
    rw [length_mkB]
    by_cases hb2 : b = H.length
    · rw [if_pos hb2] at h; cases h
      exact ⟨by omega, (Array.getElem?_eq_some_iff.1 hb).1⟩
    · rw [if_neg hb2] at h
      have := R.rel.dom b L h
      exact ⟨by omega, this.2⟩
  · intro b L k h hk
    replace h : (if b = H.length then some _ else m b) = some L := h
    by_cases hb2 : b = H.length
    · rw [if_pos hb2] at h; cases h
      subst hb2
      rw [blk_mkB_new] at hk; cases hk
      exact ⟨rfl, ⟨c, te, fr, hb, hl.mono hsub, fun hh => absurd rfl hh, fun hh => (by cases hh), fun hh => (by cases hh)⟩, fun hh => absurd rfl hh, fun hh => (by cases hh)⟩
    · rw [if_neg hb2] at h
      have hlt := (R.rel.dom b L h).1
      rw [blk_mkB_old hlt] at hk
      have h1 := R.rel.blks b L k h hk
      obtain ⟨c', e', fr', q1, q2, q3, q4, q5⟩ := h1.there
      exact ⟨h1.kind, ⟨c', e', fr', q1, q2.mono hsub, q3, q4, q5⟩, h1.own, h1.esz⟩
  · intro b1 b2 L1 L2 k1 k2 _ _ h1 _ hne _
    exact absurd (hro b1 k1 h1) hne

/-- A kind of datum over the abstract heap. -/
structure Kn (α : Type) where
  K : AH → α → List Value → Prop
  mono : ∀ {H H' : AH} {a : α} {cs : List Value}, Mo H H' → K H a cs → K H' a cs
def Kn.int (k : IntKind) : Kn Int := ⟨fun _ n cs => cs = [.int k n], fun _ h => h⟩
def Kn.bool : Kn Bool := ⟨fun _ n cs => cs = [.bool n], fun _ h => h⟩
def Kn.string : Kn ByteArray := ⟨fun _ n cs => cs = [.string n], fun _ h => h⟩
def Kn.pair {α β : Type} (a : Kn α) (b : Kn β) : Kn (α × β) :=
  ⟨fun H x cs => ∃ c d, cs = c ++ d ∧ a.K H x.1 c ∧ b.K H x.2 d, fun hm ⟨c, d, h, h1, h2⟩ => ⟨c, d, h, a.mono hm h1, b.mono hm h2⟩⟩
def Kn.unit : Kn Unit := ⟨fun _ _ cs => cs = [], fun _ h => h⟩
/-- A slice that came in. -/
def Kn.slice {α : Type} (e : TypeId) (sz : Nat) (d : Kn α) : Kn (List α) :=
  ⟨fun H l cs => (cs = [.slice none 0 0] ∧ l = []) ∨ ∃ (b : Nat) (css : List (List Value)), cs = [sl b 0 l.length (l.length + 1)] ∧ blk H b = some ⟨css.flatten, e, .ro⟩ ∧ css.length = l.length ∧ ∀ (i : Nat) (a : α) (c : List Value), l[i]? = some a → css[i]? = some c → c.length = sz ∧ d.K H a c,
   by
    intro H H' l cs hm h
    rcases h with h | ⟨b, css, h1, h2, h3, h4⟩
    · exact .inl h
    · exact .inr ⟨b, css, h1, hm _ _ h2, h3, fun i a c h5 h6 => ⟨(h4 i a c h5 h6).1, d.mono hm (h4 i a c h5 h6).2⟩⟩⟩
theorem LRel.one {m : Mp} {x y : Value} (h : VRel m x y) : LRel m [x] [y] := LRel.cons h (LRel.nil m)
/-- No slice among a type's cells. -/
def NoSl (P : Program) (t : TypeId) : Prop :=
  ∀ (Hh : Type) (enc : TypeId × Value → Hh) (W : World) (spare : Nat → Bool) (held : Bool) (fuel : Nat) (cs : List Value) (x : DataW Hh × List MemPlace), DataW.trod enc P W 0 spare held fuel t cs = some x → SlOK W cs
theorem noSl_int {t : TypeId} {k : IntKind} (ht : P.underlying t = some (.int k)) : NoSl P t := by
  intro Hh enc W spare held fuel cs x h
  obtain ⟨n, rfl, _, hw⟩ := DataW.trod_int ht h
  intro a l c hm; simp at hm
theorem noSl_string {t : TypeId} (ht : P.underlying t = some .string) : NoSl P t := by
  intro Hh enc W spare held fuel cs x h
  obtain ⟨n, rfl, _, hw⟩ := DataW.trod_string ht h
  intro a l c hm; simp at hm

theorem flatten_snoc {α : Type} (l : List (List α)) (x : List α) : (l ++ [x]).flatten = l.flatten ++ x := by simp
theorem slOK_cell {W : World} {base : Nat} {u : TypeId} {a : Addr} {len cap : Nat} (h : Cell.okWide P W .any base u (.slice (some a) len cap)) : a.spot = none ∧ ∃ c e fr, W.heap[a.block]? = some (.cells c e fr) := by
  have hc : ∃ e n, W.has P .any base a e n := by
    unfold Cell.okWide at h
    cases hu : P.underlying u with
    | none => rw [hu] at h; simp [Cell.ok, hu] at h
    | some D =>
      rw [hu] at h
      cases D <;> simp [Cell.ok, hu] at h
      exact ⟨_, _, h.2.2⟩
  obtain ⟨e, n, hh⟩ := hc
  obtain ⟨_, h1, row, cells, h2, _⟩ := hh
  refine ⟨h1, ?_⟩
  unfold World.shape? at h2
  split at h2
  · rename_i c' e' fr' hb; exact ⟨c', e', fr', hb⟩
  · cases h2
theorem slOK_of {W : World} {base : Nat} {t : TypeId} {v : Value} (h : Value.okWide P W .any base t v) : SlOK W v.cells.toList := by
  intro a len cap hm
  have key : (∃ u, Cell.okWide P W .any base u (.slice (some a) len cap)) := by
    unfold Value.okWide at h
    split at h
    · obtain ⟨cs, rfl, _, ts, _, _, hr⟩ := h
      obtain ⟨i, hi⟩ := List.getElem?_of_mem hm
      obtain ⟨u, _, hu⟩ := hr i _ (by simpa [Value.cells] using hi)
      exact ⟨u, hu⟩
    · obtain ⟨cs, rfl, _, ts, _, _, hr⟩ := h
      obtain ⟨i, hi⟩ := List.getElem?_of_mem hm
      obtain ⟨u, _, hu⟩ := hr i _ (by simpa [Value.cells] using hi)
      exact ⟨u, hu⟩
    · cases v with
      | agg cs =>
        exfalso
        unfold Cell.okWide at h
        cases hu : P.underlying t with
        | none => rw [hu] at h; simp [Cell.ok, hu] at h
        | some D => rw [hu] at h; cases D <;> simp [Cell.ok, hu] at h
      | slice p l c =>
        simp [Value.cells] at hm
        obtain ⟨rfl, rfl, rfl⟩ := hm
        exact ⟨t, h⟩
      | _ => simp [Value.cells] at hm
  obtain ⟨u, hu⟩ := key
  exact slOK_cell hu
def KvS {α : Type} (d : Kn α) (H : AH) (a : α) (v : Value) : Prop := ∃ cs, v = .agg cs.toArray ∧ d.K H a cs
def KvC {α : Type} (d : Kn α) (H : AH) (a : α) (v : Value) : Prop := d.K H a [v]
/-- Behind a call: nothing that was there is another. -/
theorem walk_of {W : World} {f : FuncId} {args vs : List Value} {m : Mp} {H H' : AH} {v : Value} {call : CallF} (hc : CallOK P call) (R : Ro P W m H) (hl : LRel m args vs) (h : call f args H = some (v, H')) (hf : flat1 v = true) :
    Calls P f vs.toArray W fun e W' => e = .returned v ∧ Below W.heap.size W W' := by
  refine ((hc f args H v H' h).2 W.heap.size W m W vs R.rel hl).mono fun e w' ⟨m', v', he, hv, hr, _⟩ => ?_
  rw [VRel.flat_inv hf hv] at he
  exact ⟨he, hr.below⟩
end Go.AM
set_option linter.unusedVariables false
set_option linter.unusedSimpArgs false
set_option maxRecDepth 100000
namespace Go.AM.N
open Go Go.AM Go.Proofs
attribute [local irreducible] run bin un ld st box newV mkS fldA fld ixA ix slc slc3 build buildS cv cvS ap cpy lenV gOp pickV b2 aIf aChk evalK resume iterD Option.bind

abbrev KStrs := Kn.slice 9 1 Kn.string
theorem strs_open {H : AH} {l : List ByteArray} {m : Value} (h : KStrs.K H l [m]) : FL H m str (l.map fun s => s.data.toList) := by
  rcases h with ⟨h1, rfl⟩ | ⟨b, css, h1, h2, h3, h4⟩
  · cases h1; exact FL.nil
  · cases h1
    have hl : (l.map fun s => s.data.toList).length = l.length := List.length_map ..
    refine ⟨.inr ⟨b, 0, l.length + 1, by rw [hl], by omega, by simp, ?_⟩⟩
    right
    refine ⟨_, h2, ?_⟩
    have e : css.flatten = (l.map fun s => s.data.toList).map str := by
      have : css = l.map fun s => [Value.string s] := by
        apply List.ext_getElem?
        intro i
        by_cases hi : i < l.length
        · rw [List.getElem?_map, List.getElem?_eq_getElem hi, List.getElem?_eq_getElem (by omega)]
          have := (h4 i _ _ (List.getElem?_eq_getElem hi) (List.getElem?_eq_getElem (by omega))).2
          exact congrArg some this
        · rw [List.getElem?_eq_none (by omega), List.getElem?_eq_none (by simp; omega)]
      rw [this, List.map_map]
      clear this h2 h3 h4
      induction l with
      | nil => rfl
      | cons a l ih =>
        simp only [List.map_cons, List.flatten_cons, List.cons_append, List.nil_append, Function.comp]
        rw [ih (by simp)]
    rw [e]
    unfold rdN
    rw [if_pos (by simp), List.drop_zero, List.take_of_length_le (by simp)]
abbrev KInts := Kn.slice 3 1 (Kn.int .i64)
theorem ints_open {H : AH} {l : List Int} {m : Value} (h : KInts.K H l [m]) : FL H m i64v l := by
  rcases h with ⟨h1, rfl⟩ | ⟨b, css, h1, h2, h3, h4⟩
  · cases h1; exact FL.nil
  · cases h1
    refine ⟨.inr ⟨b, 0, l.length + 1, rfl, by omega, by simp, ?_⟩⟩
    right
    refine ⟨_, h2, ?_⟩
    have e : css.flatten = l.map i64v := by
      have : css = l.map fun s => [Value.int .i64 s] := by
        apply List.ext_getElem?
        intro i
        by_cases hi : i < l.length
        · rw [List.getElem?_map, List.getElem?_eq_getElem hi, List.getElem?_eq_getElem (by omega)]
          have := (h4 i _ _ (List.getElem?_eq_getElem hi) (List.getElem?_eq_getElem (by omega))).2
          exact congrArg some this
        · rw [List.getElem?_eq_none (by omega), List.getElem?_eq_none (by simp; omega)]
      rw [this]
      clear this h2 h3 h4
      induction l with
      | nil => rfl
      | cons a l ih =>
        simp only [List.map_cons, List.flatten_cons, List.cons_append, List.nil_append]
        rw [ih]
    rw [e]
    unfold rdN
    rw [if_pos (by simp), List.drop_zero, List.take_of_length_le (by simp)]
theorem An.tt {B H : AH} {g : Nat → Nat → Option (Value × AH)} (h : Ev g (An B H fun _ v => v = .bool true)) : Ev g (fun r => r.1 = .bool true) := h.mono fun r ⟨_, _, _, _, e⟩ => e
end Go.AM.N
set_option linter.unusedVariables false
set_option linter.unusedSimpArgs false
set_option maxRecDepth 100000
namespace Go.AM.N
open Go Go.AM Go.Proofs
attribute [local irreducible] run bin un ld st box newV mkS fldA fld ixA ix slc slc3 build buildS cv cvS ap cpy lenV gOp pickV b2 aIf aChk evalK resume iterD Option.bind

theorem encB_length : ∀ (ks : List (List UInt8)) (cs : List Int), ks.length = cs.length → (encB ks cs).length = sumK ks + 2 * cs.length
  | [], [], _ => rfl
  | [], _ :: _, h => by simp at h
  | _ :: _, [], h => by simp at h
  | k :: r, c :: s, h => by
    have := encB_length r s (by simpa using h)
    simp only [encB, sumK, kid2, List.length_cons, List.length_append, List.length_map, List.length_nil]
    omega
theorem encN_length {n : Nd} (R : RtN n) : (encN n).length = sizeN n := by
  unfold encN encL sizeN
  rw [List.length_map]
  have hl := R.len
  cases h : n.leaf with
  | true =>
    rw [h] at hl
    simp only [if_true] at hl ⊢
    rw [List.length_cons, encB_length _ _ (by omega)]; omega
  | false =>
    rw [h] at hl
    simp only [Bool.false_eq_true, if_false] at hl ⊢
    cases hc : n.kids with
    | nil => rw [hc] at hl; simp at hl
    | cons c cs =>
      rw [hc] at hl
      simp only [List.length_cons] at hl
      simp only [List.length_cons, List.length_append, kid2, List.length_nil, List.tail_cons]
      rw [encB_length _ _ (by omega)]; omega
end Go.AM.N
set_option linter.unusedVariables false
set_option linter.unusedSimpArgs false
set_option maxRecDepth 100000
namespace Go.AM.N
open Go Go.AM Go.Proofs
attribute [local irreducible] run bin un ld st box newV mkS fldA fld ixA ix slc slc3 build buildS cv cvS ap cpy lenV gOp pickV b2 aIf aChk evalK resume iterD Option.bind

section
variable {B B0 H0 H : AH} {kv cv : Value} {ks : List (List UInt8)} {cs : List Int} {lf : Bool}
theorem rsize_loop {b : Nat} (hS : St H0 B0 B [(b, ⟨[.bool lf, kv, cv], 33, .fix⟩)] H) (hk : FL B kv str ks) (hc : FL B cv i64v cs) (hlen : ks.length < 4611686018427387904) :
    ∀ (m i s : Nat), i + m = ks.length → s + sumK (ks.drop i) < 9223372036854775808 → Ev (fun k n => f21_L0 k (ptr b 0) (i64 s) (i64 i) n H) (fun o => o = (.exit 0, f21_X_L0 (i64 (s + sumK (ks.drop i))), H)) := by
  intro m
  induction m with
  | zero =>
    intro i s hi hs
    refine Ev.succ (fun k n => f21_L0_succ k _ _ _ n H) ?_
    repeat (first | refine Ev.s ?_ | refine Ev.newC fun _ _ _ => ?_ | refine Ev.boxC fun _ _ _ => ?_ | refine Ev.stC fun _ _ => ?_ | refine Ev.sc (by omega) ?_ | refine Ev.scg (by omega) ?_)
    rw [decide_eq_false (by omega), List.drop_of_length_le (by omega)]
    repeat (first | refine Ev.s ?_ | refine Ev.newC fun _ _ _ => ?_ | refine Ev.boxC fun _ _ _ => ?_ | refine Ev.stC fun _ _ => ?_ | refine Ev.sc (by omega) ?_ | refine Ev.scg (by omega) ?_)
    exact Ev.ret rfl
  | succ m ih =>
    intro i s hi hs
    refine Ev.succ (fun k n => f21_L0_succ k _ _ _ n H) ?_
    obtain ⟨a, ha⟩ := get_ex (l := ks) (i := i) (by omega)
    rw [drop_cons ha, sumK] at hs ⊢
    repeat (first | refine Ev.s ?_ | refine Ev.newC fun _ _ _ => ?_ | refine Ev.boxC fun _ _ _ => ?_ | refine Ev.stC fun _ _ => ?_ | refine Ev.sc (by omega) ?_ | refine Ev.scg (by omega) ?_)
    rw [decide_eq_true (by omega)]
    repeat (first | refine Ev.s ?_ | refine Ev.newC fun _ _ _ => ?_ | refine Ev.boxC fun _ _ _ => ?_ | refine Ev.stC fun _ _ => ?_ | refine Ev.sc (by omega) ?_ | refine Ev.scg (by omega) ?_)
    refine Ev.ixF i rfl ha fun p hp => ?_
    repeat (first | refine Ev.s ?_ | refine Ev.newC fun _ _ _ => ?_ | refine Ev.boxC fun _ _ _ => ?_ | refine Ev.stC fun _ _ => ?_ | refine Ev.sc (by omega) ?_ | refine Ev.scg (by omega) ?_)
    have := ih (i + 1) (s + 1 + a.length) (by omega) (by omega)
    rw [show s + 1 + a.length + sumK (ks.drop (i + 1)) = s + (1 + a.length + sumK (ks.drop (i + 1))) by omega] at this
    exact this
theorem rSize_spec [ha : FT B kv str ks] [hb : FT B cv i64v cs] (hl : sizeN ⟨lf, ks, cs⟩ < 4611686018427387904) (hL : Le B H) : Ev (fun k _ => rn k 21 [NdA lf kv cv] H) (An B H fun _ v => v = i64 (sizeN ⟨lf, ks, cs⟩)) := by
  refine Ev.fn (fun k => f21_eq k _ H) ?_
  have hS := St.start hL
  have ha := ha.fl
  have hb := hb.fl
  have hsl := sumK_len ks
  unfold sizeN at *
  simp only at hl ⊢
  repeat (first | refine Ev.s ?_ | refine Ev.newC fun _ _ _ => ?_ | refine Ev.boxC fun _ _ _ => ?_ | refine Ev.stC fun _ _ => ?_ | refine Ev.sc (by omega) ?_ | refine Ev.scg (by omega) ?_)
  refine Ev.bind (Ev.loop (rsize_loop (ks := ks) (cs := cs) (by assumption) ha hb (by omega) ks.length 0 _ (by omega) (by rw [List.drop_zero]; omega))) ?_
  rintro _ rfl
  refine Ev.eq (fun k _ => f21_A0_x0 k _ _) ?_
  exact Ev.doneC (by rw [List.drop_zero])
def lastK (ks : List (List UInt8)) (i : Nat) : List UInt8 := if i = 0 then [] else ks.getD (i - 1) []
theorem plain_loop {b : Nat} (hS : St H0 B0 B [(b, ⟨[.bool lf, kv, cv], 33, .fix⟩)] H) (hk : FL B kv str ks) (hc : FL B cv i64v cs) (hlen : ks.length < 4611686018427387904) :
    ∀ (m i : Nat), i + m = ks.length → Ev (fun k n => f26_L0 k (ptr b 0) (i64 i) n H)
      (fun o => (incr (lastK ks i) (ks.drop i) = true ∧ o = (.exit 0, f26_X_L0 (ptr b 0) unk, H)) ∨ (incr (lastK ks i) (ks.drop i) = false ∧ o = (.ret, f26_X_L0 (ptr b 0) (.bool false), H))) := by
  intro m
  induction m with
  | zero =>
    intro i hi
    refine Ev.succ (fun k n => f26_L0_succ k _ _ n H) ?_
    repeat (first | refine Ev.s ?_ | refine Ev.newC fun _ _ _ => ?_ | refine Ev.boxC fun _ _ _ => ?_ | refine Ev.stC fun _ _ => ?_ | refine Ev.sc (by omega) ?_ | refine Ev.scg (by omega) ?_)
    rw [decide_eq_false (by omega), List.drop_of_length_le (by omega)]
    repeat (first | refine Ev.s ?_ | refine Ev.newC fun _ _ _ => ?_ | refine Ev.boxC fun _ _ _ => ?_ | refine Ev.stC fun _ _ => ?_ | refine Ev.sc (by omega) ?_ | refine Ev.scg (by omega) ?_)
    exact Ev.ret (Or.inl ⟨rfl, rfl⟩)
  | succ m ih =>
    intro i hi
    refine Ev.succ (fun k n => f26_L0_succ k _ _ n H) ?_
    obtain ⟨a, ha⟩ := get_ex (l := ks) (i := i) (by omega)
    have ih := ih (i + 1) (by omega)
    have el : lastK ks (i + 1) = a := by
      unfold lastK
      rw [if_neg (by omega), Nat.add_sub_cancel, List.getD_eq_getElem?_getD, ha]; rfl
    rw [el] at ih
    rw [drop_cons ha, incr]
    repeat (first | refine Ev.s ?_ | refine Ev.newC fun _ _ _ => ?_ | refine Ev.boxC fun _ _ _ => ?_ | refine Ev.stC fun _ _ => ?_ | refine Ev.sc (by omega) ?_ | refine Ev.scg (by omega) ?_)
    rw [decide_eq_true (show i < ks.length by omega)]
    repeat (first | refine Ev.s ?_ | refine Ev.newC fun _ _ _ => ?_ | refine Ev.boxC fun _ _ _ => ?_ | refine Ev.stC fun _ _ => ?_ | refine Ev.sc (by omega) ?_ | refine Ev.scg (by omega) ?_)
    refine Ev.ixF i rfl ha fun p hp => ?_
    repeat (first | refine Ev.s ?_ | refine Ev.newC fun _ _ _ => ?_ | refine Ev.boxC fun _ _ _ => ?_ | refine Ev.stC fun _ _ => ?_ | refine Ev.sc (by omega) ?_ | refine Ev.scg (by omega) ?_)
    by_cases h1 : a.length < 1
    · rw [decide_eq_true h1]
      repeat (first | refine Ev.s ?_ | refine Ev.newC fun _ _ _ => ?_ | refine Ev.boxC fun _ _ _ => ?_ | refine Ev.stC fun _ _ => ?_ | refine Ev.sc (by omega) ?_ | refine Ev.scg (by omega) ?_)
      have ea : a = [] := List.length_eq_zero_iff.mp (by omega)
      subst ea
      refine Ev.ret (Or.inr ⟨?_, rfl⟩)
      have : slt (lastK ks i) [] = false := by cases lastK ks i <;> rfl
      rw [this]; rfl
    · rw [decide_eq_false h1]
      repeat (first | refine Ev.s ?_ | refine Ev.newC fun _ _ _ => ?_ | refine Ev.boxC fun _ _ _ => ?_ | refine Ev.stC fun _ _ => ?_ | refine Ev.sc (by omega) ?_ | refine Ev.scg (by omega) ?_)
      by_cases h2 : a.length ≤ 16
      · rw [decide_eq_false (show ¬ 16 < a.length by omega), decide_eq_true h2, Bool.and_true]
        repeat (first | refine Ev.s ?_ | refine Ev.newC fun _ _ _ => ?_ | refine Ev.boxC fun _ _ _ => ?_ | refine Ev.stC fun _ _ => ?_ | refine Ev.sc (by omega) ?_ | refine Ev.scg (by omega) ?_)
        by_cases h0 : i = 0
        · subst h0
          rw [show decide (0 < (0 : Nat)) = false from rfl]
          repeat (first | refine Ev.s ?_ | refine Ev.newC fun _ _ _ => ?_ | refine Ev.boxC fun _ _ _ => ?_ | refine Ev.stC fun _ _ => ?_ | refine Ev.sc (by omega) ?_ | refine Ev.scg (by omega) ?_)
          have : slt (lastK ks 0) a = true := slt_nil (by omega)
          rw [this, Bool.true_and]
          exact ih
        · rw [decide_eq_true (show 0 < i by omega)]
          obtain ⟨a0, ha0⟩ := get_ex (l := ks) (i := i - 1) (by omega)
          have el0 : lastK ks i = a0 := by
            unfold lastK
            rw [if_neg h0, List.getD_eq_getElem?_getD, ha0]; rfl
          rw [el0]
          repeat (first | refine Ev.s ?_ | refine Ev.newC fun _ _ _ => ?_ | refine Ev.boxC fun _ _ _ => ?_ | refine Ev.stC fun _ _ => ?_ | refine Ev.sc (by omega) ?_ | refine Ev.scg (by omega) ?_)
          refine Ev.ixFg (i - 1) rfl ha0 fun q hq => ?_
          repeat (first | refine Ev.s ?_ | refine Ev.newC fun _ _ _ => ?_ | refine Ev.boxC fun _ _ _ => ?_ | refine Ev.stC fun _ _ => ?_ | refine Ev.sc (by omega) ?_ | refine Ev.scg (by omega) ?_)
          cases hs : slt a0 a with
          | true =>
            rw [Bool.not_true]
            repeat (first | refine Ev.s ?_ | refine Ev.newC fun _ _ _ => ?_ | refine Ev.boxC fun _ _ _ => ?_ | refine Ev.stC fun _ _ => ?_ | refine Ev.sc (by omega) ?_ | refine Ev.scg (by omega) ?_)
            rw [Bool.true_and]
            exact ih
          | false =>
            rw [Bool.not_false]
            repeat (first | refine Ev.s ?_ | refine Ev.newC fun _ _ _ => ?_ | refine Ev.boxC fun _ _ _ => ?_ | refine Ev.stC fun _ _ => ?_ | refine Ev.sc (by omega) ?_ | refine Ev.scg (by omega) ?_)
            exact Ev.ret (Or.inr ⟨rfl, rfl⟩)
      · rw [decide_eq_true (show 16 < a.length by omega), decide_eq_false h2]
        repeat (first | refine Ev.s ?_ | refine Ev.newC fun _ _ _ => ?_ | refine Ev.boxC fun _ _ _ => ?_ | refine Ev.stC fun _ _ => ?_ | refine Ev.sc (by omega) ?_ | refine Ev.scg (by omega) ?_)
        exact Ev.ret (Or.inr ⟨by simp, rfl⟩)
theorem plainC_loop {b : Nat} (hS : St H0 B0 B [(b, ⟨[.bool lf, kv, cv], 33, .fix⟩)] H) (hk : FL B kv str ks) (hc : FL B cv i64v cs) (hlen : cs.length < 4611686018427387904) :
    ∀ (m i : Nat), i + m = cs.length → Ev (fun k n => f26_L1 k (ptr b 0) (i64 i) n H)
      (fun o => ((cs.drop i).any bad = false ∧ o = (.exit 2, f26_X_L1 unk, H)) ∨ ((cs.drop i).any bad = true ∧ o = (.ret, f26_X_L1 (.bool false), H))) := by
  intro m
  induction m with
  | zero =>
    intro i hi
    refine Ev.succ (fun k n => f26_L1_succ k _ _ n H) ?_
    repeat (first | refine Ev.s ?_ | refine Ev.newC fun _ _ _ => ?_ | refine Ev.boxC fun _ _ _ => ?_ | refine Ev.stC fun _ _ => ?_ | refine Ev.sc (by omega) ?_ | refine Ev.scg (by omega) ?_)
    rw [decide_eq_false (by omega), List.drop_of_length_le (by omega)]
    repeat (first | refine Ev.s ?_ | refine Ev.newC fun _ _ _ => ?_ | refine Ev.boxC fun _ _ _ => ?_ | refine Ev.stC fun _ _ => ?_ | refine Ev.sc (by omega) ?_ | refine Ev.scg (by omega) ?_)
    exact Ev.ret (Or.inl ⟨rfl, rfl⟩)
  | succ m ih =>
    intro i hi
    refine Ev.succ (fun k n => f26_L1_succ k _ _ n H) ?_
    obtain ⟨a, ha⟩ := get_ex (l := cs) (i := i) (by omega)
    have ih := ih (i + 1) (by omega)
    rw [drop_cons ha, List.any_cons]
    repeat (first | refine Ev.s ?_ | refine Ev.newC fun _ _ _ => ?_ | refine Ev.boxC fun _ _ _ => ?_ | refine Ev.stC fun _ _ => ?_ | refine Ev.sc (by omega) ?_ | refine Ev.scg (by omega) ?_)
    rw [decide_eq_true (show i < cs.length by omega)]
    repeat (first | refine Ev.s ?_ | refine Ev.newC fun _ _ _ => ?_ | refine Ev.boxC fun _ _ _ => ?_ | refine Ev.stC fun _ _ => ?_ | refine Ev.sc (by omega) ?_ | refine Ev.scg (by omega) ?_)
    refine Ev.ixF i rfl ha fun p hp => ?_
    repeat (first | refine Ev.s ?_ | refine Ev.newC fun _ _ _ => ?_ | refine Ev.boxC fun _ _ _ => ?_ | refine Ev.stC fun _ _ => ?_ | refine Ev.sc (by omega) ?_ | refine Ev.scg (by omega) ?_)
    by_cases h1 : a < 2
    · have hb : bad a = true := by unfold bad; rw [decide_eq_true h1]; rfl
      rw [decide_eq_true h1, hb]
      repeat (first | refine Ev.s ?_ | refine Ev.newC fun _ _ _ => ?_ | refine Ev.boxC fun _ _ _ => ?_ | refine Ev.stC fun _ _ => ?_ | refine Ev.sc (by omega) ?_ | refine Ev.scg (by omega) ?_)
      exact Ev.ret (Or.inr ⟨rfl, rfl⟩)
    · rw [decide_eq_false h1]
      repeat (first | refine Ev.s ?_ | refine Ev.newC fun _ _ _ => ?_ | refine Ev.boxC fun _ _ _ => ?_ | refine Ev.stC fun _ _ => ?_ | refine Ev.sc (by omega) ?_ | refine Ev.scg (by omega) ?_)
      refine Ev.ixFg i rfl ha fun q hq => ?_
      repeat (first | refine Ev.s ?_ | refine Ev.newC fun _ _ _ => ?_ | refine Ev.boxC fun _ _ _ => ?_ | refine Ev.stC fun _ _ => ?_ | refine Ev.sc (by omega) ?_ | refine Ev.scg (by omega) ?_)
      by_cases h2 : 511 < a
      · have hb : bad a = true := by unfold bad; rw [decide_eq_true h2, Bool.or_true]
        rw [decide_eq_true h2, hb]
        repeat (first | refine Ev.s ?_ | refine Ev.newC fun _ _ _ => ?_ | refine Ev.boxC fun _ _ _ => ?_ | refine Ev.stC fun _ _ => ?_ | refine Ev.sc (by omega) ?_ | refine Ev.scg (by omega) ?_)
        exact Ev.ret (Or.inr ⟨rfl, rfl⟩)
      · have hb : bad a = false := by unfold bad; rw [decide_eq_false h1, decide_eq_false h2]; rfl
        rw [decide_eq_false h2, hb, Bool.false_or]
        repeat (first | refine Ev.s ?_ | refine Ev.newC fun _ _ _ => ?_ | refine Ev.boxC fun _ _ _ => ?_ | refine Ev.stC fun _ _ => ?_ | refine Ev.sc (by omega) ?_ | refine Ev.scg (by omega) ?_)
        exact ih
theorem plain_end {b : Nat} (hS : St H0 B0 B [(b, ⟨[.bool lf, kv, cv], 33, .fix⟩)] H) (hk : FL B kv str ks) (hc : FL B cv i64v cs) (hlk : ks.length < 4611686018427387904) (hlc : cs.length < 4611686018427387904) :
    Ev (fun k _ => (f26_L0 k (ptr b 0) (.int .i64 0) k H).bind fun p => f26_A0 k p.1 p.2.1 p.2.2) (An B0 H0 fun _ v => v = .bool (incr [] ks && !cs.any bad)) := by
  refine Ev.bind (Ev.loop (plain_loop (ks := ks) (cs := cs) hS hk hc hlk ks.length 0 (by omega))) ?_
  rw [List.drop_zero, show lastK ks 0 = [] from rfl]
  rintro _ (⟨h1, rfl⟩ | ⟨h1, rfl⟩)
  · refine Ev.eq (fun k _ => f26_A0_x0 k _ _ _) ?_
    refine Ev.bind (Ev.loop (plainC_loop (ks := ks) (cs := cs) hS hk hc hlc cs.length 0 (by omega))) ?_
    rw [List.drop_zero]
    rintro _ (⟨h2, rfl⟩ | ⟨h2, rfl⟩)
    · refine Ev.eq (fun k _ => f26_A1_x2 k _ _) ?_
      exact Ev.ret (hS.an (by rw [h1, h2]; rfl))
    · refine Ev.eq (fun k _ => f26_A1_ret k _ _) ?_
      exact Ev.ret (hS.an (by rw [h1, h2]; rfl))
  · refine Ev.eq (fun k _ => f26_A0_ret k _ _ _) ?_
    exact Ev.ret (hS.an (by rw [h1]; rfl))
theorem Plain_spec [ha : FT B kv str ks] [hb : FT B cv i64v cs] (hlk : ks.length < 4611686018427387904) (hlc : cs.length < 4611686018427387904) (hL : Le B H) : Ev (fun k _ => rn k 26 [NdA lf kv cv] H) (An B H fun _ v => v = .bool (plainN ⟨lf, ks, cs⟩)) := by
  refine Ev.fn (fun k => f26_eq k _ H) ?_
  have hS := St.start hL
  have ha := ha.fl
  have hb := hb.fl
  unfold plainN
  simp only
  refine Ev.boxC fun b H1 hS1 => ?_
  have hend := plain_end (lf := lf) (ks := ks) (cs := cs) hS1 ha hb hlk hlc
  clear hS
  cases hlf : lf <;> subst hlf
  · repeat (first | refine Ev.s ?_ | refine Ev.newC fun _ _ _ => ?_ | refine Ev.boxC fun _ _ _ => ?_ | refine Ev.stC fun _ _ => ?_ | refine Ev.sc (by omega) ?_ | refine Ev.scg (by omega) ?_)
    try rw [Bool.not_false]
    repeat (first | refine Ev.s ?_ | refine Ev.newC fun _ _ _ => ?_ | refine Ev.boxC fun _ _ _ => ?_ | refine Ev.stC fun _ _ => ?_ | refine Ev.sc (by omega) ?_ | refine Ev.scg (by omega) ?_)
    by_cases h : cs.length = ks.length + 1
    · rw [decide_eq_false (fun hh => hh h), if_neg (by simp), decide_eq_true h]
      repeat (first | refine Ev.s ?_ | refine Ev.newC fun _ _ _ => ?_ | refine Ev.boxC fun _ _ _ => ?_ | refine Ev.stC fun _ _ => ?_ | refine Ev.sc (by omega) ?_ | refine Ev.scg (by omega) ?_)
      rw [Bool.true_and]
      exact hend
    · rw [decide_eq_true (show cs.length ≠ ks.length + 1 from h), if_neg (by simp), decide_eq_false h]
      repeat (first | refine Ev.s ?_ | refine Ev.newC fun _ _ _ => ?_ | refine Ev.boxC fun _ _ _ => ?_ | refine Ev.stC fun _ _ => ?_ | refine Ev.sc (by omega) ?_ | refine Ev.scg (by omega) ?_)
      exact Ev.doneC rfl
  · repeat (first | refine Ev.s ?_ | refine Ev.newC fun _ _ _ => ?_ | refine Ev.boxC fun _ _ _ => ?_ | refine Ev.stC fun _ _ => ?_ | refine Ev.sc (by omega) ?_ | refine Ev.scg (by omega) ?_)
    by_cases h : cs.length = ks.length
    · rw [decide_eq_false (fun hh => hh h), if_pos rfl, Nat.add_zero, decide_eq_true h]
      repeat (first | refine Ev.s ?_ | refine Ev.newC fun _ _ _ => ?_ | refine Ev.boxC fun _ _ _ => ?_ | refine Ev.stC fun _ _ => ?_ | refine Ev.sc (by omega) ?_ | refine Ev.scg (by omega) ?_)
      try rw [Bool.not_true]
      repeat (first | refine Ev.s ?_ | refine Ev.newC fun _ _ _ => ?_ | refine Ev.boxC fun _ _ _ => ?_ | refine Ev.stC fun _ _ => ?_ | refine Ev.sc (by omega) ?_ | refine Ev.scg (by omega) ?_)
      rw [Bool.true_and]
      exact hend
    · rw [decide_eq_true (show cs.length ≠ ks.length from h), if_pos rfl, Nat.add_zero, decide_eq_false h]
      repeat (first | refine Ev.s ?_ | refine Ev.newC fun _ _ _ => ?_ | refine Ev.boxC fun _ _ _ => ?_ | refine Ev.stC fun _ _ => ?_ | refine Ev.sc (by omega) ?_ | refine Ev.scg (by omega) ?_)
      exact Ev.doneC rfl
theorem rRight_nspec [ha : FT B kv str ks] [hb : FT B cv i64v cs] (hl : sizeN ⟨lf, ks, cs⟩ < 4611686018427387904) (hL : Le B H) : Ev (fun k _ => rn k 19 [NdA lf kv cv] H) (An B H fun _ v => v = .bool (rightN ⟨lf, ks, cs⟩)) := by
  refine Ev.fn (fun k => f19_eq k _ H) ?_
  have hS := St.start hL
  have ha := ha.fl
  have hb := hb.fl
  have hsl := sumK_len ks
  have hl' := hl
  unfold sizeN at hl'
  simp only at hl'
  repeat (first | refine Ev.s ?_ | refine Ev.newC fun _ _ _ => ?_ | refine Ev.boxC fun _ _ _ => ?_ | refine Ev.stC fun _ _ => ?_ | refine Ev.sc (by omega) ?_ | refine Ev.scg (by omega) ?_)
  refine Ev.callD (Plain_spec (lf := lf) (ks := ks) (cs := cs) (by omega) (by omega)) fun v1 B1 H1 hm1 hS1 h1 => ?_
  subst h1
  have hk1 := ha.mono hm1.mo
  have hc1 := hb.mono hm1.mo
  clear ha hb hS
  unfold rightN
  cases hp : plainN ⟨lf, ks, cs⟩ with
  | false =>
    repeat (first | refine Ev.s ?_ | refine Ev.newC fun _ _ _ => ?_ | refine Ev.boxC fun _ _ _ => ?_ | refine Ev.stC fun _ _ => ?_ | refine Ev.sc (by omega) ?_ | refine Ev.scg (by omega) ?_)
    exact Ev.doneC rfl
  | true =>
    simp only
    cases hlf : lf <;> subst hlf
    · repeat (first | refine Ev.s ?_ | refine Ev.newC fun _ _ _ => ?_ | refine Ev.boxC fun _ _ _ => ?_ | refine Ev.stC fun _ _ => ?_ | refine Ev.sc (by omega) ?_ | refine Ev.scg (by omega) ?_)
      try rw [Bool.not_false]
      repeat (first | refine Ev.s ?_ | refine Ev.newC fun _ _ _ => ?_ | refine Ev.boxC fun _ _ _ => ?_ | refine Ev.stC fun _ _ => ?_ | refine Ev.sc (by omega) ?_ | refine Ev.scg (by omega) ?_)
      refine Ev.callD (rSize_spec (lf := false) (ks := ks) (cs := cs) hl) fun v2 B2 H2 hm2 hS2 h2 => ?_
      subst h2
      repeat (first | refine Ev.s ?_ | refine Ev.newC fun _ _ _ => ?_ | refine Ev.boxC fun _ _ _ => ?_ | refine Ev.stC fun _ _ => ?_ | refine Ev.sc (by omega) ?_ | refine Ev.scg (by omega) ?_)
      exact Ev.doneC (by simp)
    · repeat (first | refine Ev.s ?_ | refine Ev.newC fun _ _ _ => ?_ | refine Ev.boxC fun _ _ _ => ?_ | refine Ev.stC fun _ _ => ?_ | refine Ev.sc (by omega) ?_ | refine Ev.scg (by omega) ?_)
      try rw [Bool.not_true]
      repeat (first | refine Ev.s ?_ | refine Ev.newC fun _ _ _ => ?_ | refine Ev.boxC fun _ _ _ => ?_ | refine Ev.stC fun _ _ => ?_ | refine Ev.sc (by omega) ?_ | refine Ev.scg (by omega) ?_)
      by_cases h0 : 0 < ks.length
      · rw [decide_eq_true h0]
        repeat (first | refine Ev.s ?_ | refine Ev.newC fun _ _ _ => ?_ | refine Ev.boxC fun _ _ _ => ?_ | refine Ev.stC fun _ _ => ?_ | refine Ev.sc (by omega) ?_ | refine Ev.scg (by omega) ?_)
        refine Ev.callD (rSize_spec (lf := true) (ks := ks) (cs := cs) hl) fun v2 B2 H2 hm2 hS2 h2 => ?_
        subst h2
        repeat (first | refine Ev.s ?_ | refine Ev.newC fun _ _ _ => ?_ | refine Ev.boxC fun _ _ _ => ?_ | refine Ev.stC fun _ _ => ?_ | refine Ev.sc (by omega) ?_ | refine Ev.scg (by omega) ?_)
        have : decide (ks.length = 0) = false := decide_eq_false (by omega)
        exact Ev.doneC (by rw [this]; simp)
      · rw [decide_eq_false h0]
        repeat (first | refine Ev.s ?_ | refine Ev.newC fun _ _ _ => ?_ | refine Ev.boxC fun _ _ _ => ?_ | refine Ev.stC fun _ _ => ?_ | refine Ev.sc (by omega) ?_ | refine Ev.scg (by omega) ?_)
        have : decide (ks.length = 0) = true := decide_eq_true (by omega)
        exact Ev.doneC (by rw [this]; simp)
end
end Go.AM.N
set_option linter.unusedVariables false
set_option linter.unusedSimpArgs false
set_option maxRecDepth 100000
namespace Go.AM.N
open Go Go.AM Go.Proofs
attribute [local irreducible] run bin un ld st box newV mkS fldA fld ixA ix slc slc3 build buildS cv cvS ap cpy lenV gOp pickV b2 aIf aChk evalK resume iterD Option.bind

section
variable {B B0 H0 H : AH} {kv cv : Value} {ks : List (List UInt8)} {cs : List Int} {lf : Bool}
theorem rkid_spec {q : Nat} (hL : Le B H) : Ev (fun k _ => rn k 39 [i64 q] H) (An B H fun _ v => v = str ((kid2 (q : Int)).map fun n => UInt8.ofNat n)) := by
  refine Ev.fn (fun k => f39_eq k _ H) ?_
  have hS := St.start hL
  have e : kid2 (q : Int) = [q / 256 % 256, q % 256] := by unfold kid2; rw [Int.toNat_natCast]
  rw [e]
  refine Ev.prim (shrL (by decide)) ?_
  repeat (first | refine Ev.s ?_ | refine Ev.newC fun _ _ _ => ?_ | refine Ev.boxC fun _ _ _ => ?_ | refine Ev.stC fun _ _ => ?_ | refine Ev.sc (by omega) ?_ | refine Ev.scg (by omega) ?_)
  refine Ev.bsC (P := Try.prog) (t := 68) (m := 2) (parts := [(0, u8 (q / 2 ^ 8 % 256)), (1, u8 (q % 256))]) (hS := hS) (by decide) fun bb H1 hS1 => ?_
  refine Ev.prim (cvS_own (ds := [q / 2 ^ 8 % 256, q % 256]) (rest := []) hS1 (.head _) rfl) ?_
  exact Ev.ret (hS1.drop1.an rfl)
theorem rkey_spec {l : List UInt8} (hl : l.length < 1000000000) (hL : Le B H) : Ev (fun k _ => rn k 38 [str l] H) (An B H fun _ v => v = str (UInt8.ofNat (l.length % 256) :: l)) := by
  refine Ev.fn (fun k => f38_eq k _ H) ?_
  have hS := St.start hL
  repeat (first | refine Ev.s ?_ | refine Ev.newC fun _ _ _ => ?_ | refine Ev.boxC fun _ _ _ => ?_ | refine Ev.stC fun _ _ => ?_ | refine Ev.sc (by omega) ?_ | refine Ev.scg (by omega) ?_)
  refine Ev.bsC (P := Try.prog) (t := 68) (m := 1) (parts := [(0, u8 (l.length % 256))]) (hS := hS) (by decide) fun bb H1 hS1 => ?_
  refine Ev.prim (cvS_own (ds := [l.length % 256]) (rest := []) hS1 (.head _) rfl) ?_
  refine Ev.prim (add_str (by simp only [List.map_cons, List.map_nil, List.length_cons, List.length_nil]; omega)) ?_
  exact Ev.ret (hS1.drop1.an rfl)
theorem renc_loop0 {b : Nat} (hlen : ks.length ≤ cs.length) (hk16 : ∀ k ∈ ks, k.length ≤ 255) (hcs : ∀ c ∈ cs, 0 ≤ c ∧ c < 65536) (hsm : sumK ks + 2 * ks.length < 1000000) (hcl : cs.length < 1000000) :
    ∀ (m i : Nat) (B H : AH) (pre : List UInt8), i + m = ks.length → FL B kv str ks → FL B cv i64v cs → St H0 B0 B [(b, ⟨[.bool lf, kv, cv], 33, .fix⟩)] H → pre.length + (encB (ks.drop i) (cs.drop (i))).length < 1000000000 →
    Ev (fun k n => f13_L0 k (ptr b 0) (str pre) (i64 i) n H)
      (fun o => ∃ H' B', o = (.exit 0, f13_X_L0 (str (pre ++ (encB (ks.drop i) (cs.drop (i))).map fun n => UInt8.ofNat n)), H') ∧ Mo B B' ∧ St H0 B0 B' [(b, ⟨[.bool lf, kv, cv], 33, .fix⟩)] H') := by
  have hsl := sumK_len ks
  intro m
  induction m with
  | zero =>
    intro i B H pre hi hk hc hS hd
    refine Ev.succ (fun k n => f13_L0_succ k _ _ _ n H) ?_
    repeat (first | refine Ev.s ?_ | refine Ev.newC fun _ _ _ => ?_ | refine Ev.boxC fun _ _ _ => ?_ | refine Ev.stC fun _ _ => ?_ | refine Ev.sc (by omega) ?_ | refine Ev.scg (by omega) ?_)
    rw [decide_eq_false (by omega)]
    repeat (first | refine Ev.s ?_ | refine Ev.newC fun _ _ _ => ?_ | refine Ev.boxC fun _ _ _ => ?_ | refine Ev.stC fun _ _ => ?_ | refine Ev.sc (by omega) ?_ | refine Ev.scg (by omega) ?_)
    rw [List.drop_of_length_le (show ks.length ≤ i by omega), encB_nil, List.map_nil, List.append_nil]
    exact Ev.ret ⟨H, B, rfl, Mo.refl B, hS⟩
  | succ m ih =>
    intro i B H pre hi hk hc hS hd
    refine Ev.succ (fun k n => f13_L0_succ k _ _ _ n H) ?_
    obtain ⟨a, ha⟩ := get_ex (l := ks) (i := i) (by omega)
    obtain ⟨c, hcc⟩ := get_ex (l := cs) (i := i) (by omega)
    have ha16 := hk16 a (List.mem_of_getElem? ha)
    obtain ⟨c0, c1⟩ := hcs c (List.mem_of_getElem? hcc)
    obtain ⟨q, rfl⟩ := Int.eq_ofNat_of_zero_le c0
    rw [drop_cons ha, drop_cons hcc, encB] at hd ⊢
    simp only [kid2, List.length_cons, List.length_append, List.length_map, List.length_nil] at hd
    repeat (first | refine Ev.s ?_ | refine Ev.newC fun _ _ _ => ?_ | refine Ev.boxC fun _ _ _ => ?_ | refine Ev.stC fun _ _ => ?_ | refine Ev.sc (by omega) ?_ | refine Ev.scg (by omega) ?_)
    rw [decide_eq_true (show i < ks.length by omega)]
    repeat (first | refine Ev.s ?_ | refine Ev.newC fun _ _ _ => ?_ | refine Ev.boxC fun _ _ _ => ?_ | refine Ev.stC fun _ _ => ?_ | refine Ev.sc (by omega) ?_ | refine Ev.scg (by omega) ?_)
    refine Ev.ixF i rfl ha fun x hx => ?_
    repeat (first | refine Ev.s ?_ | refine Ev.newC fun _ _ _ => ?_ | refine Ev.boxC fun _ _ _ => ?_ | refine Ev.stC fun _ _ => ?_ | refine Ev.sc (by omega) ?_ | refine Ev.scg (by omega) ?_)
    refine Ev.callD (rkey_spec (l := a) (by omega)) fun v1 B1 H1 hm1 hS1 h1 => ?_
    subst h1
    have hk1 := hk.mono hm1.mo
    have hc1 := hc.mono hm1.mo
    refine Ev.prim (add_str (by simp only [List.length_cons]; omega)) ?_
    repeat (first | refine Ev.s ?_ | refine Ev.newC fun _ _ _ => ?_ | refine Ev.boxC fun _ _ _ => ?_ | refine Ev.stC fun _ _ => ?_ | refine Ev.sc (by omega) ?_ | refine Ev.scg (by omega) ?_)
    refine Ev.ixF (h := hc) (i) rfl hcc fun y hy => ?_
    refine Ev.prim (hy.1 H1 (hm1.mo.trans hS1.le)) ?_
    refine Ev.chk (hy.1 H hS.le) ?_
    clear hk hc hS
    refine Ev.callD (rkid_spec (q := q)) fun v2 B2 H2 hm2 hS2 h2 => ?_
    subst h2
    have hk2 := hk1.mono hm2.mo
    have hc2 := hc1.mono hm2.mo
    refine Ev.prim (add_str (by simp only [kid2, List.length_cons, List.length_append, List.length_map, List.length_nil]; omega)) ?_
    repeat (first | refine Ev.s ?_ | refine Ev.newC fun _ _ _ => ?_ | refine Ev.boxC fun _ _ _ => ?_ | refine Ev.stC fun _ _ => ?_ | refine Ev.sc (by omega) ?_ | refine Ev.scg (by omega) ?_)
    refine (ih (i + 1) B2 H2 _ (by omega) hk2 hc2 hS2 (by simp only [kid2, List.length_cons, List.length_append, List.length_map, List.length_nil]; omega)).mono ?_
    rintro o ⟨H', B', q1, q2, q3⟩
    refine ⟨H', B', ?_, (hm1.mo.trans hm2.mo).trans q2, q3⟩
    rw [q1]
    have e : (a.map UInt8.toNat).map (fun n => UInt8.ofNat n) = a := by
      rw [List.map_map]
      conv => rhs; rw [← List.map_id a]
      exact List.map_congr_left fun a _ => by simp
    simp only [List.map_cons, List.map_append, e, List.append_assoc, List.cons_append, List.nil_append, List.map_nil]
theorem renc_loop1 {b : Nat} (hlen : ks.length + 1 ≤ cs.length) (hk16 : ∀ k ∈ ks, k.length ≤ 255) (hcs : ∀ c ∈ cs, 0 ≤ c ∧ c < 65536) (hsm : sumK ks + 2 * ks.length < 1000000) (hcl : cs.length < 1000000) :
    ∀ (m i : Nat) (B H : AH) (pre : List UInt8), i + m = ks.length → FL B kv str ks → FL B cv i64v cs → St H0 B0 B [(b, ⟨[.bool lf, kv, cv], 33, .fix⟩)] H → pre.length + (encB (ks.drop i) (cs.drop (i + 1))).length < 1000000000 →
    Ev (fun k n => f13_L1 k (ptr b 0) (str pre) (i64 i) n H)
      (fun o => ∃ H' B', o = (.exit 2, f13_X_L1 (str (pre ++ (encB (ks.drop i) (cs.drop (i + 1))).map fun n => UInt8.ofNat n)), H') ∧ Mo B B' ∧ St H0 B0 B' [(b, ⟨[.bool lf, kv, cv], 33, .fix⟩)] H') := by
  have hsl := sumK_len ks
  intro m
  induction m with
  | zero =>
    intro i B H pre hi hk hc hS hd
    refine Ev.succ (fun k n => f13_L1_succ k _ _ _ n H) ?_
    repeat (first | refine Ev.s ?_ | refine Ev.newC fun _ _ _ => ?_ | refine Ev.boxC fun _ _ _ => ?_ | refine Ev.stC fun _ _ => ?_ | refine Ev.sc (by omega) ?_ | refine Ev.scg (by omega) ?_)
    rw [decide_eq_false (by omega)]
    repeat (first | refine Ev.s ?_ | refine Ev.newC fun _ _ _ => ?_ | refine Ev.boxC fun _ _ _ => ?_ | refine Ev.stC fun _ _ => ?_ | refine Ev.sc (by omega) ?_ | refine Ev.scg (by omega) ?_)
    rw [List.drop_of_length_le (show ks.length ≤ i by omega), encB_nil, List.map_nil, List.append_nil]
    exact Ev.ret ⟨H, B, rfl, Mo.refl B, hS⟩
  | succ m ih =>
    intro i B H pre hi hk hc hS hd
    refine Ev.succ (fun k n => f13_L1_succ k _ _ _ n H) ?_
    obtain ⟨a, ha⟩ := get_ex (l := ks) (i := i) (by omega)
    obtain ⟨c, hcc⟩ := get_ex (l := cs) (i := i + 1) (by omega)
    have ha16 := hk16 a (List.mem_of_getElem? ha)
    obtain ⟨c0, c1⟩ := hcs c (List.mem_of_getElem? hcc)
    obtain ⟨q, rfl⟩ := Int.eq_ofNat_of_zero_le c0
    rw [drop_cons ha, drop_cons hcc, encB] at hd ⊢
    simp only [kid2, List.length_cons, List.length_append, List.length_map, List.length_nil] at hd
    repeat (first | refine Ev.s ?_ | refine Ev.newC fun _ _ _ => ?_ | refine Ev.boxC fun _ _ _ => ?_ | refine Ev.stC fun _ _ => ?_ | refine Ev.sc (by omega) ?_ | refine Ev.scg (by omega) ?_)
    rw [decide_eq_true (show i < ks.length by omega)]
    repeat (first | refine Ev.s ?_ | refine Ev.newC fun _ _ _ => ?_ | refine Ev.boxC fun _ _ _ => ?_ | refine Ev.stC fun _ _ => ?_ | refine Ev.sc (by omega) ?_ | refine Ev.scg (by omega) ?_)
    refine Ev.ixF i rfl ha fun x hx => ?_
    repeat (first | refine Ev.s ?_ | refine Ev.newC fun _ _ _ => ?_ | refine Ev.boxC fun _ _ _ => ?_ | refine Ev.stC fun _ _ => ?_ | refine Ev.sc (by omega) ?_ | refine Ev.scg (by omega) ?_)
    refine Ev.callD (rkey_spec (l := a) (by omega)) fun v1 B1 H1 hm1 hS1 h1 => ?_
    subst h1
    have hk1 := hk.mono hm1.mo
    have hc1 := hc.mono hm1.mo
    refine Ev.prim (add_str (by simp only [List.length_cons]; omega)) ?_
    repeat (first | refine Ev.s ?_ | refine Ev.newC fun _ _ _ => ?_ | refine Ev.boxC fun _ _ _ => ?_ | refine Ev.stC fun _ _ => ?_ | refine Ev.sc (by omega) ?_ | refine Ev.scg (by omega) ?_)
    refine Ev.ixF (h := hc) (i + 1) rfl hcc fun y hy => ?_
    refine Ev.prim (hy.1 H1 (hm1.mo.trans hS1.le)) ?_
    refine Ev.chk (hy.1 H hS.le) ?_
    clear hk hc hS
    refine Ev.callD (rkid_spec (q := q)) fun v2 B2 H2 hm2 hS2 h2 => ?_
    subst h2
    have hk2 := hk1.mono hm2.mo
    have hc2 := hc1.mono hm2.mo
    refine Ev.prim (add_str (by simp only [kid2, List.length_cons, List.length_append, List.length_map, List.length_nil]; omega)) ?_
    repeat (first | refine Ev.s ?_ | refine Ev.newC fun _ _ _ => ?_ | refine Ev.boxC fun _ _ _ => ?_ | refine Ev.stC fun _ _ => ?_ | refine Ev.sc (by omega) ?_ | refine Ev.scg (by omega) ?_)
    refine (ih (i + 1) B2 H2 _ (by omega) hk2 hc2 hS2 (by simp only [kid2, List.length_cons, List.length_append, List.length_map, List.length_nil]; rw [show i + 1 + 1 = i + 1 + 1 by omega]; omega)).mono ?_
    rintro o ⟨H', B', q1, q2, q3⟩
    refine ⟨H', B', ?_, (hm1.mo.trans hm2.mo).trans q2, q3⟩
    rw [q1, show i + 1 + 1 = i + 1 + 1 by omega]
    have e : (a.map UInt8.toNat).map (fun n => UInt8.ofNat n) = a := by
      rw [List.map_map]
      conv => rhs; rw [← List.map_id a]
      exact List.map_congr_left fun a _ => by simp
    simp only [List.map_cons, List.map_append, e, List.append_assoc, List.cons_append, List.nil_append, List.map_nil]
end
end Go.AM.N
set_option linter.unusedVariables false
set_option linter.unusedSimpArgs false
set_option maxRecDepth 100000
namespace Go.AM.N
open Go Go.AM Go.Proofs
attribute [local irreducible] run bin un ld st box newV mkS fldA fld ixA ix slc slc3 build buildS cv cvS ap cpy lenV gOp pickV b2 aIf aChk evalK resume iterD Option.bind

section
variable {B B0 H0 H : AH} {kv cv : Value} {ks : List (List UInt8)} {cs : List Int} {lf : Bool}
theorem rEncode_spec [ha : FT B kv str ks] [hb : FT B cv i64v cs] (hl : sizeN ⟨lf, ks, cs⟩ < 4611686018427387904) (hL : Le B H) : Ev (fun k _ => rn k 13 [NdA lf kv cv] H)
    (An B H fun _ v => v = if rightN ⟨lf, ks, cs⟩ = true then .tuple #[str (encN ⟨lf, ks, cs⟩), .bool true] else .tuple #[.string ⟨#[]⟩, .bool false]) := by
  refine Ev.fn (fun k => f13_eq k _ H) ?_
  have hS := St.start hL
  have ha := ha.fl
  have hb := hb.fl
  refine Ev.boxC fun b H0' hS0 => ?_
  clear hS
  repeat (first | refine Ev.s ?_ | refine Ev.newC fun _ _ _ => ?_ | refine Ev.boxC fun _ _ _ => ?_ | refine Ev.stC fun _ _ => ?_ | refine Ev.sc (by omega) ?_ | refine Ev.scg (by omega) ?_)
  refine Ev.callD (rRight_nspec (lf := lf) (ks := ks) (cs := cs) hl) fun v1 B1 H1 hm1 hS1 h1 => ?_
  subst h1
  have hk := ha.mono hm1.mo
  have hc := hb.mono hm1.mo
  clear ha hb hS0
  cases hr : rightN ⟨lf, ks, cs⟩ with
  | false =>
    rw [if_neg (by simp)]
    repeat (first | refine Ev.s ?_ | refine Ev.newC fun _ _ _ => ?_ | refine Ev.boxC fun _ _ _ => ?_ | refine Ev.stC fun _ _ => ?_ | refine Ev.sc (by omega) ?_ | refine Ev.scg (by omega) ?_)
    exact Ev.doneC rfl
  | true =>
    rw [if_pos rfl]
    have R := rightN_iff.mp hr
    have r1 := R.len
    have r2 := R.size
    have r3 := R.kid
    have r4 := R.key
    simp only at r1 r3 r4
    unfold sizeN at r2
    simp only at r2
    have hsl := sumK_len ks
    repeat (first | refine Ev.s ?_ | refine Ev.newC fun _ _ _ => ?_ | refine Ev.boxC fun _ _ _ => ?_ | refine Ev.stC fun _ _ => ?_ | refine Ev.sc (by omega) ?_ | refine Ev.scg (by omega) ?_)
    cases hlf : lf <;> subst hlf
    · rw [if_neg (by simp)] at r1
      repeat (first | refine Ev.s ?_ | refine Ev.newC fun _ _ _ => ?_ | refine Ev.boxC fun _ _ _ => ?_ | refine Ev.stC fun _ _ => ?_ | refine Ev.sc (by omega) ?_ | refine Ev.scg (by omega) ?_)
      obtain ⟨c, hcc⟩ := get_ex (l := cs) (i := 0) (by omega)
      obtain ⟨c0, c1⟩ := r3 c (List.mem_of_getElem? hcc)
      obtain ⟨q, rfl⟩ := Int.eq_ofNat_of_zero_le (show 0 ≤ c by omega)
      refine Ev.ixF 0 rfl hcc fun y hy => ?_
      repeat (first | refine Ev.s ?_ | refine Ev.newC fun _ _ _ => ?_ | refine Ev.boxC fun _ _ _ => ?_ | refine Ev.stC fun _ _ => ?_ | refine Ev.sc (by omega) ?_ | refine Ev.scg (by omega) ?_)
      refine Ev.callD (rkid_spec (q := q)) fun v2 B2 H2 hm2 hS2 h2 => ?_
      subst h2
      have hk2 := hk.mono hm2.mo
      have hc2 := hc.mono hm2.mo
      clear hk hc hS1
      refine Ev.prim (add_str (a := [0]) (by simp [kid2])) ?_
      have hel := encB_len (ks.drop 0) (cs.drop (0 + 1))
      rw [List.drop_zero] at hel
      refine Ev.bind (Ev.loop (renc_loop1 (ks := ks) (cs := cs) (by omega) (fun k hk => by have := (r4 k hk).2; omega) (fun c hc => by have := r3 c hc; omega) (by omega) (by omega) ks.length 0 B2 H2 _ (by omega) hk2 hc2 hS2 (by rw [List.drop_zero]; simp only [kid2, List.length_cons, List.length_append, List.length_map, List.length_nil]; omega))) ?_
      rintro _ ⟨H3, B3, rfl, hm3, hS3⟩
      refine Ev.eq (fun k _ => f13_A1_x2 k _ _) ?_
      refine Ev.ret (hS3.an ?_)
      rw [List.drop_zero]
      cases cs with
      | nil => simp at hcc
      | cons c' cs' =>
        simp at hcc
        subst hcc
        show _ = Value.tuple #[str ((encL ⟨false, ks, (q : Int) :: cs'⟩).map fun n => UInt8.ofNat n), .bool true]
        simp only [encL, Bool.false_eq_true, if_false, List.headD_cons, List.tail_cons, List.map_cons, List.map_append, List.cons_append, List.nil_append, List.append_assoc, Nat.zero_add, List.drop_succ_cons, List.drop_zero]
        rfl
    · rw [if_pos rfl] at r1
      repeat (first | refine Ev.s ?_ | refine Ev.newC fun _ _ _ => ?_ | refine Ev.boxC fun _ _ _ => ?_ | refine Ev.stC fun _ _ => ?_ | refine Ev.sc (by omega) ?_ | refine Ev.scg (by omega) ?_)
      have hel := encB_len (ks.drop 0) (cs.drop 0)
      rw [List.drop_zero] at hel
      refine Ev.bind (Ev.loop (renc_loop0 (ks := ks) (cs := cs) (by omega) (fun k hk => by have := (r4 k hk).2; omega) (fun c hc => by have := r3 c hc; omega) (by omega) (by omega) ks.length 0 B1 H1 [1] (by omega) hk hc hS1 (by rw [List.drop_zero]; simp only [List.length_cons, List.length_nil]; omega))) ?_
      rintro _ ⟨H3, B3, rfl, hm3, hS3⟩
      refine Ev.eq (fun k _ => f13_A0_x0 k _ _) ?_
      exact Ev.ret (hS3.an (by rw [List.drop_zero, List.drop_zero]; rfl))
end
def parseR : Nat → List UInt8 → Option (List (List UInt8) × List Int)
  | _, [] => some ([], [])
  | 0, _ => none
  | n + 1, a :: r => if r.length < a.toNat + 2 then none else (parseR n ((r.drop a.toNat).drop 2)).map fun p => (r.take a.toNat :: p.1, kidOf (r.drop a.toNat) ++ p.2)
def refD (s : List UInt8) : Option (Bool × List (List UInt8) × List Int) :=
  if s = [] ∨ 1 < (s.getD 0 0).toNat then none
  else if (s.getD 0 0).toNat = 1 then (parseR s.length (s.drop 1)).map fun p => (true, p.1, p.2)
  else if s.length < 3 then none
  else (parseR s.length (s.drop 3)).map fun p => (false, p.1, kidOf (s.drop 1) ++ p.2)
def refDec (s : List UInt8) : Option Nd := (refD s).bind fun p => if rightN ⟨p.1, p.2.1, p.2.2⟩ = true ∧ encN ⟨p.1, p.2.1, p.2.2⟩ = s then some ⟨p.1, p.2.1, p.2.2⟩ else none
theorem parseR_parse : ∀ (n : Nat) (r : List UInt8) (p : List (List UInt8) × List Int), parseR n r = some p → parse n r = p
  | n, [], p, h => by
    have : parseR n [] = some ([], []) := by cases n <;> rfl
    rw [this] at h
    rw [parse_nil]
    exact Option.some.inj h
  | 0, _ :: _, p, h => by simp [parseR] at h
  | n + 1, a :: r, p, h => by
    unfold parseR at h
    split at h
    · cases h
    · rw [Option.map_eq_some_iff] at h
      obtain ⟨q, h1, rfl⟩ := h
      rw [parse, parseR_parse n _ q h1]
theorem parseR_enc : ∀ (ks : List (List UInt8)) (cs : List Int) (n : Nat), ks.length = cs.length → (∀ k ∈ ks, k.length ≤ 255) → (∀ c ∈ cs, 0 ≤ c ∧ c < 65536) → sumK ks + 2 * cs.length ≤ n → (parseR n ((encB ks cs).map fun n => UInt8.ofNat n)).isSome = true
  | [], cs, n, _, _, _, _ => by rw [encB_nil, List.map_nil]; cases n <;> rfl
  | _ :: _, [], _, h, _, _, _ => by simp at h
  | k :: r, c :: s, n, h, hk, hc, hn => by
    have hk0 := hk k (by simp)
    simp only [sumK, List.length_cons] at hn h
    obtain ⟨m, rfl⟩ : ∃ m, n = m + 1 := ⟨n - 1, by omega⟩
    have e : (encB (k :: r) (c :: s)).map (fun n => UInt8.ofNat n) = UInt8.ofNat k.length :: (k ++ ((kid2 c).map (fun n => UInt8.ofNat n) ++ (encB r s).map fun n => UInt8.ofNat n)) := by
      simp only [encB, List.map_cons, List.map_append, List.map_map]
      rw [Nat.mod_eq_of_lt (show k.length < 256 by omega)]
      congr 2
      conv => rhs; rw [← List.map_id k]
      exact List.map_congr_left fun a _ => by simp
    rw [e, parseR]
    have ea : (UInt8.ofNat k.length).toNat = k.length := by rw [UInt8.toNat_ofNat']; omega
    rw [ea, if_neg (by simp [kid2]), List.drop_left']
    · have ed : ((kid2 c).map (fun n => UInt8.ofNat n) ++ (encB r s).map fun n => UInt8.ofNat n).drop 2 = (encB r s).map fun n => UInt8.ofNat n := rfl
      rw [ed, Option.isSome_map]
      exact parseR_enc r s m (by omega) (fun k hk' => hk k (by simp [hk'])) (fun c hc' => hc c (by simp [hc'])) (by omega)
    · rfl
theorem refD_parse {s : List UInt8} {p : Bool × List (List UInt8) × List Int} (h : refD s = some p) : parseN s = ⟨p.1, p.2.1, p.2.2⟩ := by
  unfold refD at h
  split at h
  · cases h
  · rename_i h1
    have h2 : s ≠ [] ∧ ¬ 1 < (s.getD 0 0).toNat := ⟨fun e => h1 (.inl e), fun e => h1 (.inr e)⟩
    obtain ⟨a, r, rfl⟩ : ∃ a r, s = a :: r := by cases s with
      | nil => exact absurd rfl h2.1
      | cons a r => exact ⟨a, r, rfl⟩
    rw [List.getD_cons_zero] at h h2
    split at h
    · rename_i h3
      rw [Option.map_eq_some_iff] at h
      obtain ⟨q, h4, rfl⟩ := h
      have h5 := parseR_parse _ _ _ h4
      have ea : a = 1 := UInt8.toNat_inj.mp h3
      subst ea
      unfold parseN
      rw [if_pos (show List.take 1 (1 :: r) = [1] from rfl), h5]
    · rename_i h3
      split at h
      · cases h
      · rename_i h6
        rw [Option.map_eq_some_iff] at h
        obtain ⟨q, h4, rfl⟩ := h
        have h5 := parseR_parse _ _ _ h4
        unfold parseN
        rw [if_neg (fun e => h3 (by have := (List.cons.inj e).1; rw [this]; rfl)), List.drop_drop, h5]
theorem refD_enc {n : Nd} (R : RtN n) : (refD (encN n)).isSome = true := by
  have hlen := encN_length R
  have hl := R.len
  have hk : ∀ k ∈ n.keys, k.length ≤ 255 := fun k h => by have := (R.key k h).2; omega
  have hc : ∀ c ∈ n.kids, 0 ≤ c ∧ c < 65536 := fun c h => by have := R.kid c h; omega
  obtain ⟨lf, ks, cs⟩ := n
  simp only at hl hk hc
  cases lf with
  | true =>
    simp only [if_true] at hl
    unfold refD
    rw [hlen]
    have e : encN ⟨true, ks, cs⟩ = 1 :: (encB ks cs).map fun n => UInt8.ofNat n := rfl
    rw [e, if_neg (by simp), if_pos (by simp), Option.isSome_map, List.drop_succ_cons, List.drop_zero]
    exact parseR_enc ks cs _ (by omega) hk hc (by unfold sizeN; simp only; omega)
  | false =>
    simp only [Bool.false_eq_true, if_false] at hl
    cases cs with
    | nil => simp at hl
    | cons c cs =>
      simp only [List.length_cons] at hl
      have e : encN ⟨false, ks, c :: cs⟩ = 0 :: UInt8.ofNat (c.toNat / 256 % 256) :: UInt8.ofNat (c.toNat % 256) :: (encB ks cs).map fun n => UInt8.ofNat n := rfl
      unfold refD
      rw [hlen, e, if_neg (by simp), if_neg (by simp), if_neg (by unfold sizeN; simp only [List.length_cons]; omega), Option.isSome_map]
      have e1 : (0 :: UInt8.ofNat (c.toNat / 256 % 256) :: UInt8.ofNat (c.toNat % 256) :: (encB ks cs).map fun n => UInt8.ofNat n : List UInt8).drop 3 = (encB ks cs).map fun n => UInt8.ofNat n := rfl
      rw [e1]
      exact parseR_enc ks cs _ (by omega) hk (fun c h => hc c (by simp [h])) (by unfold sizeN; simp only [List.length_cons]; omega)
theorem refDec_eq (s : List UInt8) : refDec s = decN s := by
  unfold refDec
  cases h : refD s with
  | some p =>
    have e := refD_parse h
    rw [Option.bind_some]
    unfold decN
    rw [e]
  | none =>
    rw [Option.bind_none]
    unfold decN
    split
    · rename_i h2
      have := refD_enc (rightN_iff.mp h2.1)
      rw [h2.2, h] at this
      cases this
    · rfl
end Go.AM.N
set_option linter.unusedVariables false
set_option linter.unusedSimpArgs false
set_option maxRecDepth 100000
namespace Go.AM.N
open Go Go.AM Go.Proofs
attribute [local irreducible] run bin un ld st box newV mkS fldA fld ixA ix slc slc3 build buildS cv cvS ap cpy lenV gOp pickV b2 aIf aChk evalK resume iterD Option.bind

theorem perm2 {α : Type} (a b : α) (x y : List α) : (x ++ (a :: b :: y)).Perm (a :: b :: (x ++ y)) := by
  have h := (List.perm_append_comm (l₁ := x) (l₂ := [a, b])).append_right y
  simpa [List.append_assoc] using h
theorem slc_strLH {t : TypeId} {l : List UInt8} {k k' : IntKind} {i j : Nat} [h : Und Try.prog t .string] (hij : i ≤ j) (hj : j ≤ l.length) : slc Try.prog t (str l) (some (.int k (i : Int))) (some (.int k' (j : Int))) = some (str ((l.drop i).take (j - i))) := by
  unfold slc; rw [h.eq]
  have : ByteArray.size ⟨l.toArray⟩ = l.length := rfl
  simp only [this, intOr, Option.bind_some]
  rw [if_pos ⟨by omega, by omega, by omega⟩]
  congr 2
  simp [ByteArray.extract, ByteArray.copySlice, List.drop_take]
theorem getD_drop {s : List UInt8} {i : Nat} (k : Nat) : (s.drop i).getD k 0 = s.getD (i + k) 0 := by
  rw [List.getD_eq_getElem?_getD, List.getElem?_drop, List.getD_eq_getElem?_getD]
abbrev zeroC : List Value := [.bool false, .slice none 0 0, .slice none 0 0]
section
variable {B B0 H0 H : AH}
structure RSt (H0 B0 B : AH) (bn b0 : Nat) (lf : Value) (ks : List (List UInt8)) (cs : List Int) (H : AH) : Prop where
  ex : ∃ kv cv Lk Lc, GR 9 kv (ks.map str) Lk ∧ GR 3 cv (cs.map i64v) Lc ∧ St H0 B0 B ((bn, ⟨[lf, kv, cv], 33, .fix⟩) :: (b0, ⟨zeroC, 33, .fix⟩) :: (Lk ++ Lc)) H
theorem push_K {R : Type} {bn b0 : Nat} {lf kv cv : Value} {ks : List (List UInt8)} {Lk Lc : List (Nat × Blk)} {x : List UInt8} {g : Nat → Nat → Value → AH → Option R} {Q : R → Prop} (hk : GR 9 kv (ks.map str) Lk) (hS : St H0 B0 B ((bn, ⟨[lf, kv, cv], 33, .fix⟩) :: (b0, ⟨zeroC, 33, .fix⟩) :: (Lk ++ Lc)) H) (hl : ks.length < 1000000000000)
    (h : ∀ v' Lk' B' H', MoC B B' → GR 9 v' ((ks ++ [x]).map str) Lk' → St H0 B0 B' ((bn, ⟨[lf, kv, cv], 33, .fix⟩) :: (b0, ⟨zeroC, 33, .fix⟩) :: (Lk' ++ Lc)) H' → Ev (fun k n => g k n v' H') Q) :
    Ev (fun k n => b2 (buildS Try.prog 22 H 1 [(0, str x)]) fun w h => b2 (ap Try.prog 22 22 h kv w) (g k n)) Q := by
  have hG := hk.acc (hS.perm (perm2 _ _ Lk Lc))
  refine hG.push (P := Try.prog) (t := 22) (x := str x) (ds := [str x]) rfl rfl rfl rfl (by decide) (by rw [List.length_map]; omega) fun v' B' H' hm hA => ?_
  have hm' : ks.map str ++ [str x] = (ks ++ [x]).map str := by rw [List.map_append]; rfl
  rw [hm'] at hA
  obtain ⟨Lk', hk', hS2⟩ := hA.gr
  exact h v' Lk' B' H' hm hk' (hS2.perm (perm2 _ _ _ _).symm)
theorem push_C {R : Type} {bn b0 : Nat} {lf kv cv : Value} {cs : List Int} {Lk Lc : List (Nat × Blk)} {x : Nat} {g : Nat → Nat → Value → AH → Option R} {Q : R → Prop} (hc : GR 3 cv (cs.map i64v) Lc) (hS : St H0 B0 B ((bn, ⟨[lf, kv, cv], 33, .fix⟩) :: (b0, ⟨zeroC, 33, .fix⟩) :: (Lk ++ Lc)) H) (hl : cs.length < 1000000000000)
    (h : ∀ v' Lc' B' H', MoC B B' → GR 3 v' ((cs ++ [(x : Int)]).map i64v) Lc' → St H0 B0 B' ((bn, ⟨[lf, kv, cv], 33, .fix⟩) :: (b0, ⟨zeroC, 33, .fix⟩) :: (Lk ++ Lc')) H' → Ev (fun k n => g k n v' H') Q) :
    Ev (fun k n => b2 (buildS Try.prog 23 H 1 [(0, i64 x)]) fun w h => b2 (ap Try.prog 23 23 h cv w) (g k n)) Q := by
  have hG := hc.acc (hS.perm (L' := Lc ++ ((bn, ⟨[lf, kv, cv], 33, .fix⟩) :: (b0, ⟨zeroC, 33, .fix⟩) :: Lk)) (by
    rw [← List.cons_append, ← List.cons_append]
    exact List.perm_append_comm))
  refine hG.push (P := Try.prog) (t := 23) (x := i64 x) (ds := [i64 x]) rfl rfl rfl rfl (by decide) (by rw [List.length_map]; omega) fun v' B' H' hm hA => ?_
  have hm' : cs.map i64v ++ [i64 x] = (cs ++ [(x : Int)]).map i64v := by rw [List.map_append]; rfl
  rw [hm'] at hA
  obtain ⟨Lc', hc', hS2⟩ := hA.gr
  exact h v' Lc' B' H' hm hc' (hS2.perm (by
    rw [← List.cons_append, ← List.cons_append]
    exact List.perm_append_comm))
theorem rdec_loop {s : List UInt8} {bn b0 : Nat} {lf : Value} [IsCell lf] (hs : s.length < 1000000000) :
    ∀ (N at_ : Nat) (ks : List (List UInt8)) (cs : List Int) (B H : AH), at_ ≤ s.length → (s.drop at_).length ≤ N → ks.length ≤ at_ → cs.length ≤ at_ → RSt H0 B0 B bn b0 lf ks cs H →
    Ev (fun k n => f16_L0 k (str s) (ptr b0 0) (ptr bn 0) (i64 at_) n H)
      (fun o => ∃ B' H', Mo B B' ∧ match parseR N (s.drop at_) with
        | some p => o = (.exit 0, f16_X_L0 (str s) (ptr b0 0) unk (ptr bn 0), H') ∧ RSt H0 B0 B' bn b0 lf (ks ++ p.1) (cs ++ p.2) H'
        | none => o = (.ret, f16_X_L0 (str s) (ptr b0 0) (.bool false) (ptr bn 0), H') ∧ ∃ ks' cs', RSt H0 B0 B' bn b0 lf ks' cs' H') := by
  intro N
  induction N with
  | zero =>
    intro at_ ks cs B H ha hN hkl hcl hR
    refine Ev.succ (fun k n => f16_L0_succ k _ _ _ _ n H) ?_
    have hR' := hR
    obtain ⟨kv, cv, Lk, Lc, hk, hc, hS⟩ := hR
    haveI := hk.cell
    haveI := hc.cell
    have e : s.drop at_ = [] := List.length_eq_zero_iff.mp (by omega)
    rw [List.length_drop] at hN
    repeat (first | refine Ev.s ?_ | refine Ev.newC fun _ _ _ => ?_ | refine Ev.boxC fun _ _ _ => ?_ | refine Ev.stC fun _ _ => ?_ | refine Ev.sc (by omega) ?_ | refine Ev.scg (by omega) ?_)
    rw [decide_eq_false (show ¬ at_ < s.length by omega), e]
    repeat (first | refine Ev.s ?_ | refine Ev.newC fun _ _ _ => ?_ | refine Ev.boxC fun _ _ _ => ?_ | refine Ev.stC fun _ _ => ?_ | refine Ev.sc (by omega) ?_ | refine Ev.scg (by omega) ?_)
    exact Ev.ret ⟨B, H, Mo.refl B, rfl, by simpa using hR'⟩
  | succ N ih =>
    intro at_ ks cs B H ha hN hkl hcl hR
    refine Ev.succ (fun k n => f16_L0_succ k _ _ _ _ n H) ?_
    have hR' := hR
    obtain ⟨kv, cv, Lk, Lc, hk, hc, hS⟩ := hR
    haveI := hk.cell
    haveI := hc.cell
    repeat (first | refine Ev.s ?_ | refine Ev.newC fun _ _ _ => ?_ | refine Ev.boxC fun _ _ _ => ?_ | refine Ev.stC fun _ _ => ?_ | refine Ev.sc (by omega) ?_ | refine Ev.scg (by omega) ?_)
    cases hd : s.drop at_ with
    | nil =>
      have : s.length ≤ at_ := List.drop_eq_nil_iff.mp hd
      rw [decide_eq_false (show ¬ at_ < s.length by omega)]
      repeat (first | refine Ev.s ?_ | refine Ev.newC fun _ _ _ => ?_ | refine Ev.boxC fun _ _ _ => ?_ | refine Ev.stC fun _ _ => ?_ | refine Ev.sc (by omega) ?_ | refine Ev.scg (by omega) ?_)
      exact Ev.ret ⟨B, H, Mo.refl B, rfl, by simpa using hR'⟩
    | cons a r =>
      have hlt : at_ < s.length := by
        apply Nat.lt_of_not_le
        intro hh
        rw [List.drop_of_length_le hh] at hd
        cases hd
      have hr : s.drop (at_ + 1) = r := by rw [← List.drop_drop, hd]; rfl
      have hrl : r.length = s.length - (at_ + 1) := by rw [← hr, List.length_drop]
      have ga : s.getD at_ 0 = a := by
        have := getD_drop (s := s) (i := at_) 0
        rw [hd] at this
        simpa using this.symm
      have hab := UInt8.toNat_lt a
      rw [hd, List.length_cons] at hN
      rw [decide_eq_true hlt]
      repeat (first | refine Ev.s ?_ | refine Ev.newC fun _ _ _ => ?_ | refine Ev.boxC fun _ _ _ => ?_ | refine Ev.stC fun _ _ => ?_ | refine Ev.sc (by omega) ?_ | refine Ev.scg (by omega) ?_)
      refine Ev.prim (ix_str at_ rfl hlt) ?_
      rw [ga]
      refine Ev.prim (toI64 (by omega) (Und.eq (P := Try.prog) (t := 5)) (Und.eq (P := Try.prog) (t := 3))) ?_
      repeat (first | refine Ev.s ?_ | refine Ev.newC fun _ _ _ => ?_ | refine Ev.boxC fun _ _ _ => ?_ | refine Ev.stC fun _ _ => ?_ | refine Ev.sc (by omega) ?_ | refine Ev.scg (by omega) ?_)
      rw [parseR]
      by_cases hsh : r.length < a.toNat + 2
      · rw [decide_eq_true (show s.length < at_ + 3 + a.toNat by omega), if_pos hsh]
        repeat (first | refine Ev.s ?_ | refine Ev.newC fun _ _ _ => ?_ | refine Ev.boxC fun _ _ _ => ?_ | refine Ev.stC fun _ _ => ?_ | refine Ev.sc (by omega) ?_ | refine Ev.scg (by omega) ?_)
        exact Ev.ret ⟨B, _, Mo.refl B, rfl, ks, cs, kv, cv, Lk, Lc, hk, hc, by assumption⟩
      · rw [decide_eq_false (show ¬ s.length < at_ + 3 + a.toNat by omega), if_neg hsh]
        have et : (s.drop (at_ + 1)).take (at_ + 1 + a.toNat - (at_ + 1)) = r.take a.toNat := by rw [hr, show at_ + 1 + a.toNat - (at_ + 1) = a.toNat by omega]
        have ek : kidOf (r.drop a.toNat) = [(((s.getD (at_ + 1 + a.toNat) 0).toNat * 256 + (s.getD (at_ + 2 + a.toNat) 0).toNat : Nat) : Int)] := by
          unfold kidOf
          rw [if_pos (by rw [List.length_drop]; omega), getD_drop, getD_drop, ← hr, getD_drop, getD_drop]
          rw [show at_ + 1 + (a.toNat + 0) = at_ + 1 + a.toNat by omega, show at_ + 1 + (a.toNat + 1) = at_ + 2 + a.toNat by omega]
        have er : (r.drop a.toNat).drop 2 = s.drop (at_ + 3 + a.toNat) := by
          rw [← hr, List.drop_drop, List.drop_drop]
          congr 1
          omega
        have b0' := UInt8.toNat_lt (s.getD (at_ + 1 + a.toNat) 0)
        have b1' := UInt8.toNat_lt (s.getD (at_ + 2 + a.toNat) 0)
        have hh : (s.getD (at_ + 1 + a.toNat) 0).toNat * 256 ||| (s.getD (at_ + 2 + a.toNat) 0).toNat = (s.getD (at_ + 1 + a.toNat) 0).toNat * 256 + (s.getD (at_ + 2 + a.toNat) 0).toNat := by
          rw [show (s.getD (at_ + 1 + a.toNat) 0).toNat * 256 = 2 ^ 8 * (s.getD (at_ + 1 + a.toNat) 0).toNat by omega, ← Nat.two_pow_add_eq_or_of_lt (by omega)]
        rw [ek, er]
        repeat (first | refine Ev.s ?_ | refine Ev.newC fun _ _ _ => ?_ | refine Ev.boxC fun _ _ _ => ?_ | refine Ev.stC fun _ _ => ?_ | refine Ev.sc (by omega) ?_ | refine Ev.scg (by omega) ?_)
        refine Ev.prim (slc_strLH (by omega) (by omega)) ?_
        rw [et]
        refine push_K hk hS (by omega) fun v1 Lk1 B1 H1 hm1 hk1 hS1 => ?_
        haveI := hk1.cell
        clear hS
        repeat (first | refine Ev.s ?_ | refine Ev.newC fun _ _ _ => ?_ | refine Ev.boxC fun _ _ _ => ?_ | refine Ev.stC fun _ _ => ?_ | refine Ev.sc (by omega) ?_ | refine Ev.scg (by omega) ?_)
        refine Ev.prim (ix_str (at_ + 1 + a.toNat) rfl (by omega)) ?_
        refine Ev.prim (toI64 (by omega) (Und.eq (P := Try.prog) (t := 5)) (Und.eq (P := Try.prog) (t := 3))) ?_
        refine Ev.prim (shl8I (by omega)) ?_
        repeat (first | refine Ev.s ?_ | refine Ev.newC fun _ _ _ => ?_ | refine Ev.boxC fun _ _ _ => ?_ | refine Ev.stC fun _ _ => ?_ | refine Ev.sc (by omega) ?_ | refine Ev.scg (by omega) ?_)
        refine Ev.prim (ix_str (at_ + 2 + a.toNat) rfl (by omega)) ?_
        refine Ev.prim (toI64 (by omega) (Und.eq (P := Try.prog) (t := 5)) (Und.eq (P := Try.prog) (t := 3))) ?_
        refine Ev.prim (orI ⟨by omega, by omega⟩) ?_
        rw [hh]
        generalize (s.getD (at_ + 1 + a.toNat) 0).toNat * 256 + (s.getD (at_ + 2 + a.toNat) 0).toNat = q at *
        rename_i Hx hSx
        refine push_C hc hSx (by omega) fun v2 Lc2 B2 H2 hm2 hc2 hS2 => ?_
        haveI := hc2.cell
        clear hS1 hSx
        repeat (first | refine Ev.s ?_ | refine Ev.newC fun _ _ _ => ?_ | refine Ev.boxC fun _ _ _ => ?_ | refine Ev.stC fun _ _ => ?_ | refine Ev.sc (by omega) ?_ | refine Ev.scg (by omega) ?_)
        rename_i Hy hSy
        have := ih (at_ + 3 + a.toNat) (ks ++ [r.take a.toNat]) (cs ++ [(q : Int)]) B2 Hy (by omega) (by rw [List.length_drop]; omega) (by rw [List.length_append, List.length_cons, List.length_nil]; omega) (by rw [List.length_append, List.length_cons, List.length_nil]; omega) ⟨v1, v2, Lk1, Lc2, hk1, hc2, hSy⟩
        refine this.mono ?_
        rintro o ⟨B', H', q1, q2⟩
        refine ⟨B', H', (hm1.mo.trans hm2.mo).trans q1, ?_⟩
        cases hp : parseR N (s.drop (at_ + 3 + a.toNat)) with
        | none => rw [hp] at q2; exact q2
        | some p =>
          rw [hp] at q2
          simp only [List.append_assoc, List.cons_append, List.nil_append] at q2
          exact q2
end
end Go.AM.N
set_option linter.unusedVariables false
set_option linter.unusedSimpArgs false
set_option maxRecDepth 100000
namespace Go.AM.N
open Go Go.AM Go.Proofs
attribute [local irreducible] run bin un ld st box newV mkS fldA fld ixA ix slc slc3 build buildS cv cvS ap cpy lenV gOp pickV b2 aIf aChk evalK resume iterD Option.bind

def RDecV (B : AH) (v : Value) : Option Nd → Prop
  | none => v = .tuple #[NdA false (.slice none 0 0) (.slice none 0 0), .bool false]
  | some n => ∃ kv cv, v = .tuple #[NdA n.leaf kv cv, .bool true] ∧ FL B kv str n.keys ∧ FL B cv i64v n.kids
theorem parseR_len : ∀ (n : Nat) (r : List UInt8) (p : List (List UInt8) × List Int), parseR n r = some p → sumK p.1 ≤ r.length ∧ p.2.length ≤ r.length := by
  intro n r p h
  have e := parseR_parse n r p h
  rw [← e]
  exact ⟨sumK_parse n r, (parse_len n r).2⟩
section
variable {B B0 H0 H : AH}
theorem rdec_tail {bn b0 : Nat} {lf : Bool} {s : List UInt8} {ks : List (List UInt8)} {cs : List Int} (hS : RSt H0 B0 B bn b0 (.bool lf) ks cs H) (hl : sizeN ⟨lf, ks, cs⟩ < 4611686018427387904) :
    Ev (fun k _ => f16_A0 k (.exit 0) (f16_X_L0 (str s) (ptr b0 0) unk (ptr bn 0)) H) (An B0 H0 fun B' v => RDecV B' v (if rightN ⟨lf, ks, cs⟩ = true ∧ encN ⟨lf, ks, cs⟩ = s then some ⟨lf, ks, cs⟩ else none)) := by
  refine Ev.eq (fun k _ => f16_A0_x0 k _ _ _ _ _) ?_
  obtain ⟨kv, cv, Lk, Lc, hk, hc, hSt⟩ := hS
  have hP := hSt.perm (perm2 _ _ Lk Lc)
  obtain ⟨B1, hm1, hk1, hS1⟩ := (hk.acc hP).fl
  have hP2 := hS1.perm (L' := Lc ++ [(bn, ⟨[.bool lf, kv, cv], 33, .fix⟩), (b0, ⟨zeroC, 33, .fix⟩)]) (by
    have := perm2 (bn, (⟨[.bool lf, kv, cv], 33, .fix⟩ : Blk)) (b0, ⟨zeroC, 33, .fix⟩) Lc []
    rwa [List.append_nil] at this)
  obtain ⟨B2, hm2, hc2, hS2⟩ := (hc.acc hP2).fl
  have hk2 := hk1.mono hm2.mo
  clear hk hc hSt hP hP2 hS1 hk1
  repeat (first | refine Ev.s ?_ | refine Ev.newC fun _ _ _ => ?_ | refine Ev.boxC fun _ _ _ => ?_ | refine Ev.stC fun _ _ => ?_ | refine Ev.sc (by omega) ?_ | refine Ev.scg (by omega) ?_)
  refine Ev.callD (rEncode_spec (lf := lf) (ks := ks) (cs := cs) hl) fun v1 B3 H3 hm3 hS3 h3 => ?_
  have hk3 := hk2.mono hm3.mo
  have hc3 := hc2.mono hm3.mo
  clear hk2 hc2
  cases hr : rightN ⟨lf, ks, cs⟩ with
  | false =>
    rw [hr, if_neg (by simp)] at h3
    subst h3
    rw [if_neg (by simp)]
    repeat (first | refine Ev.s ?_ | refine Ev.newC fun _ _ _ => ?_ | refine Ev.boxC fun _ _ _ => ?_ | refine Ev.stC fun _ _ => ?_ | refine Ev.sc (by omega) ?_ | refine Ev.scg (by omega) ?_)
    exact Ev.doneC rfl
  | true =>
    rw [hr, if_pos rfl] at h3
    subst h3
    repeat (first | refine Ev.s ?_ | refine Ev.newC fun _ _ _ => ?_ | refine Ev.boxC fun _ _ _ => ?_ | refine Ev.stC fun _ _ => ?_ | refine Ev.sc (by omega) ?_ | refine Ev.scg (by omega) ?_)
    by_cases he : encN ⟨lf, ks, cs⟩ = s
    · rw [if_pos ⟨rfl, he⟩, decide_eq_false (fun h => h he)]
      repeat (first | refine Ev.s ?_ | refine Ev.newC fun _ _ _ => ?_ | refine Ev.boxC fun _ _ _ => ?_ | refine Ev.stC fun _ _ => ?_ | refine Ev.sc (by omega) ?_ | refine Ev.scg (by omega) ?_)
      exact Ev.doneC ⟨kv, cv, rfl, hk3, hc3⟩
    · rw [if_neg (fun h => he h.2), decide_eq_true he]
      repeat (first | refine Ev.s ?_ | refine Ev.newC fun _ _ _ => ?_ | refine Ev.boxC fun _ _ _ => ?_ | refine Ev.stC fun _ _ => ?_ | refine Ev.sc (by omega) ?_ | refine Ev.scg (by omega) ?_)
      exact Ev.doneC rfl
theorem rdec_mid {bn b0 : Nat} {lf : Bool} {s : List UInt8} {cs : List Int} {at_ : Nat} (hs : s.length < 1000000000) (ha : at_ ≤ s.length) (hcl : cs.length ≤ at_) (hR : RSt H0 B0 B bn b0 (.bool lf) [] cs H) :
    Ev (fun k _ => f16_J0 k (str s) (ptr b0 0) (ptr bn 0) (i64 at_) H) (An B0 H0 fun B' v => RDecV B' v (((parseR s.length (s.drop at_)).map fun p => (lf, p.1, cs ++ p.2)).bind fun p => if rightN ⟨p.1, p.2.1, p.2.2⟩ = true ∧ encN ⟨p.1, p.2.1, p.2.2⟩ = s then some ⟨p.1, p.2.1, p.2.2⟩ else none)) := by
  refine Ev.eq (fun k _ => f16_J0_eq k _ _ _ _ _) ?_
  have hdl : (s.drop at_).length ≤ s.length := by rw [List.length_drop]; omega
  refine Ev.bind (Ev.loop (rdec_loop hs s.length at_ [] cs B H ha hdl (Nat.zero_le _) hcl hR)) ?_
  rintro o ⟨B', H', hm, h⟩
  cases hp : parseR s.length (s.drop at_) with
  | none =>
    rw [hp] at h
    obtain ⟨rfl, ks', cs', kv, cv, Lk, Lc, hk, hc, hS⟩ := h
    refine Ev.eq (fun k _ => f16_A0_ret k _ _ _ _ _) ?_
    repeat (first | refine Ev.s ?_ | refine Ev.newC fun _ _ _ => ?_ | refine Ev.boxC fun _ _ _ => ?_ | refine Ev.stC fun _ _ => ?_ | refine Ev.sc (by omega) ?_ | refine Ev.scg (by omega) ?_)
    exact Ev.doneC (by rw [Option.map_none, Option.bind_none]; rfl)
  | some p =>
    rw [hp] at h
    obtain ⟨rfl, hR'⟩ := h
    rw [List.nil_append] at hR'
    have hpl := parseR_len _ _ _ hp
    rw [Option.map_some, Option.bind_some]
    exact rdec_tail (s := s) hR' (by unfold sizeN; simp only [List.length_append]; omega)
theorem rDecode_spec {s : List UInt8} (hs : s.length < 1000000000) (hL : Le B H) : Ev (fun k _ => rn k 16 [str s] H) (An B H fun B' v => RDecV B' v (decN s)) := by
  rw [← refDec_eq]
  refine Ev.fn (fun k => f16_eq k _ H) ?_
  have hS := St.start hL
  refine Ev.newC fun b0 H1 hS1 => ?_
  clear hS
  refine Ev.prim (eql_str (b := [])) ?_
  unfold refDec refD
  by_cases h0 : s = []
  · rw [decide_eq_true h0, if_pos (Or.inl h0)]
    repeat (first | refine Ev.s ?_ | refine Ev.newC fun _ _ _ => ?_ | refine Ev.boxC fun _ _ _ => ?_ | refine Ev.stC fun _ _ => ?_ | refine Ev.sc (by omega) ?_ | refine Ev.scg (by omega) ?_)
    exact Ev.doneC (by rw [Option.bind_none]; rfl)
  · rw [decide_eq_false h0]
    have hpos : 0 < s.length := Nat.pos_of_ne_zero fun h => h0 (List.length_eq_zero_iff.mp h)
    repeat (first | refine Ev.s ?_ | refine Ev.newC fun _ _ _ => ?_ | refine Ev.boxC fun _ _ _ => ?_ | refine Ev.stC fun _ _ => ?_ | refine Ev.sc (by omega) ?_ | refine Ev.scg (by omega) ?_)
    refine Ev.gPrim (ix_str 0 rfl hpos) rfl ?_
    have hb0 := UInt8.toNat_lt (s.getD 0 0)
    repeat (first | refine Ev.s ?_ | refine Ev.newC fun _ _ _ => ?_ | refine Ev.boxC fun _ _ _ => ?_ | refine Ev.stC fun _ _ => ?_ | refine Ev.sc (by omega) ?_ | refine Ev.scg (by omega) ?_)
    by_cases h1 : 1 < (s.getD 0 0).toNat
    · rw [decide_eq_true h1, if_pos (Or.inr h1)]
      repeat (first | refine Ev.s ?_ | refine Ev.newC fun _ _ _ => ?_ | refine Ev.boxC fun _ _ _ => ?_ | refine Ev.stC fun _ _ => ?_ | refine Ev.sc (by omega) ?_ | refine Ev.scg (by omega) ?_)
      exact Ev.doneC (by rw [Option.bind_none]; rfl)
    · rw [decide_eq_false h1, if_neg (fun h => h.elim h0 h1)]
      repeat (first | refine Ev.s ?_ | refine Ev.newC fun _ _ _ => ?_ | refine Ev.boxC fun _ _ _ => ?_ | refine Ev.stC fun _ _ => ?_ | refine Ev.sc (by omega) ?_ | refine Ev.scg (by omega) ?_)
      refine Ev.prim (ix_str 0 rfl hpos) ?_
      repeat (first | refine Ev.s ?_ | refine Ev.newC fun _ _ _ => ?_ | refine Ev.boxC fun _ _ _ => ?_ | refine Ev.stC fun _ _ => ?_ | refine Ev.sc (by omega) ?_ | refine Ev.scg (by omega) ?_)
      by_cases h2 : (s.getD 0 0).toNat = 1
      · rw [decide_eq_true h2, if_pos h2]
        repeat (first | refine Ev.s ?_ | refine Ev.newC fun _ _ _ => ?_ | refine Ev.boxC fun _ _ _ => ?_ | refine Ev.stC fun _ _ => ?_ | refine Ev.sc (by omega) ?_ | refine Ev.scg (by omega) ?_)
        rename_i Hx hSx
        rw [decide_eq_true h2] at hSx
        exact rdec_mid (at_ := 1) (cs := []) hs hpos (by simp) ⟨_, _, [], [], GR.nil, GR.nil, hSx⟩
      · rw [decide_eq_false h2, if_neg h2]
        repeat (first | refine Ev.s ?_ | refine Ev.newC fun _ _ _ => ?_ | refine Ev.boxC fun _ _ _ => ?_ | refine Ev.stC fun _ _ => ?_ | refine Ev.sc (by omega) ?_ | refine Ev.scg (by omega) ?_)
        by_cases h3 : s.length < 3
        · rw [decide_eq_true h3, if_pos h3]
          repeat (first | refine Ev.s ?_ | refine Ev.newC fun _ _ _ => ?_ | refine Ev.boxC fun _ _ _ => ?_ | refine Ev.stC fun _ _ => ?_ | refine Ev.sc (by omega) ?_ | refine Ev.scg (by omega) ?_)
          exact Ev.doneC (by rw [Option.bind_none]; rfl)
        · rw [decide_eq_false h3, if_neg h3]
          have b0' := UInt8.toNat_lt (s.getD 1 0)
          have b1' := UInt8.toNat_lt (s.getD 2 0)
          have hh : (s.getD 1 0).toNat * 256 ||| (s.getD 2 0).toNat = (s.getD 1 0).toNat * 256 + (s.getD 2 0).toNat := by
            rw [show (s.getD 1 0).toNat * 256 = 2 ^ 8 * (s.getD 1 0).toNat by omega, ← Nat.two_pow_add_eq_or_of_lt (by omega)]
          have ek : kidOf (s.drop 1) = [(((s.getD 1 0).toNat * 256 + (s.getD 2 0).toNat : Nat) : Int)] := by
            unfold kidOf
            rw [if_pos (by rw [List.length_drop]; omega), getD_drop, getD_drop]
          rw [ek]
          repeat (first | refine Ev.s ?_ | refine Ev.newC fun _ _ _ => ?_ | refine Ev.boxC fun _ _ _ => ?_ | refine Ev.stC fun _ _ => ?_ | refine Ev.sc (by omega) ?_ | refine Ev.scg (by omega) ?_)
          rename_i Hx hSx
          rw [decide_eq_false h2] at hSx
          refine Ev.prim (ix_str 1 rfl (by omega)) ?_
          refine Ev.prim (toI64 (by omega) (Und.eq (P := Try.prog) (t := 5)) (Und.eq (P := Try.prog) (t := 3))) ?_
          refine Ev.prim (shl8I (by omega)) ?_
          refine Ev.prim (ix_str 2 rfl (by omega)) ?_
          refine Ev.prim (toI64 (by omega) (Und.eq (P := Try.prog) (t := 5)) (Und.eq (P := Try.prog) (t := 3))) ?_
          refine Ev.prim (orI ⟨by omega, by omega⟩) ?_
          rw [hh]
          generalize (s.getD 1 0).toNat * 256 + (s.getD 2 0).toNat = q at *
          refine push_C (Lk := []) (Lc := []) (cs := []) GR.nil hSx (by simp) fun v2 Lc2 B2 H2 hm2 hc2 hS2 => ?_
          haveI := hc2.cell
          clear hSx hS1
          repeat (first | refine Ev.s ?_ | refine Ev.newC fun _ _ _ => ?_ | refine Ev.boxC fun _ _ _ => ?_ | refine Ev.stC fun _ _ => ?_ | refine Ev.sc (by omega) ?_ | refine Ev.scg (by omega) ?_)
          rename_i Hy hSy
          exact rdec_mid (at_ := 3) (cs := [(q : Int)]) hs (by omega) (by simp) ⟨_, _, [], Lc2, GR.nil, hc2, hSy⟩
end
end Go.AM.N
set_option linter.unusedVariables false
set_option linter.unusedSimpArgs false
set_option maxRecDepth 100000
namespace Go.AM.N
open Go Go.AM Go.Proofs
attribute [local irreducible] run bin un ld st box newV mkS fldA fld ixA ix slc slc3 build buildS cv cvS ap cpy lenV gOp pickV b2 aIf aChk evalK resume iterD Option.bind

theorem sumK_bound : ∀ (ks : List (List UInt8)), (∀ k ∈ ks, k.length ≤ 1048576) → sumK ks ≤ ks.length * 1048577
  | [], _ => Nat.le_refl _
  | k :: r, h => by
    have h1 := h k (by simp)
    have h2 := sumK_bound r fun k hk => h k (by simp [hk])
    simp only [sumK, List.length_cons]
    omega
section
variable {B B0 H0 H : AH}
abbrev KNode := Kn.pair Kn.bool (Kn.pair KStrs (Kn.pair KInts Kn.unit))
theorem node_open {v : Value} {x : Bool × List ByteArray × List Int × Unit} (h : KvS KNode H x v) : ∃ kv cv, v = NdA x.1 kv cv ∧ FL H kv str (x.2.1.map fun s => s.data.toList) ∧ FL H cv i64v x.2.2.1 := by
  obtain ⟨cs, rfl, c1, c2, rfl, h1, c3, c4, rfl, h2, c5, c6, rfl, h3, h4⟩ := h
  have h1 : c1 = [.bool x.1] := h1
  have h4 : c6 = [] := h4
  subst h1 h4
  have hl : c3.length = 1 := by
    rcases h2 with ⟨e, _⟩ | ⟨b, css, e, _⟩ <;> rw [e] <;> rfl
  have hl2 : c5.length = 1 := by
    rcases h3 with ⟨e, _⟩ | ⟨b, css, e, _⟩ <;> rw [e] <;> rfl
  obtain ⟨m, rfl⟩ := List.length_eq_one_iff.mp hl
  obtain ⟨m2, rfl⟩ := List.length_eq_one_iff.mp hl2
  exact ⟨m, m2, rfl, strs_open h2, ints_open h3⟩
end
end Go.AM.N
set_option linter.unusedVariables false
set_option linter.unusedSimpArgs false
set_option maxRecDepth 100000
namespace Go.AM.N
open Go Go.AM Go.Proofs
attribute [local irreducible] run bin un ld st box newV mkS fldA fld ixA ix slc slc3 build buildS cv cvS ap cpy lenV gOp pickV b2 aIf aChk evalK resume iterD Option.bind

section
variable {B B0 H0 H : AH}
theorem bytes_law {lf : Bool} {kv cv : Value} {ks0 : List (List UInt8)} {cs0 : List Int} {s : List UInt8} (hk : FL B kv str ks0) (hc : FL B cv i64v cs0) (hks : ∀ k ∈ ks0, k.length ≤ 1048576) (hs : s.length ≤ 1048576) (hL : Le B H) :
    Ev (fun k _ => rn k 3 [NdA lf kv cv, str s] H) (An B H fun _ v => v = .bool true) := by
  refine Ev.fn (fun k => f3_eq k _ _ H) ?_
  have hS := St.start hL
  refine Ev.boxC fun b1 H0' hS0 => ?_
  clear hS
  refine Ev.callD examples_nspec fun v1 B1 H1 hm1 hS1 h1 => ?_
  subst h1
  have hk1 := hk.mono hm1.mo
  have hc1 := hc.mono hm1.mo
  clear hk hc hS0
  repeat (first | refine Ev.s ?_ | refine Ev.newC fun _ _ _ => ?_ | refine Ev.boxC fun _ _ _ => ?_ | refine Ev.stC fun _ _ => ?_ | refine Ev.sc (by omega) ?_ | refine Ev.scg (by omega) ?_)
  refine Ev.callD (few_spec (lf := lf) (ks := ks0) (cs := cs0)) fun v2 B2 H2 hm2 hS2 h2 => ?_
  obtain ⟨kv1, cv1, rfl, hk2, hc2⟩ := h2
  have hf1 := sumK_bound (fewN ⟨lf, ks0, cs0⟩).keys fun k h => hks k (List.mem_of_mem_take h)
  have hf2 : (fewN ⟨lf, ks0, cs0⟩).keys.length ≤ 12 := List.length_take_le 12 ks0
  have hf3 : (fewN ⟨lf, ks0, cs0⟩).kids.length ≤ 13 := List.length_take_le 13 cs0
  have hl : sizeN (fewN ⟨lf, ks0, cs0⟩) < 4611686018427387904 := by unfold sizeN; omega
  have hlf : (fewN ⟨lf, ks0, cs0⟩).leaf = lf := rfl
  rw [hlf]
  generalize hn : fewN ⟨lf, ks0, cs0⟩ = n1 at *
  obtain ⟨lf1, ks, cs⟩ := n1
  simp only at hlf hk2 hc2 hf1 hf2 hf3
  subst hlf
  clear hk1 hc1 hS1 hn
  repeat (first | refine Ev.s ?_ | refine Ev.newC fun _ _ _ => ?_ | refine Ev.boxC fun _ _ _ => ?_ | refine Ev.stC fun _ _ => ?_ | refine Ev.sc (by omega) ?_ | refine Ev.scg (by omega) ?_)
  refine Ev.callD (Encode_spec (lf := lf1) (ks := ks) (cs := cs) hl) fun w3 B3 H3 hm3 hS3 h3 => ?_
  cases hr : rightN ⟨lf1, ks, cs⟩ with
  | true =>
    rw [hr, if_pos rfl] at h3
    subst h3
    repeat (first | refine Ev.s ?_ | refine Ev.newC fun _ _ _ => ?_ | refine Ev.boxC fun _ _ _ => ?_ | refine Ev.stC fun _ _ => ?_ | refine Ev.sc (by omega) ?_ | refine Ev.scg (by omega) ?_)
    refine Ev.callD (ref_spec (lf := lf1) (ks := ks) (cs := cs)) fun w4 B4 H4 hm4 hS4 h4 => ?_
    subst h4
    refine Ev.callD (rEncode_spec (lf := lf1) (ks := ks) (cs := cs) hl) fun w5 B5 H5 hm5 hS5 h5 => ?_
    rw [hr, if_pos rfl] at h5
    subst h5
    repeat (first | refine Ev.s ?_ | refine Ev.newC fun _ _ _ => ?_ | refine Ev.boxC fun _ _ _ => ?_ | refine Ev.stC fun _ _ => ?_ | refine Ev.sc (by omega) ?_ | refine Ev.scg (by omega) ?_)
    refine Ev.callD (Decode_spec (s := s) (by omega)) fun w10 B10 H10 hm10 hS10 h10 => ?_
    cases hd : decN s with
    | none =>
      rw [hd] at h10
      have h10 : w10 = _ := h10
      subst h10
      repeat (first | refine Ev.s ?_ | refine Ev.newC fun _ _ _ => ?_ | refine Ev.boxC fun _ _ _ => ?_ | refine Ev.stC fun _ _ => ?_ | refine Ev.sc (by omega) ?_ | refine Ev.scg (by omega) ?_)
      refine Ev.callD (rDecode_spec (s := s) (by omega)) fun w11 B11 H11 hm11 hS11 h11 => ?_
      rw [hd] at h11
      have h11 : w11 = _ := h11
      subst h11
      repeat (first | refine Ev.s ?_ | refine Ev.newC fun _ _ _ => ?_ | refine Ev.boxC fun _ _ _ => ?_ | refine Ev.stC fun _ _ => ?_ | refine Ev.sc (by omega) ?_ | refine Ev.scg (by omega) ?_)
      refine Ev.callD (nodes_spec (lf := false) (lf2 := false) (kv := .slice none 0 0) (kv2 := .slice none 0 0) (cv := .slice none 0 0) (cv2 := .slice none 0 0) (ks := []) (ks2 := []) (cs := []) (cs2 := []) (ha := ⟨FL.nil⟩) (ha2 := ⟨FL.nil⟩) (hb := ⟨FL.nil⟩) (hb2 := ⟨FL.nil⟩) (by decide) (by decide)) fun w12 B12 H12 hm12 hS12 h12 => ?_
      rw [decide_eq_true ⟨rfl, rfl, rfl⟩] at h12
      subst h12
      repeat (first | refine Ev.s ?_ | refine Ev.newC fun _ _ _ => ?_ | refine Ev.boxC fun _ _ _ => ?_ | refine Ev.stC fun _ _ => ?_ | refine Ev.sc (by omega) ?_ | refine Ev.scg (by omega) ?_)
      refine Ev.callD (Right_nspec (lf := lf1) (ks := ks) (cs := cs) hl) fun w20 B20 H20 hm20 hS20 h20 => ?_
      rw [hr] at h20
      subst h20
      repeat (first | refine Ev.s ?_ | refine Ev.newC fun _ _ _ => ?_ | refine Ev.boxC fun _ _ _ => ?_ | refine Ev.stC fun _ _ => ?_ | refine Ev.sc (by omega) ?_ | refine Ev.scg (by omega) ?_)
      refine Ev.callD (ref_spec (lf := lf1) (ks := ks) (cs := cs)) fun w21 B21 H21 hm21 hS21 h21 => ?_
      subst h21
      repeat (first | refine Ev.s ?_ | refine Ev.newC fun _ _ _ => ?_ | refine Ev.boxC fun _ _ _ => ?_ | refine Ev.stC fun _ _ => ?_ | refine Ev.sc (by omega) ?_ | refine Ev.scg (by omega) ?_)
      refine Ev.callD (rRight_nspec (lf := lf1) (ks := ks) (cs := cs) hl) fun w22 B22 H22 hm22 hS22 h22 => ?_
      rw [hr] at h22
      subst h22
      repeat (first | refine Ev.s ?_ | refine Ev.newC fun _ _ _ => ?_ | refine Ev.boxC fun _ _ _ => ?_ | refine Ev.stC fun _ _ => ?_ | refine Ev.sc (by omega) ?_ | refine Ev.scg (by omega) ?_)
      first | rw [show (true == true) = true from rfl] | rw [show (false == false) = true from rfl]
      repeat (first | refine Ev.s ?_ | refine Ev.newC fun _ _ _ => ?_ | refine Ev.boxC fun _ _ _ => ?_ | refine Ev.stC fun _ _ => ?_ | refine Ev.sc (by omega) ?_ | refine Ev.scg (by omega) ?_)
      refine Ev.callD (Size_spec (lf := lf1) (ks := ks) (cs := cs) hl) fun w23 B23 H23 hm23 hS23 h23 => ?_
      subst h23
      repeat (first | refine Ev.s ?_ | refine Ev.newC fun _ _ _ => ?_ | refine Ev.boxC fun _ _ _ => ?_ | refine Ev.stC fun _ _ => ?_ | refine Ev.sc (by omega) ?_ | refine Ev.scg (by omega) ?_)
      refine Ev.callD (ref_spec (lf := lf1) (ks := ks) (cs := cs)) fun w24 B24 H24 hm24 hS24 h24 => ?_
      subst h24
      repeat (first | refine Ev.s ?_ | refine Ev.newC fun _ _ _ => ?_ | refine Ev.boxC fun _ _ _ => ?_ | refine Ev.stC fun _ _ => ?_ | refine Ev.sc (by omega) ?_ | refine Ev.scg (by omega) ?_)
      refine Ev.callD (rSize_spec (lf := lf1) (ks := ks) (cs := cs) hl) fun w25 B25 H25 hm25 hS25 h25 => ?_
      subst h25
      repeat (first | refine Ev.s ?_ | refine Ev.newC fun _ _ _ => ?_ | refine Ev.boxC fun _ _ _ => ?_ | refine Ev.stC fun _ _ => ?_ | refine Ev.sc (by omega) ?_ | refine Ev.scg (by omega) ?_)
      exact Ev.doneC rfl
    | some n2 =>
      obtain ⟨lf2, ks2, cs2⟩ := n2
      have hsz2 : ks2.length ≤ 120 ∧ cs2.length ≤ 120 := by
        unfold decN at hd
        split at hd
        · rename_i hh
          have R := (rightN_iff.mp hh.1).size
          injection hd with hd
          rw [hd] at R
          have := sumK_len ks2
          unfold sizeN at R
          simp only at R
          omega
        · cases hd
      rw [hd] at h10
      obtain ⟨kv10, cv10, rfl, hk10, hc10⟩ := h10
      simp only at hk10 hc10
      repeat (first | refine Ev.s ?_ | refine Ev.newC fun _ _ _ => ?_ | refine Ev.boxC fun _ _ _ => ?_ | refine Ev.stC fun _ _ => ?_ | refine Ev.sc (by omega) ?_ | refine Ev.scg (by omega) ?_)
      refine Ev.callD (rDecode_spec (s := s) (by omega)) fun w11 B11 H11 hm11 hS11 h11 => ?_
      rw [hd] at h11
      obtain ⟨kv11, cv11, rfl, hk11, hc11⟩ := h11
      simp only at hk11 hc11
      repeat (first | refine Ev.s ?_ | refine Ev.newC fun _ _ _ => ?_ | refine Ev.boxC fun _ _ _ => ?_ | refine Ev.stC fun _ _ => ?_ | refine Ev.sc (by omega) ?_ | refine Ev.scg (by omega) ?_)
      refine Ev.callD (nodes_spec (lf := lf2) (lf2 := lf2) (ks := ks2) (ks2 := ks2) (cs := cs2) (cs2 := cs2) (by omega) (by omega)) fun w12 B12 H12 hm12 hS12 h12 => ?_
      rw [decide_eq_true ⟨rfl, rfl, rfl⟩] at h12
      subst h12
      repeat (first | refine Ev.s ?_ | refine Ev.newC fun _ _ _ => ?_ | refine Ev.boxC fun _ _ _ => ?_ | refine Ev.stC fun _ _ => ?_ | refine Ev.sc (by omega) ?_ | refine Ev.scg (by omega) ?_)
      refine Ev.callD (Right_nspec (lf := lf1) (ks := ks) (cs := cs) hl) fun w20 B20 H20 hm20 hS20 h20 => ?_
      rw [hr] at h20
      subst h20
      repeat (first | refine Ev.s ?_ | refine Ev.newC fun _ _ _ => ?_ | refine Ev.boxC fun _ _ _ => ?_ | refine Ev.stC fun _ _ => ?_ | refine Ev.sc (by omega) ?_ | refine Ev.scg (by omega) ?_)
      refine Ev.callD (ref_spec (lf := lf1) (ks := ks) (cs := cs)) fun w21 B21 H21 hm21 hS21 h21 => ?_
      subst h21
      repeat (first | refine Ev.s ?_ | refine Ev.newC fun _ _ _ => ?_ | refine Ev.boxC fun _ _ _ => ?_ | refine Ev.stC fun _ _ => ?_ | refine Ev.sc (by omega) ?_ | refine Ev.scg (by omega) ?_)
      refine Ev.callD (rRight_nspec (lf := lf1) (ks := ks) (cs := cs) hl) fun w22 B22 H22 hm22 hS22 h22 => ?_
      rw [hr] at h22
      subst h22
      repeat (first | refine Ev.s ?_ | refine Ev.newC fun _ _ _ => ?_ | refine Ev.boxC fun _ _ _ => ?_ | refine Ev.stC fun _ _ => ?_ | refine Ev.sc (by omega) ?_ | refine Ev.scg (by omega) ?_)
      first | rw [show (true == true) = true from rfl] | rw [show (false == false) = true from rfl]
      repeat (first | refine Ev.s ?_ | refine Ev.newC fun _ _ _ => ?_ | refine Ev.boxC fun _ _ _ => ?_ | refine Ev.stC fun _ _ => ?_ | refine Ev.sc (by omega) ?_ | refine Ev.scg (by omega) ?_)
      refine Ev.callD (Size_spec (lf := lf1) (ks := ks) (cs := cs) hl) fun w23 B23 H23 hm23 hS23 h23 => ?_
      subst h23
      repeat (first | refine Ev.s ?_ | refine Ev.newC fun _ _ _ => ?_ | refine Ev.boxC fun _ _ _ => ?_ | refine Ev.stC fun _ _ => ?_ | refine Ev.sc (by omega) ?_ | refine Ev.scg (by omega) ?_)
      refine Ev.callD (ref_spec (lf := lf1) (ks := ks) (cs := cs)) fun w24 B24 H24 hm24 hS24 h24 => ?_
      subst h24
      repeat (first | refine Ev.s ?_ | refine Ev.newC fun _ _ _ => ?_ | refine Ev.boxC fun _ _ _ => ?_ | refine Ev.stC fun _ _ => ?_ | refine Ev.sc (by omega) ?_ | refine Ev.scg (by omega) ?_)
      refine Ev.callD (rSize_spec (lf := lf1) (ks := ks) (cs := cs) hl) fun w25 B25 H25 hm25 hS25 h25 => ?_
      subst h25
      repeat (first | refine Ev.s ?_ | refine Ev.newC fun _ _ _ => ?_ | refine Ev.boxC fun _ _ _ => ?_ | refine Ev.stC fun _ _ => ?_ | refine Ev.sc (by omega) ?_ | refine Ev.scg (by omega) ?_)
      exact Ev.doneC rfl
  | false =>
    rw [hr, if_neg (by simp)] at h3
    subst h3
    repeat (first | refine Ev.s ?_ | refine Ev.newC fun _ _ _ => ?_ | refine Ev.boxC fun _ _ _ => ?_ | refine Ev.stC fun _ _ => ?_ | refine Ev.sc (by omega) ?_ | refine Ev.scg (by omega) ?_)
    refine Ev.callD (ref_spec (lf := lf1) (ks := ks) (cs := cs)) fun w4 B4 H4 hm4 hS4 h4 => ?_
    subst h4
    refine Ev.callD (rEncode_spec (lf := lf1) (ks := ks) (cs := cs) hl) fun w5 B5 H5 hm5 hS5 h5 => ?_
    rw [hr, if_neg (by simp)] at h5
    subst h5
    repeat (first | refine Ev.s ?_ | refine Ev.newC fun _ _ _ => ?_ | refine Ev.boxC fun _ _ _ => ?_ | refine Ev.stC fun _ _ => ?_ | refine Ev.sc (by omega) ?_ | refine Ev.scg (by omega) ?_)
    refine Ev.callD (Decode_spec (s := s) (by omega)) fun w10 B10 H10 hm10 hS10 h10 => ?_
    cases hd : decN s with
    | none =>
      rw [hd] at h10
      have h10 : w10 = _ := h10
      subst h10
      repeat (first | refine Ev.s ?_ | refine Ev.newC fun _ _ _ => ?_ | refine Ev.boxC fun _ _ _ => ?_ | refine Ev.stC fun _ _ => ?_ | refine Ev.sc (by omega) ?_ | refine Ev.scg (by omega) ?_)
      refine Ev.callD (rDecode_spec (s := s) (by omega)) fun w11 B11 H11 hm11 hS11 h11 => ?_
      rw [hd] at h11
      have h11 : w11 = _ := h11
      subst h11
      repeat (first | refine Ev.s ?_ | refine Ev.newC fun _ _ _ => ?_ | refine Ev.boxC fun _ _ _ => ?_ | refine Ev.stC fun _ _ => ?_ | refine Ev.sc (by omega) ?_ | refine Ev.scg (by omega) ?_)
      refine Ev.callD (nodes_spec (lf := false) (lf2 := false) (kv := .slice none 0 0) (kv2 := .slice none 0 0) (cv := .slice none 0 0) (cv2 := .slice none 0 0) (ks := []) (ks2 := []) (cs := []) (cs2 := []) (ha := ⟨FL.nil⟩) (ha2 := ⟨FL.nil⟩) (hb := ⟨FL.nil⟩) (hb2 := ⟨FL.nil⟩) (by decide) (by decide)) fun w12 B12 H12 hm12 hS12 h12 => ?_
      rw [decide_eq_true ⟨rfl, rfl, rfl⟩] at h12
      subst h12
      repeat (first | refine Ev.s ?_ | refine Ev.newC fun _ _ _ => ?_ | refine Ev.boxC fun _ _ _ => ?_ | refine Ev.stC fun _ _ => ?_ | refine Ev.sc (by omega) ?_ | refine Ev.scg (by omega) ?_)
      refine Ev.callD (Right_nspec (lf := lf1) (ks := ks) (cs := cs) hl) fun w20 B20 H20 hm20 hS20 h20 => ?_
      rw [hr] at h20
      subst h20
      repeat (first | refine Ev.s ?_ | refine Ev.newC fun _ _ _ => ?_ | refine Ev.boxC fun _ _ _ => ?_ | refine Ev.stC fun _ _ => ?_ | refine Ev.sc (by omega) ?_ | refine Ev.scg (by omega) ?_)
      refine Ev.callD (ref_spec (lf := lf1) (ks := ks) (cs := cs)) fun w21 B21 H21 hm21 hS21 h21 => ?_
      subst h21
      repeat (first | refine Ev.s ?_ | refine Ev.newC fun _ _ _ => ?_ | refine Ev.boxC fun _ _ _ => ?_ | refine Ev.stC fun _ _ => ?_ | refine Ev.sc (by omega) ?_ | refine Ev.scg (by omega) ?_)
      refine Ev.callD (rRight_nspec (lf := lf1) (ks := ks) (cs := cs) hl) fun w22 B22 H22 hm22 hS22 h22 => ?_
      rw [hr] at h22
      subst h22
      repeat (first | refine Ev.s ?_ | refine Ev.newC fun _ _ _ => ?_ | refine Ev.boxC fun _ _ _ => ?_ | refine Ev.stC fun _ _ => ?_ | refine Ev.sc (by omega) ?_ | refine Ev.scg (by omega) ?_)
      first | rw [show (true == true) = true from rfl] | rw [show (false == false) = true from rfl]
      repeat (first | refine Ev.s ?_ | refine Ev.newC fun _ _ _ => ?_ | refine Ev.boxC fun _ _ _ => ?_ | refine Ev.stC fun _ _ => ?_ | refine Ev.sc (by omega) ?_ | refine Ev.scg (by omega) ?_)
      refine Ev.callD (Size_spec (lf := lf1) (ks := ks) (cs := cs) hl) fun w23 B23 H23 hm23 hS23 h23 => ?_
      subst h23
      repeat (first | refine Ev.s ?_ | refine Ev.newC fun _ _ _ => ?_ | refine Ev.boxC fun _ _ _ => ?_ | refine Ev.stC fun _ _ => ?_ | refine Ev.sc (by omega) ?_ | refine Ev.scg (by omega) ?_)
      refine Ev.callD (ref_spec (lf := lf1) (ks := ks) (cs := cs)) fun w24 B24 H24 hm24 hS24 h24 => ?_
      subst h24
      repeat (first | refine Ev.s ?_ | refine Ev.newC fun _ _ _ => ?_ | refine Ev.boxC fun _ _ _ => ?_ | refine Ev.stC fun _ _ => ?_ | refine Ev.sc (by omega) ?_ | refine Ev.scg (by omega) ?_)
      refine Ev.callD (rSize_spec (lf := lf1) (ks := ks) (cs := cs) hl) fun w25 B25 H25 hm25 hS25 h25 => ?_
      subst h25
      repeat (first | refine Ev.s ?_ | refine Ev.newC fun _ _ _ => ?_ | refine Ev.boxC fun _ _ _ => ?_ | refine Ev.stC fun _ _ => ?_ | refine Ev.sc (by omega) ?_ | refine Ev.scg (by omega) ?_)
      exact Ev.doneC rfl
    | some n2 =>
      obtain ⟨lf2, ks2, cs2⟩ := n2
      have hsz2 : ks2.length ≤ 120 ∧ cs2.length ≤ 120 := by
        unfold decN at hd
        split at hd
        · rename_i hh
          have R := (rightN_iff.mp hh.1).size
          injection hd with hd
          rw [hd] at R
          have := sumK_len ks2
          unfold sizeN at R
          simp only at R
          omega
        · cases hd
      rw [hd] at h10
      obtain ⟨kv10, cv10, rfl, hk10, hc10⟩ := h10
      simp only at hk10 hc10
      repeat (first | refine Ev.s ?_ | refine Ev.newC fun _ _ _ => ?_ | refine Ev.boxC fun _ _ _ => ?_ | refine Ev.stC fun _ _ => ?_ | refine Ev.sc (by omega) ?_ | refine Ev.scg (by omega) ?_)
      refine Ev.callD (rDecode_spec (s := s) (by omega)) fun w11 B11 H11 hm11 hS11 h11 => ?_
      rw [hd] at h11
      obtain ⟨kv11, cv11, rfl, hk11, hc11⟩ := h11
      simp only at hk11 hc11
      repeat (first | refine Ev.s ?_ | refine Ev.newC fun _ _ _ => ?_ | refine Ev.boxC fun _ _ _ => ?_ | refine Ev.stC fun _ _ => ?_ | refine Ev.sc (by omega) ?_ | refine Ev.scg (by omega) ?_)
      refine Ev.callD (nodes_spec (lf := lf2) (lf2 := lf2) (ks := ks2) (ks2 := ks2) (cs := cs2) (cs2 := cs2) (by omega) (by omega)) fun w12 B12 H12 hm12 hS12 h12 => ?_
      rw [decide_eq_true ⟨rfl, rfl, rfl⟩] at h12
      subst h12
      repeat (first | refine Ev.s ?_ | refine Ev.newC fun _ _ _ => ?_ | refine Ev.boxC fun _ _ _ => ?_ | refine Ev.stC fun _ _ => ?_ | refine Ev.sc (by omega) ?_ | refine Ev.scg (by omega) ?_)
      refine Ev.callD (Right_nspec (lf := lf1) (ks := ks) (cs := cs) hl) fun w20 B20 H20 hm20 hS20 h20 => ?_
      rw [hr] at h20
      subst h20
      repeat (first | refine Ev.s ?_ | refine Ev.newC fun _ _ _ => ?_ | refine Ev.boxC fun _ _ _ => ?_ | refine Ev.stC fun _ _ => ?_ | refine Ev.sc (by omega) ?_ | refine Ev.scg (by omega) ?_)
      refine Ev.callD (ref_spec (lf := lf1) (ks := ks) (cs := cs)) fun w21 B21 H21 hm21 hS21 h21 => ?_
      subst h21
      repeat (first | refine Ev.s ?_ | refine Ev.newC fun _ _ _ => ?_ | refine Ev.boxC fun _ _ _ => ?_ | refine Ev.stC fun _ _ => ?_ | refine Ev.sc (by omega) ?_ | refine Ev.scg (by omega) ?_)
      refine Ev.callD (rRight_nspec (lf := lf1) (ks := ks) (cs := cs) hl) fun w22 B22 H22 hm22 hS22 h22 => ?_
      rw [hr] at h22
      subst h22
      repeat (first | refine Ev.s ?_ | refine Ev.newC fun _ _ _ => ?_ | refine Ev.boxC fun _ _ _ => ?_ | refine Ev.stC fun _ _ => ?_ | refine Ev.sc (by omega) ?_ | refine Ev.scg (by omega) ?_)
      first | rw [show (true == true) = true from rfl] | rw [show (false == false) = true from rfl]
      repeat (first | refine Ev.s ?_ | refine Ev.newC fun _ _ _ => ?_ | refine Ev.boxC fun _ _ _ => ?_ | refine Ev.stC fun _ _ => ?_ | refine Ev.sc (by omega) ?_ | refine Ev.scg (by omega) ?_)
      refine Ev.callD (Size_spec (lf := lf1) (ks := ks) (cs := cs) hl) fun w23 B23 H23 hm23 hS23 h23 => ?_
      subst h23
      repeat (first | refine Ev.s ?_ | refine Ev.newC fun _ _ _ => ?_ | refine Ev.boxC fun _ _ _ => ?_ | refine Ev.stC fun _ _ => ?_ | refine Ev.sc (by omega) ?_ | refine Ev.scg (by omega) ?_)
      refine Ev.callD (ref_spec (lf := lf1) (ks := ks) (cs := cs)) fun w24 B24 H24 hm24 hS24 h24 => ?_
      subst h24
      repeat (first | refine Ev.s ?_ | refine Ev.newC fun _ _ _ => ?_ | refine Ev.boxC fun _ _ _ => ?_ | refine Ev.stC fun _ _ => ?_ | refine Ev.sc (by omega) ?_ | refine Ev.scg (by omega) ?_)
      refine Ev.callD (rSize_spec (lf := lf1) (ks := ks) (cs := cs) hl) fun w25 B25 H25 hm25 hS25 h25 => ?_
      subst h25
      repeat (first | refine Ev.s ?_ | refine Ev.newC fun _ _ _ => ?_ | refine Ev.boxC fun _ _ _ => ?_ | refine Ev.stC fun _ _ => ?_ | refine Ev.sc (by omega) ?_ | refine Ev.scg (by omega) ?_)
      exact Ev.doneC rfl
theorem coreNodeBytes (H : AH) (vs : List Value) (x : (Bool × List ByteArray × List Int × Unit) × ByteArray × Unit) (hK : ∃ v0 vs0, vs = v0 :: vs0 ∧ KvS KNode H x.1 v0 ∧ ∃ v1 vs1, vs0 = v1 :: vs1 ∧ KvC Kn.string H x.2.1 v1 ∧ vs1 = [])
    (hG : (True ∧ (x.1.2.1.length ≤ 1048576 ∧ ∀ s ∈ x.1.2.1, s.size ≤ 1048576) ∧ (x.1.2.2.1.length ≤ 1048576 ∧ ∀ n ∈ x.1.2.2.1, (Lit.int .i64 n).wf = true) ∧ True) ∧ x.2.1.size ≤ 1048576 ∧ True) : Ev (fun k _ => rn k 3 vs H) (fun r => r.1 = .bool true) := by
  obtain ⟨v0, _, rfl, h0, v2, _, rfl, h2, rfl⟩ := hK
  obtain ⟨⟨_, ⟨_, g0⟩, _⟩, g2, _⟩ := hG
  obtain ⟨kv, cv, rfl, hk, hc⟩ := node_open h0
  have h2 : [v2] = [.string x.2.1] := h2
  cases h2
  rw [str_of x.2.1]
  refine An.tt (bytes_law hk hc (fun k hk => ?_) (by rw [Array.length_toList]; exact g2) ⟨Mo.refl H⟩)
  obtain ⟨s, hs, rfl⟩ := List.mem_map.mp hk
  rw [Array.length_toList]
  exact g0 s hs
end
end Go.AM.N
set_option linter.unusedVariables false
namespace Go.AM.N
open Go Go.Proofs Go.RowKit
set_option maxHeartbeats 1000000 in
set_option maxRecDepth 100000 in
theorem copyCheck_used (b : Nat) (w : World) (h0 : w.cell? ⟨b, 0, none⟩ = some (.pointer (some ⟨b, 0, none⟩))) :
    Calls Try.prog 50 #[.pointer (some ⟨b, 0, none⟩)] w fun e w' => e = .returned (.tuple #[]) ∧ w' = w := by
  obtain ⟨j, hj⟩ := Option.isSome_iff_exists.1 (show (Try.prog.info? 70).isSome = true by kernel_rfl)
  have mixed : Try.prog.follows .mixedOrders = true := by kernel_rfl
  have t72 := Try.underlying70; have a72 := Try.isAgg70; have z72 := Try.sizeOf70; have v72 := Try.zeroValue70; have u72 := run_underlying t72
  have t70 := Try.underlying67; have a70 := Try.isAgg67; have z70 := Try.sizeOf67; have v70 := Try.zeroValue67; have u70 := run_underlying t70
  go_enter Try.func50, Try.ntmps50
  go_wp2
  rw [Lib.run_neq_ptr_same w _ t70 hj]
  go_wp2
  go_end0
  exact ⟨rfl, rfl⟩
set_option maxHeartbeats 1000000 in
set_option maxRecDepth 100000 in
theorem copyCheck_fresh (T n b : Nat) (hn : 0 < n) (hT : liesAt Try.prog Try.prog.depth T (n / Try.prog.cellsOf T) 0 70 1 = true) (w : World) (h0 : w.cell? ⟨b, 0, none⟩ = some (.pointer none)) (hsh : w.shape? b = some (T, n)) (hfz : w.frozen? ⟨b, 0, none⟩ = false) :
    Calls Try.prog 50 #[.pointer (some ⟨b, 0, none⟩)] w fun e w' => e = .returned (.tuple #[]) ∧ w' = w.setCell ⟨b, 0, none⟩ (.pointer (some ⟨b, 0, none⟩)) := by
  obtain ⟨j, hj⟩ := Option.isSome_iff_exists.1 (show (Try.prog.info? 70).isSome = true by kernel_rfl)
  have hc2 : Try.prog.cellsOf 70 = 2 := by kernel_rfl
  have hjs : j.size ≠ 0 := by
    unfold Program.cellsOf at hc2
    rw [hj] at hc2
    have : j.size = 2 := hc2
    omega
  have mixed : Try.prog.follows .mixedOrders = true := by kernel_rfl
  have t72 := Try.underlying70; have a72 := Try.isAgg70; have z72 := Try.sizeOf70; have v72 := Try.zeroValue70; have u72 := run_underlying t72
  have t70 := Try.underlying67; have a70 := Try.isAgg67; have z70 := Try.sizeOf67; have v70 := Try.zeroValue67; have u70 := run_underlying t70
  have tU := Try.underlying96; have aU := Try.isAgg96; have zU := Try.sizeOf96; have vU := Try.zeroValue96; have uU := run_underlying tU
  go_enter Try.func50, Try.ntmps50
  go_wp2
  rw [Lib.run_to_unsafe w ⟨b, 0, none⟩ t70 tU hj hjs hsh hn]
  simp only [Result.andThen]
  rw [Oper.upon_value]
  go_wp2
  rw [run_callFunc_extern Try.func54 (by kernel_rfl) (by kernel_rfl) (by kernel_rfl) (e := Extern.AbiNoEscape.same) (by kernel_rfl)]
  rw [Lib.run_noEscape]
  simp only [Result.andThen]
  rw [Oper.upon_value]
  go_wp2
  rw [Lib.run_from_unsafe w ⟨b, 0, none⟩ tU t70 hj hsh hT]
  simp only [Result.andThen]
  rw [Oper.upon_value]
  go_wp2
  go_end0
  exact ⟨rfl, rfl⟩
end Go.AM.N
set_option linter.unusedVariables false
set_option linter.unusedSimpArgs false
set_option maxRecDepth 100000
namespace Go.AM.N
open Go Go.AM Go.Proofs
attribute [local irreducible] run bin un ld st box newV mkS fldA fld ixA ix slc slc3 build buildS cv cvS ap cpy lenV gOp pickV b2 aIf aChk evalK resume iterD Option.bind

theorem gv_ok : GivenOK Try.prog gv := by
  intro f g h
  have hgv : gv f = (if f = 50 then some (gCopy Try.prog [70]) else none) := rfl
  rw [hgv] at h
  by_cases hf : f = 50
  · rw [if_pos hf] at h
    cases h
    subst hf
    refine gCopy_ok ⟨_, Try.func50, by decide +kernel, by kernel_rfl⟩ (fun T hT b w h0 hsh hfz => ?_) (fun b w h0 => copyCheck_used b w h0)
    simp only [List.mem_cons, List.not_mem_nil, or_false] at hT
    subst hT
    exact copyCheck_fresh _ _ b (by have : szT Try.prog 70 = 2 := by kernel_rfl
                                    omega) (by kernel_rfl) w h0 hsh hfz
  · rw [if_neg hf] at h
    cases h
end Go.AM.N
set_option linter.unusedVariables false
namespace Go.AM
variable {P : Program}
open Go.ChangeShapes Go.WideShapes Go.Deep Go.RowKit
structure BulkOK (bk : (Hh : Type) → DataW Hh → Nat) : Prop where
  str : ∀ (Hh : Type) (l : List UInt8), l.length ≤ bk Hh (.lit (.string l))
  len : ∀ (Hh : Type) (es sp : List (DataW Hh)), es.length ≤ bk Hh (.slice es sp)
  sl : ∀ (Hh : Type) (es sp : List (DataW Hh)), ∀ e ∈ es, bk Hh e ≤ bk Hh (.slice es sp)
  ag : ∀ (Hh : Type) (ps : List (DataW Hh)), ∀ e ∈ ps, bk Hh e ≤ bk Hh (.agg ps)
variable {bk : (Hh : Type) → DataW Hh → Nat} {N : Nat}
/-- What follows from a cells' list: each is one. -/
def OpAU (bk : (Hh : Type) → DataW Hh → Nat) (N : Nat) (P : Program) (t : TypeId) {α : Type} (d : Kn α) (G : α → Prop) : Prop :=
  ∀ (Hh : Type) (enc : TypeId × Value → Hh) (W : World) (spare : Nat → Bool) (held : Bool) (fuel : Nat) (cs : List Value) (x : DataW Hh × List MemPlace),
    DataW.trod enc P W 0 spare held fuel t cs = some x → bk Hh x.1 ≤ N → SlOK W cs → ∀ (m : Mp) (H : AH), Ro P W m H →
    ∃ m' H' cs' a, Ro P W m' H' ∧ Sub m m' ∧ Fr H H' ∧ LRel m' cs' cs ∧ d.K H' a cs' ∧ G a
theorem opAU_int {t : TypeId} {k : IntKind} (ht : P.underlying t = some (.int k)) : OpAU bk N P t (Kn.int k) (fun n => (Lit.int k n).wf = true) := by
  intro Hh enc W spare held fuel cs x h hb0 _ m H R
  obtain ⟨n, rfl, _, hw⟩ := DataW.trod_int ht h
  exact ⟨m, H, _, n, R, Sub.refl m, Fr.refl H, LRel.one (.flat _ rfl), rfl, hw⟩
theorem opAU_bool {t : TypeId} (ht : P.underlying t = some .bool) : OpAU bk N P t Kn.bool (fun _ => True) := by
  intro Hh enc W spare held fuel cs x h hb0 _ m H R
  obtain ⟨n, rfl, _⟩ := DataW.trod_bool ht h
  exact ⟨m, H, _, n, R, Sub.refl m, Fr.refl H, LRel.one (.flat _ rfl), rfl, trivial⟩
theorem opAU_string {t : TypeId} (BK : BulkOK bk) (ht : P.underlying t = some .string) : OpAU bk N P t Kn.string (fun s => s.size ≤ N) := by
  intro Hh enc W spare held fuel cs x h hb0 _ m H R
  obtain ⟨n, rfl, hx, hw⟩ := DataW.trod_string ht h
  rw [hx] at hb0
  have hn : n.data.toList.length ≤ N := Nat.le_trans (BK.str Hh _) hb0
  rw [Array.length_toList] at hn
  exact ⟨m, H, _, n, R, Sub.refl m, Fr.refl H, LRel.one (.flat _ rfl), rfl, hn⟩
theorem opAU_slice {t e : TypeId} {α : Type} {d : Kn α} {G : α → Prop} {sz : Nat} (BK : BulkOK bk) (ht : P.underlying t = some (.slice e)) (hsz : P.cellsOf e = sz) (he : OpAU bk N P e d G) (hn : NoSl P e) :
    OpAU bk N P t (Kn.slice e sz d) (fun l => l.length ≤ N ∧ ∀ x ∈ l, G x) := by
  intro Hh enc W spare held fuel cs x h hb0 hs m H R
  rcases open_slice ht h with ⟨rfl, _⟩ | ⟨a, len, cap, mm, n, D, Pl, rfl, _, hlc, hcm, hm, hxx, hel⟩
  · exact ⟨m, H, [.slice none 0 0], [], R, Sub.refl m, Fr.refl H, LRel.one (.flat _ rfl), Or.inl ⟨rfl, rfl⟩, by simp, fun x hx => by simp at hx⟩
  · have hlm : len ≤ mm := by rw [hm]; split <;> omega
    rw [hxx] at hb0
    have hbl : len ≤ N := by have := BK.len Hh ((List.range len).map D) ((List.range (mm - len)).map fun j => D (len + j)); rw [List.length_map, List.length_range] at this; exact Nat.le_trans this hb0
    have hbD : ∀ i, i < len → bk Hh (D i) ≤ N := fun i hi => Nat.le_trans (BK.sl Hh _ _ (D i) (List.mem_map.mpr ⟨i, List.mem_range.mpr hi, rfl⟩)) hb0
    obtain ⟨hsp, c, te, fr, hb⟩ := hs a len cap (by simp)
    have hcell : ∀ i, i < mm → ∃ cs', cs' = (c.toList.drop (a.off + i * sz)).take sz ∧ cs'.length = sz ∧ DataW.trod enc P W 0 spare held n e cs' = some (D i, Pl i) := by
      intro i hi
      obtain ⟨cs', h1, h2⟩ := hel i hi
      obtain ⟨_, h3, h4⟩ := World.cells?_some h1
      rw [hsz] at h3 h4
      refine ⟨cs', ?_, h3, h2⟩
      apply List.ext_getElem?
      intro j
      by_cases hj : j < sz
      · rw [List.getElem?_take_of_lt hj, List.getElem?_drop, ← h4 j hj]
        have e1 : (a.add (i * sz)).add j = a.add (i * sz + j) := add_add _ _ _
        have e2 : (a.add (i * sz + j)).block = a.block ∧ (a.add (i * sz + j)).spot = none ∧ (a.add (i * sz + j)).off = a.off + (i * sz + j) := by
          unfold Addr.add
          by_cases h0 : i * sz + j = 0
          · rw [if_pos h0, h0]; exact ⟨rfl, hsp, rfl⟩
          · rw [if_neg h0]; exact ⟨rfl, rfl, rfl⟩
        rw [e1]
        unfold World.cell?
        rw [e2.1, hb]
        simp only [e2.2.1, e2.2.2]
        simp [Nat.add_assoc]
      · rw [List.getElem?_eq_none (by omega), List.getElem?_eq_none (by rw [List.length_take]; omega)]
    have key : ∀ q, q ≤ len → ∃ (m' : Mp) (H' : AH) (l : List α) (css : List (List Value)), Ro P W m' H' ∧ Sub m m' ∧ Fr H H' ∧ l.length = q ∧ css.length = q ∧ (∀ x ∈ l, G x) ∧ css.flatten.length = q * sz ∧ LRel m' css.flatten ((c.toList.drop a.off).take (q * sz)) ∧
        ∀ (i : Nat) (y : α) (c : List Value), l[i]? = some y → css[i]? = some c → c.length = sz ∧ d.K H' y c := by
      intro q
      induction q with
      | zero => exact fun _ => ⟨m, H, [], [], R, Sub.refl m, Fr.refl H, rfl, rfl, fun x hx => by simp at hx, by simp, by simpa using LRel.nil m, fun i y c h => by simp at h⟩
      | succ q ih =>
        intro hq
        obtain ⟨m1, H1, l, css, R1, s1, f1, hl, hcs, hG, hfl, hLR, hK⟩ := ih (by omega)
        obtain ⟨cs', e1, e2, e3⟩ := hcell q (by omega)
        obtain ⟨m2, H2, ds, y, R2, s2, f2, hLR2, hK2, hG2⟩ := he Hh enc W spare held n cs' _ e3 (hbD q (by omega)) (hn Hh enc W spare held n cs' _ e3) m1 H1 R1
        refine ⟨m2, H2, l ++ [y], css ++ [ds], R2, s1.trans s2, f1.trans f2, by simp [hl], by simp [hcs], ?_, ?_, ?_, ?_⟩
        · intro x hx
          rcases List.mem_append.1 hx with hx | hx
          · exact hG x hx
          · simp at hx; subst hx; exact hG2
        · rw [flatten_snoc, List.length_append, hfl, hLR2.1, e2, Nat.succ_mul]
        · rw [flatten_snoc, Nat.succ_mul, List.take_add, List.drop_drop, ← e1]
          exact (hLR.mono s2).append hLR2
        · intro i y' c' h1 h2
          by_cases hi : i < q
          · rw [List.getElem?_append_left (by omega)] at h1 h2
            exact ⟨(hK i y' c' h1 h2).1, d.mono f2.mo (hK i y' c' h1 h2).2⟩
          · have hi2 := (List.getElem?_eq_some_iff.1 h1).1
            have : i = q := by simp [hl] at hi2; omega
            subst this
            rw [List.getElem?_append_right (by omega), hl, Nat.sub_self] at h1
            rw [List.getElem?_append_right (by omega), hcs, Nat.sub_self] at h2
            simp at h1 h2
            subst h1 h2
            exact ⟨by rw [hLR2.1, e2], hK2⟩
    obtain ⟨m1, H1, l, css, R1, s1, f1, hl, hcs, hG, hfl, hLR, hK⟩ := key len (Nat.le_refl _)
    obtain ⟨m2, s2, hm2, R2⟩ := R1.add (ks := css.flatten) (e := e) (base := a.off) hb (by rw [hfl]; exact hLR)
    have fnew : Fr H1 (mkB H1 css.flatten e .ro) := ⟨by rw [length_mkB]; omega, fun b hb => blk_mkB_old hb⟩
    refine ⟨m2, mkB H1 css.flatten e .ro, [sl H1.length 0 l.length (l.length + 1)], l, R2, s1.trans s2, f1.trans fnew, ?_, Or.inr ⟨H1.length, css, rfl, blk_mkB_new, by omega, fun i y c h1 h2 => ⟨(hK i y c h1 h2).1, d.mono fnew.mo (hK i y c h1 h2).2⟩⟩, by omega, hG⟩
    refine LRel.one ?_
    rw [hl]
    have ea : a = ⟨a.block, a.off, none⟩ := by rw [← hsp]
    rw [ea]
    exact .slice H1.length 0 a.off len (len + 1) cap ⟨a.block, a.off, .ro, 0, 0⟩ hm2 (by omega) hlc (.inl (by simp)) (fun h => (by cases h)) (fun h => (by cases h)) (fun _ => .inl (by omega))

/-- The fields of a struct from one on. -/
def OpFsU (bk : (Hh : Type) → DataW Hh → Nat) (N : Nat) (P : Program) (fs : List Field) (off tot : Nat) {α : Type} (d : Kn α) (G : α → Prop) : Prop :=
  ∀ (Hh : Type) (enc : TypeId × Value → Hh) (W : World) (spare : Nat → Bool) (held : Bool) (fuel : Nat) (cs : List Value),
    (∀ f ∈ fs, ∃ x, DataW.trod enc P W 0 spare held fuel f.type ((cs.drop f.offset).take (P.cellsOf f.type)) = some x ∧ bk Hh x.1 ≤ N) → cs.length = tot → SlOK W cs → ∀ (m : Mp) (H : AH), Ro P W m H →
    ∃ m' H' cs' a, Ro P W m' H' ∧ Sub m m' ∧ Fr H H' ∧ LRel m' cs' (cs.drop off) ∧ d.K H' a cs' ∧ G a
theorem opFsU_nil {off : Nat} : OpFsU bk N P [] off off Kn.unit (fun _ => True) := by
  intro Hh enc W spare held fuel cs _ hl hs m H R
  refine ⟨m, H, [], (), R, Sub.refl m, Fr.refl H, ?_, rfl, trivial⟩
  rw [List.drop_eq_nil_of_le (by omega)]; exact LRel.nil m
theorem opFsU_cons {f : Field} {fs : List Field} {off tot sz : Nat} {α β : Type} {a : Kn α} {b : Kn β} {G0 : α → Prop} {G1 : β → Prop} (ho : f.offset = off) (hc : P.cellsOf f.type = sz) (A : OpAU bk N P f.type a G0)
    (B : OpFsU bk N P fs (off + sz) tot b G1) : OpFsU bk N P (f :: fs) off tot (Kn.pair a b) (fun x => G0 x.1 ∧ G1 x.2) := by
  intro Hh enc W spare held fuel cs hf hl hs m H R
  obtain ⟨x, hx, hbx⟩ := hf f (by simp)
  rw [ho, hc] at hx
  obtain ⟨m1, H1, c1, y1, R1, s1, f1, l1, k1, g1⟩ := A Hh enc W spare held fuel _ x hx hbx (fun a l c h => hs a l c (List.mem_of_mem_drop (List.mem_of_mem_take h))) m H R
  obtain ⟨m2, H2, c2, y2, R2, s2, f2, l2, k2, g2⟩ := B Hh enc W spare held fuel cs (fun g hg => hf g (by simp [hg])) hl hs m1 H1 R1
  refine ⟨m2, H2, c1 ++ c2, (y1, y2), R2, s1.trans s2, f1.trans f2, ?_, ⟨c1, c2, rfl, a.mono f2.mo k1, k2⟩, g1, g2⟩
  have := (l1.mono s2).append l2
  rw [← List.drop_drop, List.take_append_drop] at this
  exact this
theorem opAU_struct {t : TypeId} {fs : List Field} {tot : Nat} {α : Type} {d : Kn α} {G : α → Prop} (BK : BulkOK bk) (ht : P.underlying t = some (.struct ⟨fs⟩)) (hc : P.cellsOf t = tot) (A : OpFsU bk N P fs 0 tot d G) : OpAU bk N P t d G := by
  intro Hh enc W spare held fuel cs x h hb0 hs m H R
  obtain ⟨xs, n, _, rfl, hl, hlen, hf⟩ := DataW.trod_struct ht h
  refine A Hh enc W spare held n cs (fun f hfm => ?_) (by rw [hl, hc]) hs m H R
  obtain ⟨i, hi, he⟩ := List.mem_iff_getElem.1 hfm
  have h1 := hf i f (by simp [← he, hi])
  rw [h1]
  have : i < xs.length := by rw [hlen]; simpa using hi
  exact ⟨_, List.getElem?_eq_getElem this, Nat.le_trans (BK.ag Hh _ _ (List.mem_map.mpr ⟨_, List.getElem_mem this, rfl⟩)) hb0⟩
/-- An argument. -/
structure OpVU (bk : (Hh : Type) → DataW Hh → Nat) (N : Nat) (P : Program) (t : TypeId) {α : Type} (d : Kn α) (G : α → Prop) (KV : AH → α → Value → Prop) : Prop where
  op : OpAU bk N P t d G
  val : ∀ (W : World) (base : Nat) (v : Value), Value.okWide P W .any base t v → (∃ cs, v = .agg cs) ∧ (∀ H a cs, d.K H a cs → KV H a (.agg cs.toArray)) ∨ v.cells = #[v] ∧ (∀ H a v, d.K H a [v] → KV H a v)
  mono : ∀ {H H' : AH} {a : α} {v : Value}, Mo H H' → KV H a v → KV H' a v
theorem opVU_struct {t : TypeId} {fs : Array Field} {α : Type} {d : Kn α} {G : α → Prop} (ht : P.underlying t = some (.struct fs)) (A : OpAU bk N P t d G) : OpVU bk N P t d G (KvS d) := by
  refine ⟨A, fun W base v h => .inl ⟨?_, fun H a cs h => ⟨cs, rfl, h⟩⟩, fun hm ⟨cs, h1, h2⟩ => ⟨cs, h1, d.mono hm h2⟩⟩
  unfold Value.okWide at h
  rw [ht] at h
  obtain ⟨cs, rfl, _⟩ := h
  exact ⟨cs, rfl⟩
theorem opVU_cell {t : TypeId} {D : TypeDesc} {α : Type} {d : Kn α} {G : α → Prop} (ht : P.underlying t = some D) (hD : (∀ fs, D ≠ .struct fs) ∧ ∀ n e, D ≠ .array n e) (A : OpAU bk N P t d G) : OpVU bk N P t d G (KvC d) := by
  refine ⟨A, fun W base v h => .inr ⟨?_, fun H a v h => h⟩, fun hm h => d.mono hm h⟩
  unfold Value.okWide at h
  rw [ht] at h
  have h' : Cell.okWide P W .any base t v := by
    cases D with
    | struct fs => exact absurd rfl (hD.1 fs)
    | array n e => exact absurd rfl (hD.2 n e)
    | _ => exact h
  cases v with
  | agg cs =>
    exfalso
    unfold Cell.okWide at h'
    rw [ht] at h'
    cases D <;> simp [Cell.ok, ht] at h'
  | _ => rfl
/-- All arguments. -/
structure OpAsU (bk : (Hh : Type) → DataW Hh → Nat) (N : Nat) (P : Program) (ts : List TypeId) {α : Type} (G : α → Prop) (KV : AH → α → List Value → Prop) : Prop where
  op : ∀ (Hh : Type) (enc : TypeId × Value → Hh) (W : World) (base : Nat) (spare : Nat → Bool) (held : Bool) (vs : List Value) (ds : List (DataW Hh)) (ps : List MemPlace),
    DataW.TrodAll enc P W 0 spare held ts vs ds ps → (∀ d ∈ ds, bk Hh d ≤ N) → (∀ (j : Nat) t v, ts[j]? = some t → vs[j]? = some v → Value.okWide P W .any base t v) → ∀ (m : Mp) (H : AH), Ro P W m H →
    ∃ m' H' vs' a, Ro P W m' H' ∧ Sub m m' ∧ Fr H H' ∧ LRel m' vs' vs ∧ KV H' a vs' ∧ G a
  mono : ∀ {H H' : AH} {a : α} {vs : List Value}, Mo H H' → KV H a vs → KV H' a vs
theorem opAsU_nil : OpAsU bk N P [] (fun _ : Unit => True) (fun _ _ vs => vs = []) := by
  refine ⟨?_, fun _ h => h⟩
  intro Hh enc W base spare held vs ds ps h _ _ m H R
  obtain ⟨rfl, rfl, rfl⟩ := trodAll_nil h
  exact ⟨m, H, [], (), R, Sub.refl m, Fr.refl H, LRel.nil m, rfl, trivial⟩
theorem opAsU_cons {t : TypeId} {ts : List TypeId} {α β : Type} {d : Kn α} {G : α → Prop} {KV : AH → α → Value → Prop} {G' : β → Prop} {KV' : AH → β → List Value → Prop} (A : OpVU bk N P t d G KV) (B : OpAsU bk N P ts G' KV') :
    OpAsU bk N P (t :: ts) (fun x : α × β => G x.1 ∧ G' x.2) (fun H x vs => ∃ v vs', vs = v :: vs' ∧ KV H x.1 v ∧ KV' H x.2 vs') := by
  refine ⟨?_, fun hm ⟨v, vs', h1, h2, h3⟩ => ⟨v, vs', h1, A.mono hm h2, B.mono hm h3⟩⟩
  intro Hh enc W base spare held vs ds ps h hbs hv m H R
  obtain ⟨v, vs', d0, ds', p, q, rfl, rfl, rfl, ⟨fuel, h0⟩, hr⟩ := trodAll_cons h
  have hok := hv 0 t v rfl rfl
  obtain ⟨m2, H2, us, y2, R2, s2, f2, l2, k2, g2⟩ := B.op Hh enc W base spare held vs' ds' q hr (fun d hd => hbs d (List.mem_cons_of_mem _ hd)) (fun j t' v' h1 h2 => hv (j + 1) t' v' h1 h2) m H R
  obtain ⟨m1, H1, cs', y1, R1, s1, f1, l1, k1, g1⟩ := A.op Hh enc W spare held fuel _ _ h0 (hbs _ (List.mem_cons_self ..)) (slOK_of hok) m2 H2 R2
  rcases A.val W base v hok with ⟨⟨cs, rfl⟩, hk⟩ | ⟨hc, hk⟩
  · exact ⟨m1, H1, .agg cs'.toArray :: us, (y1, y2), R1, s2.trans s1, f2.trans f1, LRel.cons (VRel.aggL (by simpa [Value.cells] using l1)) (l2.mono s1), ⟨_, _, rfl, hk _ _ _ k1, B.mono f1.mo k2⟩, g1, g2⟩
  · rw [hc] at l1
    obtain ⟨x, rfl⟩ : ∃ x, cs' = [x] := List.length_eq_one_iff.1 l1.1
    exact ⟨m1, H1, x :: us, (y1, y2), R1, s2.trans s1, f2.trans f1, LRel.cons (l1.2 0 x v rfl rfl) (l2.mono s1), ⟨_, _, rfl, hk _ _ _ k1, B.mono f1.mo k2⟩, g1, g2⟩
end Go.AM
