/-
  Facts of the abstract evaluator and of the functions that the law reaches, part 1. Conditions: none.
-/
import Derived.Laws.Tables
import Derived.Laws.IdiomRangeMap
import Derived.Test.YtmbffiebfmnhhaaDoorG0PagerLasts
set_option linter.unusedVariables false
set_option linter.unusedSimpArgs false
set_option linter.unnecessarySimpa false
set_option exponentiation.threshold 200000
set_option maxRecDepth 100000
set_option linter.unusedVariables false
set_option linter.unusedSimpArgs false
namespace Go.AM
open Go.RowKit

def exOf : EX → Exit
  | .normal => .normal
  | .exit id => .exit id
  | .ret => .ret
/-- What is so behind a region. -/
structure After (P : Program) (B0 : Nat) (w0 : World) (m : Mp) (H : AH) (w : World) (ds : List Deferred) (T' : List Value) (H' : AH) (m' : Mp) (a' : Act) (w' : World) : Prop where
  ext : Ext m H w m' H' w'
  rel : Rel P B0 w0 m' H' w'
  tmps : LRel m' T' a'.tmps.toList
  defers : a'.defers = ds
/-- What is so behind a piece of code. -/
structure AfterM (P : Program) (Bf B0 : Nat) (w0 : World) (m : Mp) (H : AH) (w : World) (T' : List Value) (H' : AH) (m' : Mp) (a' : Act) (w' : World) : Prop where
  ext : Ext m H w m' H' w'
  rel : Rel P B0 w0 m' H' w'
  tmps : LRel m' T' a'.tmps.toList
  marks : Marks Bf a'.defers m' H' w'
def CodeSim (P : Program) (r : Option Nat) (c : Code) (T : List Value) (H : AH) (e : EX) (T' : List Value) (H' : AH) : Prop :=
  ∀ (n Bf B0 : Nat) (w0 : World) (m : Mp) (a : Act) (w : World) (Q : Exit → Act → World → Prop), Rel P B0 w0 m H w → LRel m T a.tmps.toList → Marks Bf a.defers m H w → Bf ≤ w.heap.size →
    (∀ m' a' w', AfterM P Bf B0 w0 m H w T' H' m' a' w' → Q (exOf e) a' w') → c.wpIn (FW r) n P Q a w

section
variable {P : Program} {call : CallF}

theorem put_rel {m : Mp} {T : List Value} {a : Act} (hT : LRel m T a.tmps.toList) (dst : Option Tmp) {v v' : Value} (hv : VRel m v v') : LRel m (putT T dst v) (a.put dst v').tmps.toList := by
  cases dst with
  | none => exact hT
  | some d =>
    simp only [putT, Act.put, Array.toList_setIfInBounds]
    exact hT.set d hv
theorem put_defers (a : Act) (dst : Option Tmp) (v : Value) : (a.put dst v).defers = a.defers := by cases dst <;> rfl
theorem aCall_res {R : Type} (ρ : Operand → Value) (c : Call) (H : AH) (K : Value → AH → Option R) : aCall P call ρ c H K = (aCall P call ρ c H fun v H' => some (v, H')).bind fun p => K p.1 p.2 := by
  unfold aCall
  split
  · simp [Option.bind_assoc]
  · split <;> simp [Option.bind_assoc]
  · split <;> simp [Option.bind_assoc]
  · split
    · rename_i t x _ _
      cases isMapT P t <;> simp [Option.bind_assoc]
    · rfl
  · split <;> simp [Option.bind_assoc]
  · simp [Option.bind_assoc]
  · simp [Option.bind_assoc]
  · split <;> simp [Option.bind_assoc]
  · split <;> simp [Option.bind_assoc]
  · rfl
theorem aOp_res {R : Type} (ρ : Operand → Value) (op : Op) (H : AH) (K : Value → AH → Option R) : aOp P call ρ op H K = (aRes P call ρ op H).bind fun p => K p.1 p.2 := by
  unfold aRes
  cases op
  case call c => simp only [aOp]; exact aCall_res ρ c H K
  case convert s d x =>
    simp only [aOp]
    cases isBytesToString P s d <;> simp [Option.bind_assoc]
  case makeFunc fn first captured => cases fn <;> simp [aOp]
  case slice t x lo hi mx => cases mx <;> simp [aOp, Option.bind_assoc]
  case makeMap t r => cases r <;> simp [aOp, Option.bind_assoc]
  all_goals simp [aOp, Option.bind_assoc]
theorem res_sound (hcall : CallOK P call) {T : List Value} {H : AH} {o : Oper} {v : Value} {H' : AH} (h : aRes P call (opv T) o.op H = some (v, H')) {B0 : Nat} {w0 : World} {m : Mp} {a : Act} {w : World} (R0 : Rel P B0 w0 m H w) (hT : LRel m T a.tmps.toList) :
    OpSim P B0 w0 o a m H w v H' := by
  obtain ⟨v1, H1, h1, h2⟩ := op_sound hcall R0 hT (K := fun v H' => some (v, H')) h
  cases h1
  exact h2
/-- A guard, by what the evaluator knows. -/
def Off (u : Value) (want : Bool) : Prop := (∃ b, u = .bool b ∧ b ≠ want) ∨ ∃ vs : Array Value, u = .tuple vs ∧ vs.size = 0
theorem gOp_inv {u : Value} {want : Bool} {x : Option (Value × AH)} {H : AH} {p : Value × AH} (h : gOp u want x H = some p) : (u = .bool want ∧ x = some p) ∨ (Off u want ∧ p = (undef, H)) := by
  unfold gOp at h
  split at h
  · rename_i b
    split at h
    · rename_i hb; subst hb; exact .inl ⟨rfl, h⟩
    · rename_i hb; cases h; exact .inr ⟨.inl ⟨b, rfl, hb⟩, rfl⟩
  · rename_i vs
    cases hs : vs.size == 0 with
    | true => rw [hs] at h; cases h; exact .inr ⟨.inr ⟨vs, rfl, by simpa using hs⟩, rfl⟩
    | false => rw [hs] at h; cases h
  · cases h
theorem Off.not {u : Value} {want : Bool} (h : Off u want) : u ≠ .bool want := by
  rintro rfl
  rcases h with ⟨b, hb, hne⟩ | ⟨vs, hv, _⟩
  · cases hb; exact hne rfl
  · cases hv
theorem yield_rel {ops : Array Oper} {m : Mp} {T : List Value} {a : Act} (hT : LRel m T a.tmps.toList) (j : Nat) : (∀ b, yieldV ops T j = .bool b → yielded ops a.tmps j = some b) ∧ (∀ vs : Array Value, yieldV ops T j = .tuple vs → yielded ops a.tmps j = none) := by
  have hu : VRel m (yieldV ops T j) (match (ops[j]?).bind (·.dst) with | some d => a.tmps.getD d undef | none => undef) := by
    unfold yieldV
    cases hd : (ops[j]?).bind (·.dst) with
    | none => exact VRel.undef _
    | some d => exact opv_rel hT (.tmp d)
  have hy : ∀ u, (match (ops[j]?).bind (·.dst) with | some d => a.tmps.getD d undef | none => undef) = u → yielded ops a.tmps j = match u with | .bool b => some b | _ => none := by
    intro u hu2
    subst hu2
    unfold yielded
    cases hd : (ops[j]?).bind (·.dst) with
    | none => simp [undef]
    | some d =>
      simp only [Option.bind_some]
      by_cases hlt : d < a.tmps.size
      · have e1 : a.tmps[d]? = some (a.tmps.getD d undef) := by simp [Array.getD, hlt]
        rw [e1]
        cases a.tmps.getD d undef <;> rfl
      · simp [Array.getD, hlt, undef]
  refine ⟨fun b hb => ?_, fun vs hv => ?_⟩
  · rw [hb] at hu
    rw [hy _ hu.bool_inv]
  · rw [hv] at hu
    obtain ⟨ys, he, _⟩ := hu.tuple_inv
    rw [hy _ he]
theorem wanted_of {ops : Array Oper} {tmps : Array Value} {o : Oper} {j : Nat} {want : Bool} (hg : o.guard = some (j, want)) {q : Option Bool} (hy : yielded ops tmps j = q) : Region.wanted o (yielded ops tmps) = (q == some want) := by
  unfold Region.wanted
  rw [hg]
  simp only [hy]
theorem After.start {P : Program} {B0 : Nat} {w0 : World} {m : Mp} {H : AH} {w : World} {T : List Value} {a : Act} {ds : List Deferred} (R0 : Rel P B0 w0 m H w) (hT : LRel m T a.tmps.toList) (hd : a.defers = ds) : After P B0 w0 m H w ds T H m a w := ⟨Ext.refl _ _ _, R0, hT, hd⟩
theorem After.trans {P : Program} {B0 : Nat} {w0 : World} {m m1 m2 : Mp} {H H1 H2 : AH} {w w1 w2 : World} {T2 : List Value} {a2 : Act} {ds : List Deferred} (R0 : Rel P B0 w0 m H w) (h : Ext m H w m1 H1 w1) (k : After P B0 w0 m1 H1 w1 ds T2 H2 m2 a2 w2) : After P B0 w0 m H w ds T2 H2 m2 a2 w2 :=
  ⟨Ext.trans (fun b L hb => (R0.dom b L hb).1) h k.ext, k.rel, k.tmps, k.defers⟩
theorem AfterM.start {P : Program} {Bf B0 : Nat} {w0 : World} {m : Mp} {H : AH} {w : World} {T : List Value} {a : Act} (R0 : Rel P B0 w0 m H w) (hT : LRel m T a.tmps.toList) (hd : Marks Bf a.defers m H w) : AfterM P Bf B0 w0 m H w T H m a w := ⟨Ext.refl _ _ _, R0, hT, hd⟩
theorem AfterM.trans {P : Program} {Bf B0 : Nat} {w0 : World} {m m1 m2 : Mp} {H H1 H2 : AH} {w w1 w2 : World} {T2 : List Value} {a2 : Act} (R0 : Rel P B0 w0 m H w) (h : Ext m H w m1 H1 w1) (k : AfterM P Bf B0 w0 m1 H1 w1 T2 H2 m2 a2 w2) : AfterM P Bf B0 w0 m H w T2 H2 m2 a2 w2 :=
  ⟨Ext.trans (fun b L hb => (R0.dom b L hb).1) h k.ext, k.rel, k.tmps, k.marks⟩
theorem After.m {P : Program} {Bf B0 : Nat} {w0 : World} {m m' : Mp} {H H' : AH} {w w' : World} {T' : List Value} {a' : Act} {ds : List Deferred} (R0 : Rel P B0 w0 m H w) (hd : Marks Bf ds m H w) (A : After P B0 w0 m H w ds T' H' m' a' w') : AfterM P Bf B0 w0 m H w T' H' m' a' w' :=
  ⟨A.ext, A.rel, A.tmps, by rw [A.defers]; exact hd.ext R0 A.ext⟩
/-- One operation, inside the fence. -/
def OpSimF (P : Program) (r : Option Nat) (n B0 : Nat) (w0 : World) (o : Oper) (a : Act) (m : Mp) (H : AH) (w : World) (v : Value) (H' : AH) : Prop :=
  ∀ (next : Act → World → Prop) (Q : Exit → Act → World → Prop), (∀ m' v' w', Ext m H w m' H' w' → Rel P B0 w0 m' H' w' → VRel m' v v' → next (a.put o.dst v') w') → o.wpIn (FW r) n P a w next Q
theorem opY_res {R : Type} (ρ : Operand → Value) (op : Op) (H : AH) (K : Value → AH → Option R) : opY P call ρ op H K = (opY P call ρ op H fun v H' => some (v, H')).bind fun p => K p.1 p.2 := by
  have e1 : ∀ {α : Type} (x : Option (Value × AH)) (K : Value → AH → Option α), (x.bind fun p => K p.1 p.2) = (x.bind fun p => some (p.1, p.2)).bind fun p => K p.1 p.2 := by
    intro α x K
    cases x <;> rfl
  have g : ∀ (op : Op), (∀ {α : Type} (K : Value → AH → Option α), opY P call ρ op H K = aOp P call ρ op H K) → opY P call ρ op H K = (opY P call ρ op H fun v H' => some (v, H')).bind fun p => K p.1 p.2 := by
    intro op h
    rw [h, h]
    exact aOp_res ρ op H K
  cases op
  case call c =>
    obtain ⟨callee, args, ts⟩ := c
    cases callee
    case value f => exact e1 (callY call (ρ f) (args.toList.map ρ) H) K
    all_goals exact g _ fun K => rfl
  case convert s d x =>
    show (bif isStrToBytes P s d then _ else _) = Option.bind (bif isStrToBytes P s d then _ else _) _
    cases isStrToBytes P s d with
    | true => exact e1 (cvB P d H (ρ x)) K
    | false => exact aOp_res (P := P) (call := call) ρ (.convert s d x) H K
  all_goals exact g _ fun K => rfl
theorem aRes_noDef {ρ : Operand → Value} {op : Op} {H : AH} {p : Value × AH} (h : aRes P call ρ op H = some p) : isDef op = false := by
  cases op <;> first | rfl | (unfold aRes at h; cases h)
theorem opY_sound (hcall : CallOK P call) {T : List Value} {H : AH} {o : Oper} {v : Value} {H' : AH} (h : (opY P call (opv T) o.op H fun v H' => some (v, H')) = some (v, H')) {r : Option Nat} {n B0 : Nat} {w0 : World} {m : Mp} {a : Act} {w : World} (R0 : Rel P B0 w0 m H w) (hT : LRel m T a.tmps.toList) :
    OpSimF P r n B0 w0 o a m H w v H' := by
  have plain : aRes P call (opv T) o.op H = some (v, H') → OpSimF P r n B0 w0 o a m H w v H' := fun hh next Q hn =>
    oper_in (isDefer_no (aRes_noDef hh)) (res_sound hcall hh R0 hT next Q hn)
  unfold opY at h
  split at h
  · rename_i f args ts hop
    obtain ⟨p, h1, h2⟩ := bind_some h
    cases h2
    by_cases hy : ∃ b xs ys, opv T f = .func (.yield b) xs ys
    · obtain ⟨b, xs, ys, hf⟩ := hy
      rw [hf] at h1
      have hfr := opv_rel hT f
      rw [hf] at hfr
      obtain ⟨L, hm, he, hLk, _, _⟩ := hfr.yld_inv
      obtain ⟨fn, tmps, assign, body, hy1, hy2⟩ := hcall.2 b _ _ _ _ h1 (n - 1) B0 w0 m w _ L R0 (args_rel hT args.toList) hm hLk
      intro next Q hn
      obtain ⟨dst, op, ty, ps, af, g⟩ := o
      simp only at hop
      subst hop
      have e2 : (args.toList.map a.eval).toArray = args.map a.eval := by apply Array.ext'; simp
      rw [e2] at hy1
      refine ⟨fun _ _ => trivial, ?_⟩
      rw [Oper.semAt_eq _ _ _ (by simp)]
      have hrun : (execOp a.eval ⟨dst, .call ⟨.value f, args, ts⟩, ty, ps, af, g⟩).run P w = .ok (.round L.blk fn tmps assign body) w := by
        simp [execOp, resolve, he, Deferred.ofValue, invoke, hy1]
      rw [hrun]
      simp only [Oper.uponIn]
      refine ⟨fun hx => by simp [FW, Fence.wide] at hx, ?_⟩
      refine RoundIn.mono (F := FW r) hy2 fun e w' he => ?_
      obtain ⟨m', v', rfl, q1, q2, q3⟩ := he
      exact hn m' v' w' q3 q2 q1
    · refine plain ?_
      unfold aRes
      rw [hop]
      have e1 : callY call (opv T f) (args.toList.map (opv T)) H = callV call (opv T f) (args.toList.map (opv T)) H := by
        unfold callY
        split
        · rename_i b xs ys hf; exact (hy ⟨b, xs, ys, hf⟩).elim
        · rfl
      rw [e1] at h1
      show (callV call (opv T f) (args.toList.map (opv T)) H).bind _ = _
      rw [h1]
      rfl
  · rename_i s d x hop
    cases hb : isStrToBytes P s d with
    | true =>
      rw [hb] at h
      obtain ⟨p, h1, h2⟩ := bind_some h
      obtain ⟨pv, pH⟩ := p
      cases h2
      obtain ⟨v', m', w', q1, q2, q3, q4⟩ := cvB_sound R0 (opv_rel hT x) hb h1
      intro next Q hn
      obtain ⟨dst, op, ty, ps, af, g⟩ := o
      simp only at hop
      subst hop
      exact oper_in (isDefer_no rfl) (OpSim.value (by simp [execOp, q1]) q2 q3 q4 next Q hn)
    | false =>
      rw [hb] at h
      refine plain ?_
      unfold aRes
      rw [hop]
      exact h
  · exact plain h
def OpsSim (P : Program) (r : Option Nat) (ops : Array Oper) (idx : List Nat) (T : List Value) (H : AH) (T' : List Value) (H' : AH) : Prop :=
  ∀ (n B0 : Nat) (w0 : World) (m : Mp) (a : Act) (w : World) (ds : List Deferred) (Q : Exit → Act → World → Prop), Rel P B0 w0 m H w → LRel m T a.tmps.toList → a.defers = ds → (∀ m' a' w', After P B0 w0 m H w ds T' H' m' a' w' → Q .normal a' w') → wpOpsIn (FW r) n P ops Q idx a w
theorem evOps_sound (hcall : CallOK P call) (r0 : Option Nat) (ops : Array Oper) {R : Type} {K : List Value → AH → Option R} {r : R} : ∀ (l : List Oper) (i : Nat) (T : List Value) (H : AH), (∀ j, l[j]? = ops[i + j]?) → evOps P call ops l T H K = some r →
    ∃ T' H', K T' H' = some r ∧ OpsSim P r0 ops (List.range' i l.length) T H T' H'
  | [], i, T, H, hl, h => ⟨T, H, h, fun n B0 w0 m a w ds Q R0 hT hd hq => hq m a w (After.start R0 hT hd)⟩
  | o :: l, i, T, H, hl, h => by
    have ho : ops[i]? = some o := by have := hl 0; simpa using this.symm
    have hl' : ∀ j, l[j]? = ops[i + 1 + j]? := fun j => by have := hl (j + 1); rw [show i + 1 + j = i + (j + 1) by omega]; simpa using this
    -- done
    have done : ∀ (hh : (opY P call (opv T) o.op H fun v H' => evOps P call ops l (putT T o.dst v) H' K) = some r), ∃ T' H', K T' H' = some r ∧
        ∀ (n B0 : Nat) (w0 : World) (m : Mp) (a : Act) (w : World) (ds : List Deferred) (Q : Exit → Act → World → Prop), Region.wanted o (yielded ops a.tmps) = true → Rel P B0 w0 m H w → LRel m T a.tmps.toList → a.defers = ds → (∀ m' a' w', After P B0 w0 m H w ds T' H' m' a' w' → Q .normal a' w') → wpOpsIn (FW r0) n P ops Q (List.range' i (o :: l).length) a w := by
      intro hh
      rw [opY_res] at hh
      obtain ⟨⟨v, H1⟩, h1, h2⟩ := bind_some hh
      obtain ⟨T', H', h3, h4⟩ := evOps_sound hcall r0 ops l (i + 1) _ _ hl' h2
      refine ⟨T', H', h3, fun n B0 w0 m a w ds Q hw R0 hT hd hq => ?_⟩
      rw [List.length_cons, List.range'_succ]
      simp only [wpOpsIn, ho]
      rw [if_pos hw]
      refine opY_sound hcall h1 R0 hT _ _ fun m' v' w' E R' hv => ?_
      exact h4 n B0 w0 m' _ w' ds Q R' (put_rel (hT.mono E.mono) _ hv) (by rw [put_defers]; exact hd) fun m2 a2 w2 A => hq m2 a2 w2 (After.trans R0 E A)
    have skipped : ∀ (hh : evOps P call ops l (putT T o.dst undef) H K = some r), ∃ T' H', K T' H' = some r ∧
        ∀ (n B0 : Nat) (w0 : World) (m : Mp) (a : Act) (w : World) (ds : List Deferred) (Q : Exit → Act → World → Prop), Region.wanted o (yielded ops a.tmps) = false → Rel P B0 w0 m H w → LRel m T a.tmps.toList → a.defers = ds → (∀ m' a' w', After P B0 w0 m H w ds T' H' m' a' w' → Q .normal a' w') → wpOpsIn (FW r0) n P ops Q (List.range' i (o :: l).length) a w := by
      intro hh
      obtain ⟨T', H', h3, h4⟩ := evOps_sound hcall r0 ops l (i + 1) _ _ hl' hh
      refine ⟨T', H', h3, fun n B0 w0 m a w ds Q hw R0 hT hd hq => ?_⟩
      rw [List.length_cons, List.range'_succ]
      simp only [wpOpsIn, ho]
      rw [if_neg (by simp [hw])]
      exact ⟨fun _ _ => trivial, h4 n B0 w0 m _ w ds Q R0 (put_rel hT _ (VRel.undef _)) (by rw [put_defers]; exact hd) hq⟩
    unfold evOps at h
    cases hg : o.guard with
    | none =>
      rw [hg] at h
      obtain ⟨T', H', h3, h4⟩ := done h
      exact ⟨T', H', h3, fun n B0 w0 m a w ds Q R0 hT hd hq => h4 n B0 w0 m a w ds Q (by unfold Region.wanted; rw [hg]) R0 hT hd hq⟩
    | some p =>
      obtain ⟨j, want⟩ := p
      rw [hg] at h
      obtain ⟨p, hp, h⟩ := bind_some h
      rcases gOp_inv hp with ⟨hu, h5⟩ | ⟨hu, rfl⟩
      · obtain ⟨T', H', h3, h4⟩ := done (by rw [opY_res, h5]; exact h)
        exact ⟨T', H', h3, fun n B0 w0 m a w ds Q R0 hT hd hq => h4 n B0 w0 m a w ds Q (by rw [wanted_of hg ((yield_rel hT j).1 _ hu)]; simp) R0 hT hd hq⟩
      · obtain ⟨T', H', h3, h4⟩ := skipped h
        refine ⟨T', H', h3, fun n B0 w0 m a w ds Q R0 hT hd hq => h4 n B0 w0 m a w ds Q ?_ R0 hT hd hq⟩
        rcases hu with ⟨b, hu, hb⟩ | ⟨vs, hu, _⟩
        · rw [wanted_of hg ((yield_rel hT j).1 _ hu)]; simp [hb]
        · rw [wanted_of hg ((yield_rel hT j).2 _ hu)]; rfl

theorem maskT_rel {m : Mp} (keep : List Nat) : ∀ (T Ts : List Value) (i : Nat), LRel m T Ts → LRel m (maskT keep i T) Ts
  | [], Ts, i, h => h
  | x :: T, Ts, i, h => by
    obtain ⟨y, zs, rfl, hv, hr⟩ := h.cons_inv
    unfold maskT
    refine LRel.cons ?_ (maskT_rel keep T zs (i + 1) hr)
    cases keep.contains i
    · exact .unk _
    · exact hv
theorem cutT_rel {m : Mp} (tb : Tbl) (k : Nat) {T Ts : List Value} (h : LRel m T Ts) : LRel m (cutT tb k T) Ts := by
  unfold cutT
  split
  · exact maskT_rel _ _ _ _ h
  · exact h
theorem CodeSim.trans_cut {r : Option Nat} {c d : Code} {T T1 T1' T2 : List Value} {H H1 H2 : AH} {e : EX} (hcut : ∀ (m : Mp) (Ts : List Value), LRel m T1 Ts → LRel m T1' Ts) (h : CodeSim P r c T H .normal T1 H1) (k : CodeSim P r d T1' H1 e T2 H2) : CodeSim P r (.seq c d) T H e T2 H2 := by
  intro n Bf B0 w0 m a w Q R0 hT hd hB hq
  apply wpIn_seq
  refine h n Bf B0 w0 m a w _ R0 hT hd hB fun m1 a1 w1 A => ?_
  refine k n Bf B0 w0 m1 a1 w1 Q A.rel (hcut _ _ A.tmps) A.marks (Nat.le_trans hB A.ext.size) fun m2 a2 w2 A2 => hq m2 a2 w2 (AfterM.trans R0 A.ext A2)
/-- A region that draws its order. -/
def DrawSim (P : Program) (ops : Array Oper) (T : List Value) (H : AH) (T' : List Value) (H' : AH) : Prop :=
  ∀ (B0 : Nat) (w0 : World) (m : Mp) (a : Act) (w : World) (ds : List Deferred) (Q : Exit → Act → World → Prop), Rel P B0 w0 m H w → LRel m T a.tmps.toList → a.defers = ds → (∀ m' a' w', After P B0 w0 m H w ds T' H' m' a' w' → Q .normal a' w') →
    wpAny P .any ops Q ops.size (Array.replicate ops.size false) a w
def DrawOK (P : Program) (call : CallF) : Prop :=
  ∀ (ops : Array Oper), regOK ops = true → ∀ (R : Type) (T : List Value) (H : AH) (K : List Value → AH → Option R) (r : R), evD P call ops (befL [] ops.toList) ops.toList 0 T H [] [] K = some r → ∃ T' H', K T' H' = some r ∧ DrawSim P ops T H T' H'
theorem noDef_at {ops : Array Oper} (h : noDef ops = true) (i : Nat) (o : Oper) (ho : ops[i]? = some o) : isDef o.op = false := by
  unfold noDef at h
  have := List.all_eq_true.1 h o (by have := List.mem_of_getElem? (l := ops.toList) (i := i) (a := o) (by simpa using ho); exact this)
  simpa using this
theorem noGoto_mono {Q : Exit → Act → World → Prop} {e : EX} {a : Act} {w : World} (h : Q (exOf e) a w) : Exit.noGoto Q (exOf e) a w := by cases e <;> exact h
theorem getSt_inv {H : AH} {b c : Nat} (h : getSt H b = some c) : ∃ k f key x T, blk H b = some k ∧ k.kind = .loop f key ∧ k.cells = .int .i64 x :: T ∧ c = x.toNat := by
  unfold getSt at h
  obtain ⟨k, h1, h2⟩ := bind_some h
  split at h2
  · rename_i f key x T e1 e2
    cases h2
    exact ⟨k, f, key, x, T, h1, e1, e2, rfl⟩
  · cases h2
theorem setSt_inv {H H' : AH} {b c d : Nat} (h : setSt H b c d = some H') : ∃ k f key T, blk H b = some k ∧ k.kind = .loop f key ∧ k.cells = .int .i64 (c : Int) :: T ∧ H' = put H b k (.int .i64 (d : Int) :: T) := by
  unfold setSt at h
  obtain ⟨k, h1, h2⟩ := bind_some h
  split at h2
  · rename_i f key x T e1 e2
    split at h2
    · rename_i hx
      subst hx
      cases h2
      exact ⟨k, f, key, T, h1, e1, e2, rfl⟩
    · cases h2
  · cases h2
/-- The record's state is turned. -/
theorem Rel.setSt {B0 : Nat} {w0 : World} {m : Mp} {H : AH} {w : World} (R0 : Rel P B0 w0 m H w) {b c d : Nat} {L : Loc} {H' : AH} (hm : m b = some L) (h : AM.setSt H b c d = some H') :
    ∃ rc : Loop, w.heap[L.blk]? = some (.loop rc) ∧ StOK c rc.state rc.pending ∧ ∀ st pe, StOK d st pe → Rel P B0 w0 m H' (w.putObj L.blk (.loop { rc with state := st, pending := pe })) ∧ Ext m H w m H' (w.putObj L.blk (.loop { rc with state := st, pending := pe })) := by
  obtain ⟨k, f, key, T, h1, h2, h3, rfl⟩ := setSt_inv h
  have hB := R0.blks b L k hm h1
  obtain ⟨rc, hw, hr, c', T', e1, e2, e3⟩ := hB.lp f key h2
  rw [h3] at e1
  injection e1 with e4 e5
  injection e4 with _ e6
  have e6 : c = c' := by omega
  subst e6 e5
  have hlt : L.blk < w.heap.size := (R0.dom b L hm).2
  refine ⟨rc, hw, e3, fun st pe hst => ?_⟩
  exact R0.turn hm h1 (by rw [h2]; simp) _ _ ⟨hB.kind, fun hx => (by rw [h2] at hx; cases hx), fun hx => (by rw [h2] at hx; cases hx), fun f' key' hx => by
    rw [h2] at hx
    cases hx
    exact ⟨_, World.putObj_heap_same hlt, hr, d, T, rfl, e2, hst⟩, hB.own, fun hx => (by rw [h2] at hx; cases hx)⟩
def jumpOf : EX → Option Code
  | .normal => none
  | .ret => some .ret
  | .exit i => some (.exit i)
def RangesAt (P : Program) (f : FuncId) (c : Code) : Prop := ∀ x ∈ rgs c, rangeAt P f (firstId x.2.2) = some x
theorem evalK_sound (hcall : CallOK P call) (hdraw : DrawOK P call) (hmix : P.follows .mixedOrders = true) (n0 : Nat) (tb : Tbl) (rr : Option Nat) : ∀ (c : Code), (rr = none ∨ rgs c = []) → RangesAt P (fidOf tb) c → ∀ {R : Type} (T : List Value) (H : AH) (K : EX → List Value → AH → Option R) (r : R),
    evalK P call n0 tb c T H K = some r → ∃ e T' H', K e T' H' = some r ∧ CodeSim P rr c T H e T' H' := by
  intro c
  induction c with
  | skip =>
    intro _ _ R T H K r h
    exact ⟨.normal, T, H, h, fun n Bf B0 w0 m a w Q R0 hT hd hB hq => wpIn_skip (hq m a w (AfterM.start R0 hT hd))⟩
  | region id ops draw =>
    intro _ _ R T H K r h
    simp only [evalK] at h
    cases draw with
    | true =>
      simp only [cond_true] at h
      cases hr : regOK ops && noDef ops with
      | false => rw [hr] at h; cases h
      | true =>
        rw [hr] at h
        rw [Bool.and_eq_true] at hr
        obtain ⟨T', H', h1, h2⟩ := hdraw ops hr.1 R T H _ r h
        refine ⟨.normal, T', H', h1, fun n Bf B0 w0 m a w Q R0 hT hd hB hq => wpIn_region_any hmix ?_⟩
        have h3 := h2 B0 w0 m a w.drew a.defers (fun e a' w' => e = .normal ∧ Q .normal a' w') R0.drew hT rfl fun m' a' w' A => ⟨rfl, hq m' a' w' (After.m R0 hd ⟨Ext.trans (fun b L hb => (R0.dom b L hb).1) (Ext.refl m H w).drew A.ext, A.rel, A.tmps, A.defers⟩)⟩
        have h4 := any_in (r := rr) (n := n) (fun i o ho => noDef_at hr.2 i o ho) (fun hl => by obtain ⟨_, _, hx, _⟩ := hl; cases hx) _ _ _ _ h3
        exact wpAnyIn_monoQ (fun e a w hx => by obtain ⟨rfl, hx⟩ := hx; exact hx) _ _ _ _ h4
    | false =>
      simp only [cond_false] at h
      obtain ⟨T', H', h1, h2⟩ := evOps_sound hcall rr ops ops.toList 0 T H (fun j => by simp) h
      refine ⟨.normal, T', H', h1, fun n Bf B0 w0 m a w Q R0 hT hd hB hq => wpIn_region ?_⟩
      have := h2 n B0 w0 m a w a.defers Q R0 hT rfl fun m' a' w' A => hq m' a' w' (After.m R0 hd A)
      rwa [Array.length_toList, ← List.range_eq_range'] at this
  | seq x y ihx ihy =>
    intro hrr hrg R T H K r h
    have hx1 : rr = none ∨ rgs x = [] := hrr.imp id fun hh => (List.append_eq_nil_iff.1 hh).1
    have hy1 : rr = none ∨ rgs y = [] := hrr.imp id fun hh => (List.append_eq_nil_iff.1 hh).2
    have hx2 : RangesAt P (fidOf tb) x := fun z hz => hrg z (List.mem_append.2 (.inl hz))
    have hy2 : RangesAt P (fidOf tb) y := fun z hz => hrg z (List.mem_append.2 (.inr hz))
    simp only [evalK] at h
    obtain ⟨e, T1, H1, h1, h2⟩ := ihx hx1 hx2 T H _ r h
    cases e with
    | normal =>
      obtain ⟨e2, T2, H2, h3, h4⟩ := ihy hy1 hy2 _ _ _ r h1
      exact ⟨e2, T2, H2, h3, CodeSim.trans_cut (fun m Ts hh => cutT_rel tb _ hh) h2 h4⟩
    | exit id => exact ⟨.exit id, T1, H1, h1, fun n Bf B0 w0 m a w Q R0 hT hd hB hq => wpIn_seq (h2 n Bf B0 w0 m a w _ R0 hT hd hB fun m1 a1 w1 A => hq m1 a1 w1 A)⟩
    | ret => exact ⟨.ret, T1, H1, h1, fun n Bf B0 w0 m a w Q R0 hT hd hB hq => wpIn_seq (h2 n Bf B0 w0 m a w _ R0 hT hd hB fun m1 a1 w1 A => hq m1 a1 w1 A)⟩
  | cond c x y ihx ihy =>
    intro hrr hrg R T H K r h
    have hx1 : rr = none ∨ rgs x = [] := hrr.imp id fun hh => (List.append_eq_nil_iff.1 hh).1
    have hy1 : rr = none ∨ rgs y = [] := hrr.imp id fun hh => (List.append_eq_nil_iff.1 hh).2
    have hx2 : RangesAt P (fidOf tb) x := fun z hz => hrg z (List.mem_append.2 (.inl hz))
    have hy2 : RangesAt P (fidOf tb) y := fun z hz => hrg z (List.mem_append.2 (.inr hz))
    simp only [evalK] at h
    obtain ⟨b, hb, hr⟩ := aIf_inv h
    cases b with
    | true =>
      obtain ⟨e, T1, H1, h1, h2⟩ := ihx hx1 hx2 T H K r hr
      refine ⟨e, T1, H1, h1, fun n Bf B0 w0 m a w Q R0 hT hd hB hq => wpIn_cond_true ?_ (h2 n Bf B0 w0 m a w Q R0 hT hd hB hq)⟩
      have := opv_rel hT c
      rw [hb] at this
      exact this.bool_inv
    | false =>
      obtain ⟨e, T1, H1, h1, h2⟩ := ihy hy1 hy2 T H K r hr
      refine ⟨e, T1, H1, h1, fun n Bf B0 w0 m a w Q R0 hT hd hB hq => wpIn_cond_false ?_ (h2 n Bf B0 w0 m a w Q R0 hT hd hB hq)⟩
      have := opv_rel hT c
      rw [hb] at this
      exact this.bool_inv
  | block id b ih =>
    intro hrr hrg R T H K r h
    simp only [evalK] at h
    obtain ⟨e, T1, H1, h1, h2⟩ := ih hrr hrg T H _ r h
    cases e with
    | normal => exact ⟨.normal, T1, H1, h1, fun n Bf B0 w0 m a w Q R0 hT hd hB hq => wpIn_block (h2 n Bf B0 w0 m a w _ R0 hT hd hB fun m1 a1 w1 A => hq m1 a1 w1 A)⟩
    | ret => exact ⟨.ret, T1, H1, h1, fun n Bf B0 w0 m a w Q R0 hT hd hB hq => wpIn_block (h2 n Bf B0 w0 m a w _ R0 hT hd hB fun m1 a1 w1 A => hq m1 a1 w1 A)⟩
    | exit i =>
      by_cases hi : i = id
      · subst hi
        refine ⟨.normal, T1, H1, by simpa [kBlock] using h1, fun n Bf B0 w0 m a w Q R0 hT hd hB hq => wpIn_block (h2 n Bf B0 w0 m a w _ R0 hT hd hB fun m1 a1 w1 A => ?_)⟩
        show (if i = i then Q .normal a1 w1 else Q (.exit i) a1 w1)
        rw [if_pos rfl]
        exact hq m1 a1 w1 A
      · have hi' : (i == id) = false := by simpa using hi
        refine ⟨.exit i, T1, H1, by simpa [kBlock, hi'] using h1, fun n Bf B0 w0 m a w Q R0 hT hd hB hq => wpIn_block (h2 n Bf B0 w0 m a w _ R0 hT hd hB fun m1 a1 w1 A => ?_)⟩
        show (if i = id then Q .normal a1 w1 else Q (.exit i) a1 w1)
        rw [if_neg hi]
        exact hq m1 a1 w1 A
  | loop b ih =>
    intro hrr hrg R T H K r h
    simp only [evalK] at h
    obtain ⟨⟨e, T', H'⟩, h1, h2⟩ := bind_some h
    refine ⟨e, T', H', h2, ?_⟩
    have key : ∀ (k : Nat) (T : List Value) (H : AH), iterD (fun T H K => evalK P call n0 tb b T H K) (cutT tb (3 * firstId b + 1)) (cutT tb (3 * firstId b + 2)) k T H = some (e, T', H') →
        ∀ (n Bf B0 : Nat) (w0 : World) (m : Mp) (a : Act) (w : World) (Q : Exit → Act → World → Prop), Rel P B0 w0 m H w → LRel m T a.tmps.toList → Marks Bf a.defers m H w → Bf ≤ w.heap.size → (∀ m' a' w', AfterM P Bf B0 w0 m H w T' H' m' a' w' → Q (exOf e) a' w') → Code.roundsIn (FW rr) n P b Q k a w := by
      intro k
      induction k with
      | zero => intro T H hh; cases hh
      | succ k ihk =>
        intro T H hh
        simp only [iterD] at hh
        obtain ⟨e1, T1, H1, h3, h4⟩ := ih hrr hrg (R := Out) _ _ _ _ hh
        intro n Bf B0 w0 m a w Q R0 hT hd hB hq
        rw [roundsIn_succ]
        refine h4 n Bf B0 w0 m a w _ R0 hT hd hB fun m1 a1 w1 A => ?_
        cases e1 with
        | normal => exact ihk _ H1 h3 n Bf B0 w0 m1 a1 w1 Q A.rel (cutT_rel tb _ A.tmps) A.marks (Nat.le_trans hB A.ext.size) fun m2 a2 w2 A2 => hq m2 a2 w2 (AfterM.trans R0 A.ext A2)
        | exit id => cases h3; exact hq m1 a1 w1 ⟨A.ext, A.rel, cutT_rel tb _ A.tmps, A.marks⟩
        | ret => cases h3; exact hq m1 a1 w1 ⟨A.ext, A.rel, cutT_rel tb _ A.tmps, A.marks⟩
    exact fun n Bf B0 w0 m a w Q R0 hT hd hB hq => wpIn_loop_rounds _ (key n0 _ H h1 n Bf B0 w0 m a w Q R0 (cutT_rel tb _ hT) hd hB hq)
  | rangeFunc g ps assign body iha ihb =>
    intro hrr hrg R T H K r h
    have hrn : rr = none := hrr.resolve_right (by simp [rgs])
    subst hrn
    have hat := hrg (ps, assign, body) (by simp [rgs])
    simp only [evalK] at h
    obtain ⟨p, h1, h2⟩ := bind_some h
    unfold rgBack at h2
    obtain ⟨c, h3, h4⟩ := bind_some h2
    have hst : ∃ e, c = xSt e ∧ K e (cutT tb (3 * firstId body + 2) T) (kill p.2 H.length) = some r := by
      unfold stX at h4
      split at h4
      · exact ⟨.normal, rfl, h4⟩
      · cases h4
      · exact ⟨.ret, rfl, h4⟩
      · exact ⟨.exit _, rfl, h4⟩
    obtain ⟨e, rfl, h5⟩ := hst
    refine ⟨e, _, _, h5, ?_⟩
    clear h5 h4 h2 h
    unfold rgCall callV at h1
    split at h1
    · rename_i q first captured hf
      obtain ⟨hlt, h1⟩ := blt_inv h1
      obtain ⟨hen, hsim⟩ := hcall.1 _ _ _ _ _ hlt h1
      intro n Bf B0 w0 m a w Q R0 hT hd hB hq
      have hfr := opv_rel hT g
      rw [hf] at hfr
      have hsplit : ∃ a' b', a.eval g = .func (.func q) a' b' ∧ LRel m first.toList a'.toList ∧ LRel m captured.toList b'.toList := by
        generalize a.eval g = u at hfr
        cases hfr with
        | flat v hf => simp [flat1] at hf
        | func f a b a' b' h1 h2 h3 h4 => exact ⟨a', b', rfl, ⟨by simpa using h1, fun i x y hx hy => h2 i x y (by simpa using hx) (by simpa using hy)⟩, ⟨by simpa using h3, fun i x y hx hy => h4 i x y (by simpa using hx) (by simpa using hy)⟩⟩
      obtain ⟨a', b', he, hla, hlb⟩ := hsplit
      refine wpIn_rangeFunc fun fn _ => ?_
      obtain ⟨Ra, Ea⟩ := R0.allocSkip (.deferred (some []))
      obtain ⟨rc, hrc⟩ : ∃ rc : Loop, rc = { state := .ready, pending := none, fn, tmps := a.tmps, params := ps, assign, body, defers := w.heap.size } := ⟨_, rfl⟩
      obtain ⟨Rb, Eb⟩ := Ra.makeO (.int .i64 0 :: cutT tb (3 * firstId body + 1) T) (firstId body) (.loop (fidOf tb) (firstId body)) (.loop rc) ⟨(w.alloc (.deferred (some []))).heap.size, 0, .loop (fidOf tb) (firstId body), 0, 0⟩ rfl (fun m' hm' => ⟨rfl, fun hx => (by cases hx), fun hx => (by cases hx), fun f key hx => by
        cases hx
        exact ⟨rc, heap_alloc_new _ _, by rw [hrc]; exact hat, 0, _, rfl, by rw [hrc]; exact (cutT_rel tb _ hT).mono hm', by rw [hrc]; exact ⟨rfl, rfl⟩⟩, fun _ => by simp; have := R0.hB; omega, fun hx => (by cases hx)⟩)
      generalize hm1 : upd m H.length _ = m1 at Rb Eb
      have hmb : m1 H.length = some ⟨w.heap.size + 1, 0, .loop (fidOf tb) (firstId body), 0, 0⟩ := by rw [← hm1, World.size_alloc]; exact upd_same _ _ _
      have E1 := Ext.trans (fun b L hb => (R0.dom b L hb).1) Ea Eb
      have hK1 : ((w.alloc (.deferred (some []))).alloc (.loop rc)).heap[w.heap.size]? = some (.deferred (some [])) := (Below.heap_alloc _ _ _ (by simp)).trans (World.alloc_heap_new w _)
      have hM1 : Marks Bf (mark w.heap.size :: a.defers) m1 (mkB H (.int .i64 0 :: cutT tb (3 * firstId body + 1) T) (firstId body) (.loop (fidOf tb) (firstId body))) ((w.alloc (.deferred (some []))).alloc (.loop rc)) := by
        obtain ⟨Ds, d1, d2, d3⟩ := hd.ext R0 E1
        have hno : w.heap.size ∉ Ds := by
          intro hmem
          obtain ⟨Ds0, e1, e2, e3⟩ := hd
          have : Ds = Ds0 := by
            have := d1.symm.trans e1
            exact (List.map_inj_right (f := mark) (fun x y hxy => by simpa [mark] using hxy)).1 this
          subst this
          have := (Array.getElem?_eq_some_iff.1 (e3 _ hmem).2.1).1
          omega
        refine ⟨w.heap.size :: Ds, by rw [d1]; rfl, List.nodup_cons.2 ⟨hno, d2⟩, fun D hD => ?_⟩
        cases hD with
        | tail _ hD => exact d3 D hD
        | head =>
          refine ⟨hB, hK1, fun b L k hb hk hne => ?_⟩
          by_cases hbl : b = H.length
          · subst hbl
            rw [hmb] at hb
            cases hb
            show w.heap.size + 1 ≠ _
            omega
          · have : m b = some L := by
              rw [← hm1] at hb
              unfold upd at hb
              rwa [if_neg hbl] at hb
            have := (R0.dom b L this).2
            omega
      have hargs : LRel m1 (first.toList ++ ([Value.func (.yield H.length) #[] #[]] ++ captured.toList)) (a'.toList ++ ([Value.func (.yield (w.heap.size + 1)) #[] #[]] ++ b'.toList)) :=
        (hla.mono E1.mono).append ((LRel.cons (.yld _ _ hmb ⟨_, _, rfl⟩) (LRel.nil _)).append (hlb.mono E1.mono))
      have hcl := hsim B0 w0 m1 _ _ Rb hargs
      refine ⟨w.heap.size + 1, [mark w.heap.size], (w.alloc (.deferred (some []))).alloc (.loop rc), { target := .fn (.func q) b', args := a' ++ #[.func (.yield (w.heap.size + 1)) #[] #[]] }, (w.alloc (.deferred (some []))).alloc (.loop rc), q,
        (a'.toList ++ ([Value.func (.yield (w.heap.size + 1)) #[] #[]] ++ b'.toList)).toArray, (w.alloc (.deferred (some []))).alloc (.loop rc), ?_, ?_, fun _ _ => trivial, ?_, fun hx => by simp [FW, Fence.wide] at hx, ?_⟩
      · rw [hrc]; exact run_enterLoop_outer _ _ _ _ _
      · simp only [resolve, he]
        simp [go_sem]
      · have e2 : (a'.toList ++ ([Value.func (.yield (w.heap.size + 1)) #[] #[]] ++ b'.toList)).toArray = a' ++ #[Value.func (.yield (w.heap.size + 1)) #[] #[]] ++ b' := by
          apply Array.ext'
          simp
        rw [e2]
        simp [invoke, run_callFunc hen]
      · refine fw_calls (hcl.mono fun ee w3 hee => ?_)
        obtain ⟨m2, v', rfl, q1, q2, q3⟩ := hee
        obtain ⟨k, f, key, x, T3, g1, g2, g3, g4⟩ := getSt_inv h3
        have hm2 := q3.mono _ _ hmb
        have hBk := q2.blks _ _ _ hm2 g1
        obtain ⟨rc3, hw3, _, c3, T4, g5, _, g6⟩ := hBk.lp f key g2
        rw [g3] at g5
        injection g5 with g7 _
        injection g7 with _ g8
        have g9 : c3 = xSt e := by rw [g4]; omega
        subst g9
        have hnb : rc3.state ≠ .busy := by
          cases e <;> obtain ⟨z1, z2⟩ := g6 <;> rw [z1] <;> simp
        have hpe : rc3.pending = jumpOf e := by
          cases e <;> obtain ⟨z1, z2⟩ := g6 <;> exact z2
        obtain ⟨R4, E4⟩ := q2.killObj hm2 g1 (by rw [g2]; simp) (.loop { rc3 with state := .exhausted })
        have Eall := Ext.trans (fun b L hb => (R0.dom b L hb).1) E1 (Ext.trans (fun b L hb => (Rb.dom b L hb).1) q3 E4)
        have hfin := hq m2 { a with defers := mark w.heap.size :: a.defers } _ ⟨Eall, R4, (cutT_rel tb _ hT).mono Eall.mono, (hM1.ext Rb q3).ext q2 E4⟩
        refine ⟨rc3.pending, _, run_endLoop hw3 hnb, ?_⟩
        rw [hpe] at hfin ⊢
        cases e with
        | normal => exact hfin
        | ret => exact wpIn_ret hfin
        | exit i => exact wpIn_exit hfin
    · cases h1
  | exit id =>
    intro _ _ R T H K r h
    exact ⟨.exit id, T, H, h, fun n Bf B0 w0 m a w Q R0 hT hd hB hq => wpIn_exit (hq m a w (AfterM.start R0 hT hd))⟩
  | scope b ih =>
    intro hrr hrg R T H K r h
    simp only [evalK] at h
    obtain ⟨e, T1, H1, h1, h2⟩ := ih hrr hrg T H K r h
    exact ⟨e, T1, H1, h1, fun n Bf B0 w0 m a w Q R0 hT hd hB hq => wpIn_scope_straight (h2 n Bf B0 w0 m a w _ R0 hT hd hB fun m1 a1 w1 A => noGoto_mono (hq m1 a1 w1 A))⟩
  | label l =>
    intro _ _ R T H K r h
    exact ⟨.normal, T, H, h, fun n Bf B0 w0 m a w Q R0 hT hd hB hq => wpIn_label (hq m a w (AfterM.start R0 hT hd))⟩
  | goto l => intro _ _ R T H K r h; cases h
  | ret =>
    intro _ _ R T H K r h
    exact ⟨.ret, T, H, h, fun n Bf B0 w0 m a w Q R0 hT hd hB hq => wpIn_ret (hq m a w (AfterM.start R0 hT hd))⟩
  | refuse why => intro _ _ R T H K r h; cases h
theorem resOne_sound {B0 : Nat} {w0 : World} {m : Mp} {H : AH} {w : World} (R0 : Rel P B0 w0 m H w) {T : List Value} {a : Act} (hT : LRel m T a.tmps.toList) {rv : ResultVar} {v : Value} (h : resOne P T H rv = some v) :
    ∃ v', (match rv with | .tmp t => pure (a.tmps.getD t undef) | .cell x t => do loadVar t (← asAddr (a.tmps.getD x undef)) : Sem Value).run P w = .ok v' w ∧ VRel m v v' := by
  cases rv with
  | tmp t => cases h; exact ⟨_, rfl, opv_rel hT (.tmp t)⟩
  | cell x t =>
    have hx := opv_rel hT (.tmp x)
    obtain ⟨v', h1, h2⟩ := ld_sound R0 hx h
    refine ⟨v', ?_, h2⟩
    simp only [Act.eval] at h1
    have h3 : ∀ u : Value, (Instr.loadAt t u).run P w = .ok v' w → (do loadVar t (← asAddr u) : Sem Value).run P w = .ok v' w := by
      intro u hu
      cases u with
      | pointer ad =>
        cases ad with
        | some ad => simpa [Instr.loadAt, Instr.sureAddr, asAddr] using hu
        | none => simp [Instr.loadAt, Instr.sureAddr, stuck] at hu
      | _ => simp [Instr.loadAt, Instr.sureAddr, stuck] at hu
    exact h3 _ h1
theorem resAll_sound {B0 : Nat} {w0 : World} {m : Mp} {H : AH} {w : World} (R0 : Rel P B0 w0 m H w) {T : List Value} {a : Act} (hT : LRel m T a.tmps.toList) : ∀ (rs : List ResultVar) (vs : List Value), resAll P T H rs = some vs →
    ∃ vs', (rs.mapM fun | .tmp t => pure (a.tmps.getD t undef) | .cell x t => do loadVar t (← asAddr (a.tmps.getD x undef)) : Sem (List Value)).run P w = .ok vs' w ∧ LRel m vs vs'
  | [], vs, h => by cases h; exact ⟨[], by simp, LRel.nil m⟩
  | r :: rs, vs, h => by
    unfold resAll at h
    obtain ⟨v, h1, h⟩ := bind_some h
    obtain ⟨us, h2, h⟩ := bind_some h
    cases h
    obtain ⟨v', q1, q2⟩ := resOne_sound R0 hT h1
    obtain ⟨us', q3, q4⟩ := resAll_sound R0 hT rs us h2
    exact ⟨v' :: us', by rw [List.mapM_cons]; simp only [Sem.run_bind, q1, q3, Result.andThen_ok, Sem.run_pure], LRel.cons q2 q4⟩
theorem results_sound {B0 : Nat} {w0 : World} {m : Mp} {H : AH} {w : World} (R0 : Rel P B0 w0 m H w) {T : List Value} {a : Act} (hT : LRel m T a.tmps.toList) {fn : Func} {vs : List Value} (h : resAll P T H fn.results.toList = some vs) :
    ∃ v', (results fn a.tmps).run P w = .ok v' w ∧ VRel m (oneOf vs) v' := by
  obtain ⟨vs', h1, h2⟩ := resAll_sound R0 hT _ _ h
  refine ⟨oneOf vs', ?_, ?_⟩
  · unfold results
    rw [Array.mapM_eq_mapM_toList]
    simp only [Sem.run_bind, Sem.run_map, Sem.run_pure]
    refine (congrArg (fun s : Result (List Value) => (s.andThen fun a w' => .ok a.toArray w').andThen fun a w' => .ok (if h : a.size = 1 then a[0] else .tuple a) w') h1).trans ?_
    cases vs' with
    | nil => rfl
    | cons v rest =>
      cases rest with
      | nil => rfl
      | cons u rest => simp [oneOf]
  · cases vs with
    | nil => rw [h2.nil_inv]; exact VRel.undef m
    | cons v rest =>
      obtain ⟨v', zs, rfl, hv, hr⟩ := h2.cons_inv
      cases rest with
      | nil => rw [hr.nil_inv]; exact hv
      | cons u rest =>
        obtain ⟨u', zs', rfl, hu, hr'⟩ := hr.cons_inv
        have hl := LRel.cons hv (LRel.cons hu hr')
        exact .tuple _ _ (by simpa using hl.1) fun i x y hx hy => hl.2 i x y (by simpa using hx) (by simpa using hy)
theorem LRel.of_flat_undef {m : Mp} (n : Nat) : LRel m (List.replicate n undef) (List.replicate n undef) := by
  induction n with
  | zero => exact LRel.nil m
  | succ n ih => rw [List.replicate_succ]; exact LRel.cons (VRel.undef m) ih
def GivenOK (P : Program) (gv : Given) : Prop := ∀ f g, gv f = some g → ∀ call n, CallOK P call → DrawOK P call → ∀ args H v H', g call n args H = some (v, H') → Enterable P f ∧ SimCall P f args H v H'
theorem plain_ok {f : FuncId} {g : List Value → AH → Option (Value × AH)} (h : ∀ args H v H', g args H = some (v, H') → Enterable P f ∧ SimCall P f args H v H') : ∀ call n, CallOK P call → DrawOK P call → ∀ args H v H', plain g call n args H = some (v, H') → Enterable P f ∧ SimCall P f args H v H' := fun _ _ _ _ => h
def RangesOK (P : Program) (tbs : FuncId → Tbl) : Prop := ∀ f fn c, P.funcs[f]? = some fn → fn.body = some c → rgs c = [] ∨ (fidOf (tbs f) = f ∧ RangesAt P f c)
theorem RangesAt.nil {f : FuncId} {c : Code} (h : rgs c = []) : RangesAt P f c := fun x hx => by rw [h] at hx; cases hx
theorem leaves_marks {B0 : Nat} {w0 : World} {m : Mp} {H : AH} {fn : Func} {tmps : Array Value} {T : List Value} {vs : List Value} {n Bf : Nat} {R : Ending → World → Prop} (hres : resAll P T H fn.results.toList = some vs) (hT : LRel m T tmps.toList) :
    ∀ (Ds : List Nat) (w : World), Rel P B0 w0 m H w → B0 ≤ Bf → Ds.Nodup → (∀ D ∈ Ds, Bf ≤ D ∧ w.heap[D]? = some (.deferred (some [])) ∧ ∀ b L k, m b = some L → blk H b = some k → k.kind ≠ .ro → L.blk ≠ D) →
    (∀ (w' : World) (v' : Value), Rel P B0 w0 m H w' → VRel m (oneOf vs) v' → (∀ B, B < Bf → w'.heap[B]? = w.heap[B]?) → w'.heap.size = w.heap.size → R (.returned v') w') → LeavesInM (FW none) n P fn tmps R (Ds.map mark) .returning w
  | [], w, R0, hB, hn, hD, hq => by
    obtain ⟨v', h5, h6⟩ := results_sound (a := { tmps := tmps, defers := [] }) R0 hT hres
    exact ⟨v', h5, hq w v' R0 h6 (fun _ _ => rfl) rfl⟩
  | D :: Ds, w, R0, hB, hn, hD, hq => by
    obtain ⟨d1, d2, d3⟩ := hD D (by simp)
    obtain ⟨n1, n2⟩ := List.nodup_cons.1 hn
    refine ⟨by simp, .inl ⟨D, w.putObj D (.deferred none), rfl, run_takeDeferred d2, ?_⟩⟩
    have hfree : ∀ b L k, m b = some L → blk H b = some k → L.blk ≠ D := by
      intro b L k hb hk hx
      by_cases hro : k.kind = .ro
      · obtain ⟨c, e, fr, hw, _⟩ := (R0.blks b L k hb hk).there (by rw [hro]; rfl)
        rw [hx, d2] at hw
        cases hw
      · exact d3 b L k hb hk hro hx
    refine leaves_marks hres hT Ds _ (R0.putFree _ (Nat.le_trans hB d1) hfree) hB n2 (fun D' hD' => ?_) (fun w' v' R' hv hw hs => hq w' v' R' hv (fun B hBf => (hw B hBf).trans (World.putObj_heap_other (by omega))) (by rw [hs]; simp))
    obtain ⟨e1, e2, e3⟩ := hD D' (by simp [hD'])
    exact ⟨e1, (World.putObj_heap_other (by rintro rfl; exact n1 hD')).trans e2, e3⟩
/-- Pieces of code whose working is given. -/
def MidOK (P : Program) (c : Code) (M : Mid) : Prop := ∀ T H H', T.length = M.len → M.f (M.ins.map fun i => T.getD i undef) H = some H' → CodeSim P none (codeAt c M.path) T H .normal (midT M T) H'
theorem evalP_sound (hcall : CallOK P call) (hdraw : DrawOK P call) (hmix : P.follows .mixedOrders = true) (n0 : Nat) (tb : Tbl) (M : Mid) : ∀ (c : Code) (p : List Nat), (∀ T H H', T.length = M.len → M.f (M.ins.map fun i => T.getD i undef) H = some H' → CodeSim P none (codeAt c p) T H .normal (midT M T) H') → RangesAt P (fidOf tb) c → ∀ {R : Type} (T : List Value) (H : AH) (K : EX → List Value → AH → Option R) (r : R),
    evalP P call n0 tb M c p T H K = some r → ∃ e T' H', K e T' H' = some r ∧ CodeSim P none c T H e T' H' := by
  have nil : ∀ (c : Code), (∀ T H H', T.length = M.len → M.f (M.ins.map fun i => T.getD i undef) H = some H' → CodeSim P none c T H .normal (midT M T) H') → ∀ {R : Type} (T : List Value) (H : AH) (K : EX → List Value → AH → Option R) (r : R), midK M T H K = some r → ∃ e T' H', K e T' H' = some r ∧ CodeSim P none c T H e T' H' := by
    intro c hM R T H K r h
    unfold midK at h
    cases hl : Nat.beq T.length M.len with
    | false => rw [hl] at h; cases h
    | true =>
      rw [hl] at h
      obtain ⟨H', h1, h2⟩ := bind_some h
      exact ⟨.normal, _, H', h2, hM T H H' (Nat.eq_of_beq_eq_true hl) h1⟩
  have c0 : ∀ c : Code, codeAt c [] = c := fun c => by cases c <;> rfl
  intro c
  induction c with
  | seq x y ihx ihy =>
    intro p hM hrg R T H K r h
    have hx2 : RangesAt P (fidOf tb) x := fun z hz => hrg z (List.mem_append.2 (.inl hz))
    have hy2 : RangesAt P (fidOf tb) y := fun z hz => hrg z (List.mem_append.2 (.inr hz))
    have tail : ∀ {e : EX} {T1 : List Value} {H1 : AH}, CodeSim P none x T H e T1 H1 → (e = .normal → ∃ e2 T2 H2, K e2 T2 H2 = some r ∧ CodeSim P none y (cutT tb (3 * firstId y) T1) H1 e2 T2 H2) → (e ≠ .normal → K e T1 H1 = some r) → ∃ e T' H', K e T' H' = some r ∧ CodeSim P none (.seq x y) T H e T' H' := by
      intro e T1 H1 h2 h3 h4
      cases e with
      | normal =>
        obtain ⟨e2, T2, H2, h3, h4⟩ := h3 rfl
        exact ⟨e2, T2, H2, h3, CodeSim.trans_cut (fun m Ts hh => cutT_rel tb _ hh) h2 h4⟩
      | exit id => exact ⟨.exit id, T1, H1, h4 (by simp), fun n Bf B0 w0 m a w Q R0 hT hd hB hq => wpIn_seq (h2 n Bf B0 w0 m a w _ R0 hT hd hB fun m1 a1 w1 A => hq m1 a1 w1 A)⟩
      | ret => exact ⟨.ret, T1, H1, h4 (by simp), fun n Bf B0 w0 m a w Q R0 hT hd hB hq => wpIn_seq (h2 n Bf B0 w0 m a w _ R0 hT hd hB fun m1 a1 w1 A => hq m1 a1 w1 A)⟩
    match p, hM, h with
    | [], hM, h => exact nil _ hM T H K r h
    | 0 :: p, hM, h =>
      simp only [evalP] at h
      obtain ⟨e, T1, H1, h1, h2⟩ := ihx p hM hx2 T H _ r h
      exact tail h2 (fun he => by subst he; exact evalK_sound hcall hdraw hmix n0 tb none y (.inl rfl) hy2 _ _ _ r h1) (fun he => by cases e <;> first | exact (he rfl).elim | exact h1)
    | 1 :: p, hM, h =>
      simp only [evalP] at h
      obtain ⟨e, T1, H1, h1, h2⟩ := evalK_sound hcall hdraw hmix n0 tb none x (.inl rfl) hx2 _ _ _ r h
      exact tail h2 (fun he => by subst he; exact ihy p hM hy2 _ _ _ r h1) (fun he => by cases e <;> first | exact (he rfl).elim | exact h1)
    | (_ + 2) :: p, hM, h => simp [evalP] at h
  | cond c x y ihx ihy =>
    intro p hM hrg R T H K r h
    have hx2 : RangesAt P (fidOf tb) x := fun z hz => hrg z (List.mem_append.2 (.inl hz))
    have hy2 : RangesAt P (fidOf tb) y := fun z hz => hrg z (List.mem_append.2 (.inr hz))
    have ends : ∀ b : Bool, opv T c = .bool b → (∃ e T' H', K e T' H' = some r ∧ CodeSim P none (bif b then x else y) T H e T' H') → ∃ e T' H', K e T' H' = some r ∧ CodeSim P none (.cond c x y) T H e T' H' := by
      rintro b hb ⟨e, T1, H1, h1, h2⟩
      refine ⟨e, T1, H1, h1, fun n Bf B0 w0 m a w Q R0 hT hd hB hq => ?_⟩
      have hv := opv_rel hT c
      rw [hb] at hv
      cases b with
      | true => exact wpIn_cond_true hv.bool_inv (h2 n Bf B0 w0 m a w Q R0 hT hd hB hq)
      | false => exact wpIn_cond_false hv.bool_inv (h2 n Bf B0 w0 m a w Q R0 hT hd hB hq)
    match p, hM, h with
    | [], hM, h => exact nil _ hM T H K r h
    | 0 :: p, hM, h => simp [evalP] at h
    | 1 :: p, hM, h =>
      simp only [evalP] at h
      obtain ⟨b, hb, hr⟩ := aIf_inv h
      cases b with
      | true => exact ends true hb (ihx p hM hx2 T H K r hr)
      | false => exact ends false hb (evalK_sound hcall hdraw hmix n0 tb none y (.inl rfl) hy2 T H K r hr)
    | 2 :: p, hM, h =>
      simp only [evalP] at h
      obtain ⟨b, hb, hr⟩ := aIf_inv h
      cases b with
      | true => exact ends true hb (evalK_sound hcall hdraw hmix n0 tb none x (.inl rfl) hx2 T H K r hr)
      | false => exact ends false hb (ihy p hM hy2 T H K r hr)
    | (_ + 3) :: p, hM, h => simp [evalP] at h
  | block id b ih =>
    intro p hM hrg R T H K r h
    match p, hM, h with
    | [], hM, h => exact nil _ hM T H K r h
    | (_ + 1) :: p, hM, h => simp [evalP] at h
    | 0 :: p, hM, h =>
      simp only [evalP] at h
      obtain ⟨e, T1, H1, h1, h2⟩ := ih p hM hrg T H _ r h
      cases e with
      | normal => exact ⟨.normal, T1, H1, h1, fun n Bf B0 w0 m a w Q R0 hT hd hB hq => wpIn_block (h2 n Bf B0 w0 m a w _ R0 hT hd hB fun m1 a1 w1 A => hq m1 a1 w1 A)⟩
      | ret => exact ⟨.ret, T1, H1, h1, fun n Bf B0 w0 m a w Q R0 hT hd hB hq => wpIn_block (h2 n Bf B0 w0 m a w _ R0 hT hd hB fun m1 a1 w1 A => hq m1 a1 w1 A)⟩
      | exit i =>
        by_cases hi : i = id
        · subst hi
          refine ⟨.normal, T1, H1, by simpa [kBlock] using h1, fun n Bf B0 w0 m a w Q R0 hT hd hB hq => wpIn_block (h2 n Bf B0 w0 m a w _ R0 hT hd hB fun m1 a1 w1 A => ?_)⟩
          show (if i = i then Q .normal a1 w1 else Q (.exit i) a1 w1)
          rw [if_pos rfl]
          exact hq m1 a1 w1 A
        · have hi' : (i == id) = false := by simpa using hi
          refine ⟨.exit i, T1, H1, by simpa [kBlock, hi'] using h1, fun n Bf B0 w0 m a w Q R0 hT hd hB hq => wpIn_block (h2 n Bf B0 w0 m a w _ R0 hT hd hB fun m1 a1 w1 A => ?_)⟩
          show (if i = id then Q .normal a1 w1 else Q (.exit i) a1 w1)
          rw [if_neg hi]
          exact hq m1 a1 w1 A
  | scope b ih =>
    intro p hM hrg R T H K r h
    match p, hM, h with
    | [], hM, h => exact nil _ hM T H K r h
    | (_ + 1) :: p, hM, h => simp [evalP] at h
    | 0 :: p, hM, h =>
      simp only [evalP] at h
      obtain ⟨e, T1, H1, h1, h2⟩ := ih p hM hrg T H K r h
      exact ⟨e, T1, H1, h1, fun n Bf B0 w0 m a w Q R0 hT hd hB hq => wpIn_scope_straight (h2 n Bf B0 w0 m a w _ R0 hT hd hB fun m1 a1 w1 A => noGoto_mono (hq m1 a1 w1 A))⟩
  | _ =>
    intro p hM hrg R T H K r h
    cases p with
    | nil => exact nil _ hM T H K r h
    | cons i p => simp [evalP] at h
theorem ends_sound {f : FuncId} {fn : Func} (hf : P.funcs[f]? = some fn) {c : Code} (hc : fn.body = some c) {args : List Value} {H : AH} {v : Value} {H' : AH} {e : EX} {T' : List Value} {H1 : AH}
    (h1 : resK P fn.results.toList e T' H1 = some (v, H')) (h2 : CodeSim P none c (args0 fn args) H e T' H1) : SimCall P f args H v H' := by
  have hres : ∃ vs, resAll P T' H1 fn.results.toList = some vs ∧ oneOf vs = v ∧ H1 = H' := by
    cases e with
    | exit i => cases h1
    | normal => obtain ⟨vs, h3, h4⟩ := bind_some h1; cases h4; exact ⟨vs, h3, rfl, rfl⟩
    | ret => obtain ⟨vs, h3, h4⟩ := bind_some h1; cases h4; exact ⟨vs, h3, rfl, rfl⟩
  obtain ⟨vs, h3, h4, rfl⟩ := hres
  intro B0 w0 m w args' R0 hargs
  refine (callsIn_wide (n := 0)).1 (callsIn_of_wp_marks (F := FW none) hf hc trivial (h2 0 w.heap.size B0 w0 m _ w _ R0 ?_ (Marks.nil _ _ _ _) (Nat.le_refl _) fun m' a' w' A => ?_))
  · have hl : args'.toArray.size = args.length := by simp [hargs.1]
    simp only [Array.toList_append, Array.toList_replicate, args0]
    refine hargs.append ?_
    rw [hl]
    exact LRel.of_flat_undef _
  · obtain ⟨Ds, d1, d2, d3⟩ := A.marks
    have hpost : LeavesInM (FW none) 0 P fn a'.tmps (fun e w' => ∃ m' v', e = .returned v' ∧ VRel m' v v' ∧ Rel P B0 w0 m' H1 w' ∧ Ext m H w m' H1 w') a'.defers .returning w' := by
      rw [d1]
      refine leaves_marks (Bf := w.heap.size) h3 A.tmps Ds w' A.rel R0.hB d2 d3 fun w2 v' R2 hv hw hs => ⟨m', v', rfl, by rw [← h4]; exact hv, R2, ?_⟩
      exact ⟨A.ext.mono, A.ext.len, by rw [hs]; exact A.ext.size, A.ext.alive, A.ext.new, fun B hB hr => (hw B hB).trans (A.ext.frame B hB hr)⟩
    cases e with
    | exit i => cases h1
    | normal => exact hpost
    | ret => exact hpost
theorem runFn_sound (hcall : CallOK P call) (hdraw : DrawOK P call) (hmix : P.follows .mixedOrders = true) {n : Nat} {tb : Tbl} {f : FuncId} {fn : Func} (hf : P.funcs[f]? = some fn) (hrg : ∀ c, fn.body = some c → RangesAt P (fidOf tb) c) {args : List Value} {H : AH} {v : Value} {H' : AH}
    (h : runFn P call n tb fn args H = some (v, H')) : Enterable P f ∧ SimCall P f args H v H' := by
  unfold runFn at h
  cases hb : fn.body.isSome && fn.name != "runtime.NumGoroutine" with
  | false => rw [hb] at h; cases h
  | true =>
    rw [hb] at h
    simp only [cond_true] at h
    rw [Bool.and_eq_true] at hb
    obtain ⟨hb1, hb2⟩ := hb
    refine ⟨⟨fn, hf, by simpa using hb2, hb1⟩, ?_⟩
    obtain ⟨c, hc⟩ := Option.isSome_iff_exists.1 hb1
    have hbody : bodyOf fn = c := by simp [bodyOf, hc]
    rw [hbody] at h
    obtain ⟨e, T', H1, h1, h2⟩ := evalK_sound hcall hdraw hmix n tb none c (.inl rfl) (hrg c hc) _ _ _ _ h
    exact ends_sound hf hc h1 h2
theorem runMid_sound (hcall : CallOK P call) (hdraw : DrawOK P call) (hmix : P.follows .mixedOrders = true) {n : Nat} {tb : Tbl} {f : FuncId} {fn : Func} (hf : P.funcs[f]? = some fn) (hrg : ∀ c, fn.body = some c → RangesAt P (fidOf tb) c) {M : Mid} (hM : MidOK P (bodyOf fn) M) {args : List Value} {H : AH} {v : Value} {H' : AH}
    (h : runMid P call n tb M fn args H = some (v, H')) : Enterable P f ∧ SimCall P f args H v H' := by
  unfold runMid at h
  cases hb : fn.body.isSome && fn.name != "runtime.NumGoroutine" with
  | false => rw [hb] at h; cases h
  | true =>
    rw [hb] at h
    simp only [cond_true] at h
    rw [Bool.and_eq_true] at hb
    obtain ⟨hb1, hb2⟩ := hb
    refine ⟨⟨fn, hf, by simpa using hb2, hb1⟩, ?_⟩
    obtain ⟨c, hc⟩ := Option.isSome_iff_exists.1 hb1
    have hbody : bodyOf fn = c := by simp [bodyOf, hc]
    rw [hbody] at h
    unfold MidOK at hM
    rw [hbody] at hM
    obtain ⟨e, T', H1, h1, h2⟩ := evalP_sound hcall hdraw hmix n tb M c M.path hM (hrg c hc) _ _ _ _ h
    exact ends_sound hf hc h1 h2
theorem putAll_rel {m : Mp} : ∀ (ps : List Tmp) (vs us T Ts : List Value), LRel m vs us → LRel m T Ts → LRel m (putAll ps vs T) ((ps.zip us).foldl (fun T (t, a) => T.set t a) Ts)
  | [], vs, us, T, Ts, hv, hT => by simpa [putAll] using hT
  | p :: ps, [], us, T, Ts, hv, hT => by rw [hv.nil_inv]; simpa [putAll] using hT
  | p :: ps, v :: vs, us, T, Ts, hv, hT => by
    obtain ⟨u, zs, rfl, h1, h2⟩ := hv.cons_inv
    exact putAll_rel ps vs zs _ _ h2 (hT.set p h1)
theorem runY_sound (hcall : CallOK P call) (hdraw : DrawOK P call) (hmix : P.follows .mixedOrders = true) {n0 : Nat} {tbs : FuncId → Tbl} {b : Nat} {args : List Value} {H : AH} {v : Value} {H' : AH}
    (h : runY P call n0 tbs b args H = some (v, H')) : SimYield P b args H v H' := by
  unfold runY at h
  obtain ⟨k, h1, h2⟩ := bind_some h
  split at h2
  · rename_i f key x T hk hc
    obtain ⟨rg, h3, h4⟩ := bind_some h2
    cases hb : args.length == rg.1.size && ((rgs rg.2.1).isEmpty && (rgs rg.2.2).isEmpty) with
    | false => rw [hb] at h4; cases h4
    | true =>
      rw [hb] at h4
      rw [Bool.and_eq_true, Bool.and_eq_true] at hb
      obtain ⟨hb1, hb2, hb3⟩ := hb
      simp only [List.isEmpty_iff] at hb2 hb3
      simp only [cond_true] at h4
      intro n B0 w0 m w args' L R0 hargs hm hLk
      have hB := R0.blks b L k hm h1
      obtain ⟨rc, hw, hr, c, T', e1, e2, e3⟩ := hB.lp f key hk
      rw [hr] at h3
      cases h3
      rw [hc] at e1
      injection e1 with _ e4
      subst e4
      have hsz : args'.toArray.size = rc.params.size := by
        have : args.length = rc.params.size := by simpa using hb1
        rw [← this, hargs.1]
        simp
      refine ⟨rc.fn, _, rc.assign, rc.body, run_yield hw hsz, ?_⟩
      refine roundIn_of_wpIn (F := FW none) trivial ?_
      show rc.assign.wpIn (FW (some L.blk)) n P _ _ w
      unfold roundY at h4
      obtain ⟨ea, Ta, Ha, h5, h6⟩ := evalK_sound hcall hdraw hmix n0 (tbs f) (some L.blk) rc.assign (.inr hb2) (RangesAt.nil hb2) _ _ _ _ h4
      cases ea with
      | exit i => cases h5
      | ret => cases h5
      | normal =>
        obtain ⟨Hs, h7, h8⟩ := bind_some h5
        refine h6 n w.heap.size B0 w0 m _ w _ R0 ?_ (Marks.nil _ _ _ _) (Nat.le_refl _) fun m1 a1 w1 A => ?_
        · have := putAll_rel rc.params.toList args args' T rc.tmps.toList hargs e2
          have e5 : ((rc.params.zip args'.toArray).foldl (fun tmps (t, a) => tmps.setIfInBounds t a) rc.tmps).toList = (rc.params.toList.zip args').foldl (fun T (t, a) => T.set t a) rc.tmps.toList := by
            have e6 : ∀ (l : List (Tmp × Value)) (ts : Array Value), (l.foldl (fun tmps (t, a) => tmps.setIfInBounds t a) ts).toList = l.foldl (fun T (t, a) => T.set t a) ts.toList := by
              intro l
              induction l with
              | nil => intro ts; rfl
              | cons q l ih => intro ts; simp only [List.foldl_cons]; rw [ih]; simp
            rw [← e6, ← Array.foldl_toList]
            simp
          rw [e5]
          exact this
        · show ∃ w₂, (Instr.beginRound L.blk).run P w1 = .ok () w₂ ∧ rc.body.wpIn (FW (some L.blk)) n P (roundPost P L.blk _) a1 w₂
          have hm1 := A.ext.mono _ _ hm
          obtain ⟨rc1, hw1, hst1, hturn1⟩ := A.rel.setSt hm1 h7
          obtain ⟨R2, E2⟩ := hturn1 .busy rc1.pending rfl
          refine ⟨_, run_beginRound hw1 hst1.1, ?_⟩
          obtain ⟨eb, Tb, Hb, h9, h10⟩ := evalK_sound hcall hdraw hmix n0 (tbs f) (some L.blk) rc.body (.inr hb3) (RangesAt.nil hb3) _ _ _ _ h8
          refine h10 n w.heap.size B0 w0 m1 a1 _ _ R2 A.tmps (A.marks.ext A.rel E2) (Nat.le_trans A.ext.size E2.size) fun m3 a3 w3 A3 => ?_
          obtain ⟨Hf, h11, h12⟩ := bind_some h9
          obtain ⟨rfl, rfl⟩ : Value.bool (xB eb) = v ∧ Hf = H' := by cases h12; exact ⟨rfl, rfl⟩
          have hm3 := A3.ext.mono _ _ hm1
          obtain ⟨rc3, hw3, hst3, hturn3⟩ := A3.rel.setSt hm3 h11
          have fin : ∀ (jump : Option Code), StOK (xSt eb) (if jump.isNone then .ready else .done) jump → jump.isNone = xB eb → ∃ v w', (Instr.endRound L.blk jump).run P w3 = .ok v w' ∧ ∃ m' v', Ending.returned v = .returned v' ∧ VRel m' (.bool (xB eb)) v' ∧ Rel P B0 w0 m' Hf w' ∧ Ext m H w m' Hf w' := by
            intro jump hj hn
            obtain ⟨R4, E4⟩ := hturn3 _ _ hj
            refine ⟨_, _, run_endRound jump hw3, m3, _, rfl, by rw [hn]; exact .flat _ rfl, R4, ?_⟩
            exact Ext.trans (fun b L hb => (R0.dom b L hb).1) A.ext (Ext.trans (fun b L hb => (A.rel.dom b L hb).1) E2 (Ext.trans (fun b L hb => (R2.dom b L hb).1) A3.ext E4))
          cases eb with
          | normal => exact fin none ⟨rfl, rfl⟩ rfl
          | ret => exact fin (some .ret) ⟨rfl, rfl⟩ rfl
          | exit i => exact fin (some (.exit i)) ⟨rfl, rfl⟩ rfl
  · cases h2
theorem run_sound (hdraw : ∀ call, CallOK P call → DrawOK P call) (hmix : P.follows .mixedOrders = true) {tbs : FuncId → Tbl} (hrg : RangesOK P tbs) {gv : Given} (hgv : GivenOK P gv) : ∀ k, CallOK P (run P tbs gv k)
  | 0 => ⟨fun f args H v H' _ h => (by cases h), fun b args H v H' h => (by cases h)⟩
  | k + 1 => by
    have ih := run_sound (tbs := tbs) hdraw hmix hrg hgv k
    constructor
    · intro f args H v H' hf h
      unfold run at h
      have hb : Nat.ble yOff f = false := by
        cases hb : Nat.ble yOff f with
        | false => rfl
        | true => have := Nat.le_of_ble_eq_true hb; omega
      rw [hb] at h
      simp only [cond_false] at h
      split at h
      · rename_i g hg
        exact hgv f g hg _ _ ih (hdraw _ ih) args H v H' h
      · obtain ⟨fn, h1, h2⟩ := bind_some h
        refine runFn_sound ih (hdraw _ ih) hmix h1 (fun c hc => ?_) h2
        rcases hrg f fn c h1 hc with h3 | ⟨h3, h4⟩
        · exact RangesAt.nil h3
        · rw [h3]; exact h4
    · intro b args H v H' h
      unfold run at h
      have hb : Nat.ble yOff (yOff + b) = true := Nat.ble_eq_true_of_le (Nat.le_add_right _ _)
      rw [hb] at h
      simp only [cond_true, Nat.add_sub_cancel_left] at h
      exact runY_sound ih (hdraw _ ih) hmix h
end
end Go.AM
set_option linter.unusedVariables false
set_option linter.unusedSimpArgs false
namespace Go.AM
open Go.RowKit
variable {P : Program} {B0 : Nat} {w0 : World} {m : Mp} {H : AH} {w : World}
def gCopy (P : Program) (Ts : List TypeId) (args : List Value) (H : AH) : Option (Value × AH) :=
  match args with
  | [.pointer (some ⟨b, 0, none⟩)] =>
    (blk H b).bind fun k => if k.kind = .fix ∧ k.elem ∈ Ts ∧ k.cells.length = szT P k.elem then
      (match k.cells with
      | .pointer none :: x => some (.tuple #[], put H b k (.pointer (some ⟨b, 0, none⟩) :: x))
      | .pointer (some ⟨b2, 0, none⟩) :: x => if b2 = b then some (.tuple #[], H) else none
      | _ => none) else none
  | _ => none
theorem setCell_row {w : World} {g : Nat} {c : Array Value} {e : TypeId} {fr : Nat × Nat} {v : Value} (h : w.heap[g]? = some (.cells c e fr)) : w.setCell ⟨g, 0, none⟩ v = w.setRow g (c.setIfInBounds 0 v) := by
  have hlt : g < w.heap.size := (Array.getElem?_eq_some_iff.1 h).1
  have hg := (Array.getElem?_eq_some_iff.1 h).2
  unfold World.setCell World.setRow
  congr 1
  apply Array.ext
  · simp
  · intro i h1 h2
    simp only [Array.getElem_modify]
    split
    · rename_i hi
      subst hi
      rw [hg]
      rfl
    · rfl
theorem gCopy_ok {f : Nat} {Ts : List TypeId} (hen : Enterable P f)
    (fresh : ∀ T ∈ Ts, ∀ (b : Nat) (w : World), w.cell? ⟨b, 0, none⟩ = some (.pointer none) → w.shape? b = some (T, szT P T) → w.frozen? ⟨b, 0, none⟩ = false → Calls P f #[.pointer (some ⟨b, 0, none⟩)] w fun e w' => e = .returned (.tuple #[]) ∧ w' = w.setCell ⟨b, 0, none⟩ (.pointer (some ⟨b, 0, none⟩)))
    (used : ∀ (b : Nat) (w : World), w.cell? ⟨b, 0, none⟩ = some (.pointer (some ⟨b, 0, none⟩)) → Calls P f #[.pointer (some ⟨b, 0, none⟩)] w fun e w' => e = .returned (.tuple #[]) ∧ w' = w) :
    ∀ args H v H', gCopy P Ts args H = some (v, H') → Enterable P f ∧ SimCall P f args H v H' := by
  intro args H v H' h
  refine ⟨hen, ?_⟩
  intro B0 w0 m w args' R hl
  unfold gCopy at h
  split at h
  · rename_i b
    cases hb : blk H b with
    | none => rw [hb] at h; cases h
    | some k =>
      rw [hb] at h
      simp only [Option.bind_some] at h
      split at h
      · rename_i hc
        obtain ⟨hk, hT, hlen⟩ := hc
        obtain ⟨y, zs, rfl, hy, hz⟩ := hl.cons_inv
        have := hz.nil_inv
        subst this
        obtain ⟨L, hm, rfl, hnm⟩ := hy.ptr_inv
        have hB := R.blks b L k hm hb
        obtain ⟨c, e, fr, hw, hlr, h3, h4, _⟩ := hB.there (by rw [← hB.kind]; exact hnm)
        have hro : k.kind ≠ .ro := by rw [hk]; decide
        obtain ⟨h3a, rfl, _⟩ := h3 hro
        obtain rfl := h3a (by rw [hk]; decide) (by rw [hk]; decide)
        obtain ⟨hb0, hcs⟩ := h4 hk
        rw [hb0] at hlr ⊢
        rw [Nat.zero_add]
        rw [List.drop_zero, ← hcs] at hlr
        have htk : c.toList.take c.size = c.toList := List.take_of_length_le (by simp)
        rw [htk] at hlr
        show Calls P f #[.pointer (some ⟨L.blk, 0, none⟩)] w _
        split at h
        · rename_i x hcells
          cases h
          rw [hcells] at hlr hcs
          obtain ⟨y1, zs1, e1, hy1, hr1⟩ := hlr.cons_inv
          have e2 := VRel.flat_inv rfl hy1
          subst e2
          have hc0 : c[0]? = some (.pointer none) := by rw [← Array.getElem?_toList, e1]; rfl
          have hcell : w.cell? ⟨L.blk, 0, none⟩ = some (.pointer none) := by unfold World.cell?; rw [hw]; simp [hc0]
          have hshape : w.shape? L.blk = some (k.elem, szT P k.elem) := by
            have hlen' : c.size = szT P k.elem := by rw [hcs, ← hcells]; exact hlen
            unfold World.shape?; rw [hw]; show some (k.elem, c.size) = _; rw [hlen']
          have hfz : w.frozen? ⟨L.blk, 0, none⟩ = false := by unfold World.frozen?; rw [hw]; simp
          refine (fresh _ hT L.blk w hcell hshape hfz).mono fun e w' he => ?_
          obtain ⟨rfl, rfl⟩ := he
          rw [setCell_row hw]
          have hlr2 : LRel m (.pointer (some ⟨b, 0, none⟩) :: x) (((c.setIfInBounds 0 (.pointer (some ⟨L.blk, 0, none⟩))).toList.drop L.base).take (Value.pointer (some ⟨b, 0, none⟩) :: x).length) := by
            rw [hb0, List.drop_zero, Array.toList_setIfInBounds, e1]
            have hl1 := hr1.1
            have e3 : (Value.pointer none :: zs1).set 0 (.pointer (some ⟨L.blk, 0, none⟩)) = .pointer (some ⟨L.blk, 0, none⟩) :: zs1 := rfl
            rw [e3, List.take_of_length_le (by simp at hl1 ⊢; omega)]
            refine LRel.cons ?_ hr1
            have := VRel.ptr (m := m) b 0 L hm hnm
            rw [hb0] at this
            exact this
          obtain ⟨q1, q2⟩ := R.write hm hb hro hw (.pointer (some ⟨b, 0, none⟩) :: x) (c.setIfInBounds 0 (.pointer (some ⟨L.blk, 0, none⟩))) (by simp) (by rw [hcells]; rfl) hlr2
          exact ⟨m, _, rfl, .tuple _ _ rfl (fun i x y h => by simp at h), q1, q2⟩
        · rename_i b2 x hcells
          split at h
          · rename_i hbb
            subst hbb
            cases h
            rw [hcells] at hlr
            obtain ⟨y1, zs1, e1, hy1, hr1⟩ := hlr.cons_inv
            obtain ⟨L2, hm2, rfl, hnm2⟩ := hy1.ptr_inv
            rw [hm] at hm2
            cases hm2
            rw [hb0] at e1
            have hc0 : c[0]? = some (.pointer (some ⟨L.blk, 0, none⟩)) := by rw [← Array.getElem?_toList, e1]; rfl
            have hcell : w.cell? ⟨L.blk, 0, none⟩ = some (.pointer (some ⟨L.blk, 0, none⟩)) := by unfold World.cell?; rw [hw]; simp [hc0]
            refine (used L.blk w hcell).mono fun e w' he => ?_
            obtain ⟨rfl, hw'⟩ := he
            rw [hw']
            exact ⟨m, _, rfl, .tuple _ _ rfl (fun i x y h => by simp at h), R, Ext.refl m H w⟩
          · cases h
        · cases h
      · cases h
  · cases h
end Go.AM
set_option linter.unusedVariables false
set_option linter.unusedSimpArgs false
namespace Go.AM
open Go.RowKit
variable {P : Program} {B0 : Nat} {w0 : World} {m : Mp} {H : AH} {w : World}
def gGrow (P : Program) (Ts : List TypeId) (e : TypeId) (args : List Value) (H : AH) : Option (Value × AH) :=
  match args with
  | [.pointer (some ⟨b, 0, none⟩), .int .i64 n] =>
    (blk H b).bind fun k => if (k.kind = .fix ∧ k.elem ∈ Ts ∧ k.cells.length = szT P k.elem) ∧ (0 < n ∧ n ≤ 140737488355328) then
      (match k.cells with
      | .pointer none :: .slice none 0 0 :: x => some (.tuple #[], put (mkB H [] e .buf) b k (.pointer (some ⟨b, 0, none⟩) :: sl H.length 0 0 1 :: x))
      | _ => none) else none
  | _ => none
theorem Rel.of_heap {w' : World} (R : Rel P B0 w0 m H w) (h : w'.heap = w.heap) (hb : Below B0 w0 w') : Rel P B0 w0 m H w' :=
  ⟨hb, by rw [h]; exact R.hB, fun b L hb => by rw [h]; exact R.dom b L hb, fun b L k hb hk => (by
    exact (R.blks b L k hb hk).at (fun _ _ h => h) (by rw [h])), R.inj⟩
theorem Ext.of_heap {m' : Mp} {H' : AH} {w1 w2 : World} (E : Ext m H w m' H' w1) (h : w2.heap = w1.heap) : Ext m H w m' H' w2 :=
  ⟨E.mono, E.len, by rw [h]; exact E.size, E.alive, E.new, fun B hB hr => by rw [h]; exact E.frame B hB hr⟩
theorem gGrow_ok {f : Nat} {Ts : List TypeId} {e : TypeId} (hen : Enterable P f) (h1e : szT P e = 1) (h2T : ∀ T ∈ Ts, 2 ≤ szT P T)
    (hc : ∀ T ∈ Ts, ∀ (b n : Nat) (w : World) (c : Array Value), w.heap[b]? = some (.cells c T (0, 0)) → c.size = szT P T → c[0]? = some (.pointer none) → c[1]? = some (.slice none 0 0) → 0 < n → n ≤ 140737488355328 →
      Calls P f #[.pointer (some ⟨b, 0, none⟩), .int .i64 n] w fun r w' => r = .returned (.tuple #[]) ∧ ∃ cs : Array Value,
        w'.heap = ((w.alloc (.cells cs e)).setRow b ((c.setIfInBounds 0 (.pointer (some ⟨b, 0, none⟩))).setIfInBounds 1 (.slice (some ⟨w.heap.size, 0, none⟩) 0 cs.size))).heap ∧ Below b w w') :
    ∀ args H v H', gGrow P Ts e args H = some (v, H') → Enterable P f ∧ SimCall P f args H v H' := by
  intro args H v H' h
  refine ⟨hen, ?_⟩
  intro B0 w0 m w args' R hl
  unfold gGrow at h
  split at h
  · rename_i b n
    cases hb : blk H b with
    | none => rw [hb] at h; cases h
    | some k =>
      rw [hb] at h
      simp only [Option.bind_some] at h
      split at h
      · rename_i hcnd
        obtain ⟨⟨hk, hT, hlen⟩, hn0, hn1⟩ := hcnd
        obtain ⟨y, zs, rfl, hy, hz⟩ := hl.cons_inv
        obtain ⟨y2, zs2, rfl, hy2, hz2⟩ := hz.cons_inv
        have := hz2.nil_inv
        subst this
        have e2 := VRel.flat_inv (x := .int .i64 n) rfl hy2
        subst e2
        obtain ⟨L, hm, rfl, hnm⟩ := hy.ptr_inv
        have hB := R.blks b L k hm hb
        obtain ⟨c, e', fr, hw, hlr, h3, h4, _⟩ := hB.there (by rw [← hB.kind]; exact hnm)
        have hro : k.kind ≠ .ro := by rw [hk]; decide
        obtain ⟨h3a, rfl, _⟩ := h3 hro
        obtain rfl := h3a (by rw [hk]; decide) (by rw [hk]; decide)
        obtain ⟨hb0, hcs⟩ := h4 hk
        rw [hb0] at hlr ⊢
        rw [Nat.zero_add]
        rw [List.drop_zero, ← hcs] at hlr
        have htk : c.toList.take c.size = c.toList := List.take_of_length_le (by simp)
        rw [htk] at hlr
        split at h
        · rename_i x hcells
          cases h
          rw [hcells] at hlr hcs
          obtain ⟨y1, zs1, e1, hy1, hr1⟩ := hlr.cons_inv
          obtain ⟨y3, zs3, e3, hy3, hr3⟩ := hr1.cons_inv
          subst e3
          have e5 := VRel.flat_inv rfl hy1
          have e6 := VRel.flat_inv rfl hy3
          subst e5 e6
          have hc0 : c[0]? = some (.pointer none) := by rw [← Array.getElem?_toList, e1]; rfl
          have hc1 : c[1]? = some (.slice none 0 0) := by rw [← Array.getElem?_toList, e1]; rfl
          obtain ⟨q, rfl⟩ : ∃ q : Nat, n = q := ⟨n.toNat, by omega⟩
          refine (hc _ hT L.blk q w c hw (by rw [hcs, ← hcells]; exact hlen) hc0 hc1 (by omega) (by omega)).mono fun r w' hr => ?_
          obtain ⟨rfl, cs, hheap, hbel⟩ := hr
          obtain ⟨R1, E1⟩ := R.make [] e .buf cs (by decide) (by simpa using LRel.nil m) (fun h => by cases h)
          have hblt := blk_lt' hb
          have hm1 : upd m H.length ⟨w.heap.size, 0, .buf, cs.size, szT P e⟩ b = some L := E1.mono b L hm
          have hb1 : blk (mkB H [] e .buf) b = some k := by rw [blk_mkB_old' _ _ _ hblt]; exact hb
          have hlt := (R.dom b L hm).2
          have hw1 : (w.alloc (.cells cs e)).heap[L.blk]? = some (.cells c k.elem (0, 0)) := by rw [Below.heap_alloc w _ _ hlt]; exact hw
          have hlr2 : LRel (upd m H.length ⟨w.heap.size, 0, .buf, cs.size, szT P e⟩) (.pointer (some ⟨b, 0, none⟩) :: sl H.length 0 0 1 :: x)
              (((((c.setIfInBounds 0 (.pointer (some ⟨L.blk, 0, none⟩))).setIfInBounds 1 (.slice (some ⟨w.heap.size, 0, none⟩) 0 cs.size))).toList.drop L.base).take (Value.pointer (some ⟨b, 0, none⟩) :: sl H.length 0 0 1 :: x).length) := by
            rw [hb0, List.drop_zero, Array.toList_setIfInBounds, Array.toList_setIfInBounds, e1]
            have hl1 := hr3.1
            have e7 : ((Value.pointer none :: Value.slice none 0 0 :: zs3).set 0 (.pointer (some ⟨L.blk, 0, none⟩))).set 1 (.slice (some ⟨w.heap.size, 0, none⟩) 0 cs.size) = .pointer (some ⟨L.blk, 0, none⟩) :: .slice (some ⟨w.heap.size, 0, none⟩) 0 cs.size :: zs3 := rfl
            rw [e7, List.take_of_length_le (by simp at hl1 ⊢; omega)]
            refine LRel.cons ?_ (LRel.cons ?_ (hr3.mono E1.mono))
            · have := VRel.ptr b 0 L hm1 hnm
              rw [hb0] at this
              exact this
            · have := VRel.slice (m := upd m H.length ⟨w.heap.size, 0, .buf, cs.size, szT P e⟩) H.length 0 0 0 1 cs.size ⟨w.heap.size, 0, .buf, cs.size, szT P e⟩ (upd_same _ _ _) rfl (by omega) (by omega) (.inr rfl) (fun h => by cases h) (fun _ _ _ => by rw [h1e]; simp) (fun _ => .inl (by omega))
              exact this
          obtain ⟨R2, E2⟩ := R1.write hm1 hb1 hro hw1 (.pointer (some ⟨b, 0, none⟩) :: sl H.length 0 0 1 :: x) _ (by simp) (by rw [hcells]; rfl) hlr2
          have E3 := Ext.trans (fun b L hb => (R.dom b L hb).1) E1 E2
          refine ⟨_, _, rfl, .tuple _ _ rfl (fun i x y h => by simp at h), R2.of_heap hheap ?_, E3.of_heap hheap⟩
          exact R.below.trans (hbel.mono (hB.own hro))
        · cases h
      · cases h
  · cases h
end Go.AM
set_option linter.unusedVariables false
set_option linter.unusedSimpArgs false
namespace Go.AM
open Go.RowKit

section
variable {P : Program} {call : CallF}

theorem aCall_congr {R : Type} {ρ ρ' : Operand → Value} (c : Call) (h : ∀ x ∈ c.operands, ρ x = ρ' x) (H : AH) (K : Value → AH → Option R) : aCall P call ρ c H K = aCall P call ρ' c H K := by
  have h1 : ∀ x ∈ c.args.toList, ρ x = ρ' x := fun x hx => h x (by unfold Call.operands; exact Array.mem_append.2 (.inr (by simpa using hx)))
  have hargs : c.args.toList.map ρ = c.args.toList.map ρ' := List.map_congr_left h1
  unfold aCall
  split
  · rename_i f hc
    have hf : ρ f = ρ' f := h f (by unfold Call.operands; rw [hc]; simp)
    rw [hf, hargs]
  · split
    · rename_i t u s x ht ha
      rw [h1 s (by rw [ha]; simp), h1 x (by rw [ha]; simp)]
    · rfl
  · split
    · rename_i t u s x ht ha
      rw [h1 s (by rw [ha]; simp), h1 x (by rw [ha]; simp)]
    · rfl
  · split
    · rename_i t x ht ha
      rw [h1 x (by rw [ha]; simp)]
    · rfl
  · split
    · rename_i t x ht ha
      rw [h1 x (by rw [ha]; simp)]
    · rfl
  · rw [hargs]
  · rw [hargs]
  · split
    · rename_i x ha
      rw [h1 x (by rw [ha]; simp)]
    · rfl
  · split
    · rename_i t u s x ht ha
      rw [h1 s (by rw [ha]; simp), h1 x (by rw [ha]; simp)]
    · rfl
  · rfl
theorem aRes_congr {ρ ρ' : Operand → Value} (op : Op) (h : ∀ x ∈ op.operands, ρ x = ρ' x) (H : AH) : aRes P call ρ op H = aRes P call ρ' op H := by
  have pairs : ∀ ps : Array (Nat × Operand), (∀ x ∈ ps.map (·.2), ρ x = ρ' x) → (ps.toList.map fun p => (p.1, ρ p.2)) = (ps.toList.map fun p => (p.1, ρ' p.2)) := fun ps hp =>
    List.map_congr_left fun p hm => by rw [hp p.2 (Array.mem_map.2 ⟨p, by simpa using hm, rfl⟩)]
  unfold aRes
  cases op <;> simp only [Op.operands] at h <;> simp only [aOp]
  case build t ps => rw [pairs ps fun x hx => h x (by simpa using hx)]
  case buildSlice t n ps => rw [pairs ps fun x hx => h x (by simpa using hx)]
  case makeFunc fn first captured =>
    cases fn <;> simp only [aOp]
    rw [List.map_congr_left (l := first.toList) fun x hx => h x (by simp at hx; simp [hx]), List.map_congr_left (l := captured.toList) fun x hx => h x (by simp at hx; simp [hx])]
  case makeMap t r => cases r <;> simp [aOp]
  case call c => exact aCall_congr c h H _
  case slice t x lo hi mx =>
    cases mx with
    | some mx => cases lo <;> cases hi <;> simp_all [aOp]
    | none => cases lo <;> cases hi <;> simp_all [aOp]
  all_goals (first | rfl | (simp_all; done))
theorem opRead_congr {ρ ρ' : Operand → Value} (op : Op) (h : ∀ x ∈ op.operands, ρ x = ρ' x) : opRead P ρ op = opRead P ρ' op := by
  cases op <;> simp only [Op.operands] at h <;> simp only [opRead]
  case load t x => rw [h x (by simp)]
  case convert s d x => rw [h x (by simp)]
  case lookup t m k two => rw [h m (by simp), h k (by simp)]
  case call c =>
    obtain ⟨callee, args, ts⟩ := c
    cases callee with
    | builtin b =>
      cases b <;> simp only [opRead]
      split
      · rename_i t x ht ha
        rw [h x (by have : x ∈ args.toList := by rw [ha]; simp
                    simp [Call.operands]; simpa using this)]
      · rfl
    | _ => simp only [opRead]
/-- What reads, reads the same where the blocks are the same. -/
theorem ld_keep {t : TypeId} {H X : AH} {a v : Value} (hk : ∀ b k, blk H b = some k → blk X b = some k) (h : ld P t H a = some v) : ld P t X a = some v := by
  unfold ld at h ⊢
  split at h
  · unfold ldA at h ⊢
    split at h
    · obtain ⟨k, h1, h2⟩ := bind_some h
      simp only [hk _ _ h1, Option.bind_some]
      exact h2
    · cases h
  · unfold ldC at h ⊢
    split at h
    · obtain ⟨k, h1, h2⟩ := bind_some h
      simp only [hk _ _ h1, Option.bind_some]
      exact h2
    · cases h
  · cases h
theorem sliceCells_keep {sz n : Nat} {H X : AH} {x : Value} {cs : List Value} (hk : ∀ b k, blk H b = some k → blk X b = some k) (h1 : sliceCells sz H x n = some cs) : sliceCells sz X x n = some cs := by
  unfold sliceCells at h1 ⊢
  split at h1
  · exact h1
  · split at h1
    · rename_i hn0; simp only [hn0, if_true]; exact h1
    · split at h1
      · obtain ⟨k, h3, h4⟩ := bind_some h1
        rename_i hn0 hle
        simp only [hn0, hle, if_true, if_false, hk _ _ h3, Option.bind_some]
        exact h4
      · cases h1
  · exact h1
  · cases h1
theorem cvS_keep {s d : TypeId} {H X : AH} {a v : Value} (hk : ∀ b k, blk H b = some k → blk X b = some k) (h : cvS P s d H a = some v) : cvS P s d X a = some v := by
  unfold cvS at h ⊢
  split at h
  · split at h
    · rename_i he
      obtain ⟨cs, h1, h2⟩ := bind_some h
      simp only [he, sliceCells_keep hk h1, Option.bind_some]
      exact h2
    · cases h
  · cases h
theorem mapCells_keep {H X : AH} {x : Value} {cs : List Value} (hk : ∀ b k, blk H b = some k → blk X b = some k) (h : mapCells H x = some cs) : mapCells X x = some cs := by
  unfold mapCells at h ⊢
  split at h
  · exact h
  · rename_i b
    unfold mapB at h ⊢
    cases hb : blk H b with
    | none => rw [hb] at h; cases h
    | some k => rw [hb] at h; rw [hk _ _ hb]; exact h
  · cases h
theorem lkU_keep {t : TypeId} {H X : AH} {x key v : Value} {two : Bool} (hk : ∀ b k, blk H b = some k → blk X b = some k) (h : lkU P t H x key two = some v) : lkU P t X x key two = some v := by
  unfold lkU at h ⊢
  split at h
  · rename_i kt et hd
    obtain ⟨D, h1, h2⟩ := bind_some h
    obtain ⟨cs, h3, h4⟩ := bind_some h2
    simp only [h1, Option.bind_some, mapCells_keep hk h3]
    exact h4
  · cases h
theorem lenM_keep {t : TypeId} {H X : AH} {x v : Value} (hk : ∀ b k, blk H b = some k → blk X b = some k) (h : lenM P t H x = some v) : lenM P t X x = some v := by
  unfold lenM at h ⊢
  split at h
  · cases hc : mapCells H x with
    | none => rw [hc] at h; cases h
    | some cs => rw [hc] at h; rw [mapCells_keep hk hc]; exact h
  · cases h
theorem opRead_keep {ρ : Operand → Value} {op : Op} {f : AH → Option Value} (hf : opRead P ρ op = some f) {H X : AH} {v : Value} (hk : ∀ b k, blk H b = some k → blk X b = some k) (h : f H = some v) : f X = some v := by
  unfold opRead at hf
  split at hf
  · cases hf; exact ld_keep hk h
  · rename_i s d x
    cases hb : isBytesToString P s d with
    | true => rw [hb] at hf; cases hf; exact cvS_keep hk h
    | false => rw [hb] at hf; cases hf
  · cases hf; exact lkU_keep hk h
  · split at hf
    · rename_i t x _ _
      cases hb : isMapT P t with
      | true => rw [hb] at hf; cases hf; exact lenM_keep hk h
      | false => rw [hb] at hf; cases hf
    · cases hf
  · cases hf
end
end Go.AM
set_option linter.unusedVariables false
set_option linter.unusedSimpArgs false
namespace Go.AM
open Go.RowKit

section
variable {P : Program} {call : CallF}

/-- An operation that neither reads nor acts nor makes: it tells the same wherever it comes. -/
def PureAt (P : Program) (call : CallF) (ρ : Operand → Value) (op : Op) (H H' : AH) (v : Value) : Prop := H' = H ∧ ∀ X, aRes P call ρ op X = some (v, X)
theorem PureAt.one {ρ : Operand → Value} {op : Op} {H H' : AH} {v : Value} (x : Option Value) (e : ∀ X, aRes P call ρ op X = x.bind fun v => some (v, X)) (h : aRes P call ρ op H = some (v, H')) : PureAt P call ρ op H H' v := by
  rw [e] at h
  obtain ⟨u, h1, h2⟩ := bind_some h
  cases h2
  exact ⟨rfl, fun X => by rw [e, h1]; rfl⟩
theorem pure_res {ρ : Operand → Value} {op : Op} (he : isEff op = false) (hr : opRead P ρ op = none) (ha : isAlloc op = false) {H H' : AH} {v : Value} (h : aRes P call ρ op H = some (v, H')) : PureAt P call ρ op H H' v := by
  cases op
  case move x => exact .one (some (ρ x)) (fun X => rfl) h
  case assign x => exact .one (some (ρ x)) (fun X => rfl) h
  case pick c x y => exact .one _ (fun X => rfl) h
  case build t ps => exact .one _ (fun X => rfl) h
  case nilCheck x => exact .one _ (fun X => rfl) h
  case binOp op t x y yt => exact .one _ (fun X => rfl) h
  case unOp op t x => exact .one _ (fun X => rfl) h
  case fieldAddr s x i => exact .one _ (fun X => rfl) h
  case field s x i => exact .one _ (fun X => rfl) h
  case indexAddr s x i => exact .one _ (fun X => rfl) h
  case index s x i => exact .one _ (fun X => rfl) h
  case extract x i => exact .one _ (fun X => rfl) h
  case load t x => cases hr
  case lookup t m k two => cases hr
  case makeMap t r => cases ha
  case mapUpdate t m k x => cases he
  case insert t m k x => cases he
  case alloc t => cases ha
  case box t x => cases ha
  case buildSlice t n ps => cases ha
  case makeSlice t l c => cases ha
  case store t x y => cases he
  case convert s d x =>
    cases hb : isBytesToString P s d with
    | true => simp only [opRead, hb, cond_true] at hr; cases hr
    | false => exact .one (cv P s d (ρ x)) (fun X => by unfold aRes; simp only [aOp, hb, cond_false]) h
  case makeFunc fn first captured =>
    cases fn with
    | func f => exact .one (some (.func (.func f) (first.toList.map ρ).toArray (captured.toList.map ρ).toArray)) (fun X => rfl) h
    | _ => cases h
  case slice t x lo hi mx =>
    cases mx with
    | some _ => exact .one _ (fun X => rfl) h
    | none => exact .one _ (fun X => rfl) h
  case call c =>
    obtain ⟨callee, args, tys⟩ := c
    cases callee with
    | value f => cases he
    | invoke r m => cases h
    | builtin b =>
      cases b
      case append => cases he
      case copy => cases he
      case len =>
        have hm : ∀ t x, tys.toList = [t] → args.toList = [x] → isMapT P t = false := by
          intro t x ht hx
          simp only [opRead, ht, hx] at hr
          cases hb : isMapT P t with
          | false => rfl
          | true => rw [hb] at hr; cases hr
        refine .one (match tys.toList, args.toList with | [t], [x] => lenV P t (ρ x) | _, _ => none) (fun X => ?_) h
        show (match tys.toList, args.toList with | [t], [x] => (bif isMapT P t then (lenM P t X (ρ x)).bind fun v => some (v, X) else (lenV P t (ρ x)).bind fun v => some (v, X)) | _, _ => none) = _
        split
        · rename_i t x ht hx
          rw [hm t x ht hx]
          rfl
        · rfl
      case cap =>
        refine .one (match tys.toList, args.toList with | [t], [x] => capV P t (ρ x) | _, _ => none) (fun X => ?_) h
        show (match tys.toList, args.toList with | [t], [x] => (capV P t (ρ x)).bind fun v => some (v, X) | _, _ => none) = _
        split <;> rfl
      case min => exact .one _ (fun X => rfl) h
      case max => exact .one _ (fun X => rfl) h
      case unsafeSliceData =>
        refine .one (match args.toList with | [x] => sdV (ρ x) | _ => none) (fun X => ?_) h
        show (match args.toList with | [x] => (sdV (ρ x)).bind fun v => some (v, X) | _ => none) = _
        split <;> rfl
      case unsafeString => cases he
      all_goals cases h
  all_goals cases h
/-- An operation that makes one block. -/
def MakesAt (P : Program) (call : CallF) (ρ : Operand → Value) (op : Op) (H H' : AH) (v : Value) : Prop := ∃ k : Blk, (v = ptr H.length 0 ∨ (∃ a c, v = sl H.length 0 a c) ∨ v = .map (some H.length)) ∧ H' = H ++ [some k] ∧ ∀ X : AH, X.length = H.length → aRes P call ρ op X = some (v, X ++ [some k])
theorem MakesAt.one {ρ : Operand → Value} {op : Op} {H H' : AH} {v : Value} (x : Option (Blk × (Nat → Value))) (hx : ∀ p, x = some p → ∀ n, p.2 n = ptr n 0 ∨ (∃ a c, p.2 n = sl n 0 a c) ∨ p.2 n = .map (some n)) (e : ∀ X, aRes P call ρ op X = x.bind fun p => some (p.2 X.length, X ++ [some p.1])) (h : aRes P call ρ op H = some (v, H')) : MakesAt P call ρ op H H' v := by
  rw [e] at h
  obtain ⟨p, h1, h2⟩ := bind_some h
  cases h2
  exact ⟨p.1, hx p h1 _, rfl, fun X hX => by rw [e, h1, ← hX]; rfl⟩
theorem box_form (t : TypeId) (X : AH) (v : Value) : (box t X v).bind (fun p => some (p.1, p.2)) = (if okCells v = true then some ((⟨v.cells.toList, t, .fix⟩ : Blk), fun n => ptr n 0) else none).bind fun p => some (p.2 X.length, X ++ [some p.1]) := by
  unfold box
  split <;> rfl
theorem alloc_res {ρ : Operand → Value} {op : Op} (ha : isAlloc op = true) {H H' : AH} {v : Value} (h : aRes P call ρ op H = some (v, H')) : MakesAt P call ρ op H H' v := by
  cases op
  case alloc t =>
    refine .one ((zeroT P t).bind fun z => if okCells z = true then some ((⟨z.cells.toList, t, .fix⟩ : Blk), fun n => ptr n 0) else none) ?_ (fun X => ?_) h
    · intro p hp
      obtain ⟨z, h1, h2⟩ := bind_some hp
      split at h2
      · cases h2; exact fun n => .inl rfl
      · cases h2
    · show (newV P t X).bind (fun p => some (p.1, p.2)) = _
      unfold newV
      rw [Option.bind_assoc, Option.bind_assoc]
      congr 1
      funext z
      exact box_form t X z
  case box t x =>
    refine .one (if okCells (ρ x) = true then some ((⟨(ρ x).cells.toList, t, .fix⟩ : Blk), fun n => ptr n 0) else none) ?_ (fun X => box_form t X (ρ x)) h
    intro p hp
    split at hp
    · cases hp; exact fun n => .inl rfl
    · cases hp
  case buildSlice t n ps =>
    refine .one (match P.underlying t with | some (.slice e) => (zeroT P e).bind fun z => if n * szT P e ≤ 16777216 ∧ z.cells.size = szT P e then (fillB (fun i => some (i * szT P e, szT P e)) (rep z.cells.toList n) (ps.toList.map fun p => (p.1, ρ p.2))).map fun cs => ((⟨cs, e, .fix⟩ : Blk), fun q => sl q 0 n n) else none | _ => none) ?_ (fun X => ?_) h
    · intro p hp
      split at hp
      · obtain ⟨z, h1, h2⟩ := bind_some hp
        split at h2
        · cases hf : fillB (fun i => some (i * szT P _, szT P _)) (rep z.cells.toList n) (ps.toList.map fun p => (p.1, ρ p.2)) with
          | none => rw [hf] at h2; cases h2
          | some cs => rw [hf] at h2; cases h2; exact fun q => .inr (.inl ⟨_, _, rfl⟩)
        · cases h2
      · cases hp
    · show (buildS P t X n (ps.toList.map fun p => (p.1, ρ p.2))).bind (fun p => some (p.1, p.2)) = _
      unfold buildS
      cases P.underlying t with
      | none => rfl
      | some d =>
        cases d with
        | slice e =>
          simp only
          rw [Option.bind_assoc, Option.bind_assoc]
          congr 1
          funext z
          split
          · cases fillB (fun i => some (i * szT P e, szT P e)) (rep z.cells.toList n) (ps.toList.map fun p => (p.1, ρ p.2)) <;> rfl
          · rfl
        | _ => rfl
  case makeSlice t l c =>
    refine .one (match P.underlying t, ρ l, ρ c with | some (.slice e), .int _ n, .int _ m => (zeroT P e).bind fun z => if 0 ≤ n ∧ n ≤ m ∧ m * byT P e ≤ 281474976710656 ∧ m ≤ 9223372036854775807 ∧ z.cells.size = szT P e ∧ okCells z = true then some ((⟨rep z.cells.toList m.toNat, e, .fix⟩ : Blk), fun q => sl q 0 n.toNat m.toNat) else none | _, _, _ => none) ?_ (fun X => ?_) h
    · intro p hp
      split at hp
      · obtain ⟨z, h1, h2⟩ := bind_some hp
        split at h2
        · cases h2; exact fun q => .inr (.inl ⟨_, _, rfl⟩)
        · cases h2
      · cases hp
    · show (mkS P t X (ρ l) (ρ c)).bind (fun p => some (p.1, p.2)) = _
      unfold mkS
      cases P.underlying t with
      | none => rfl
      | some d =>
        cases d with
        | slice e =>
          cases ρ l with
          | int k1 n =>
            cases ρ c with
            | int k2 q =>
              simp only
              rw [Option.bind_assoc, Option.bind_assoc]
              congr 1
              funext z
              split <;> rfl
            | _ => rfl
          | _ => rfl
        | _ => rfl
  case makeMap t r =>
    cases r with
    | some r => cases h
    | none =>
      refine .one (some ((⟨[], t, .map⟩ : Blk), fun n => .map (some n))) ?_ (fun X => rfl) h
      intro p hp
      cases hp
      exact fun n => .inr (.inr rfl)
  all_goals cases ha
end
end Go.AM
set_option linter.unusedVariables false
set_option linter.unusedSimpArgs false
namespace Go.AM
open Go.RowKit

section
variable {P : Program} {call : CallF}

theorem befL_take : ∀ (l : List Oper) (acc : List Nat), (befL acc l).take acc.length = acc ∧ (befL acc l).length = acc.length + l.length ∧ ∀ (j : Nat) (o : Oper), l[j]? = some o → (befL acc l)[acc.length + j]? = some (maskOf ((befL acc l).take (acc.length + j)) o)
  | [], acc => by simp [befL]
  | o :: l, acc => by
    obtain ⟨h1, h2, h3⟩ := befL_take l (acc ++ [maskOf acc o])
    simp only [befL, List.length_append, List.length_cons, List.length_nil, Nat.zero_add] at h1 h2 h3 ⊢
    have h4 : (befL (acc ++ [maskOf acc o]) l).take acc.length = acc := by
      have := congrArg (List.take acc.length) h1
      rw [List.take_take, Nat.min_eq_left (by omega), List.take_left] at this
      exact this
    refine ⟨h4, by omega, fun j p hp => ?_⟩
    cases j with
    | zero =>
      simp at hp
      subst hp
      have : (befL (acc ++ [maskOf acc o]) l)[acc.length]? = ((befL (acc ++ [maskOf acc o]) l).take (acc.length + 1))[acc.length]? := by rw [List.getElem?_take, if_pos (by omega)]
      rw [Nat.add_zero, this, h1, h4]
      simp
    | succ j =>
      have := h3 j p (by simpa using hp)
      rw [show acc.length + (j + 1) = acc.length + 1 + j by omega]
      exact this
theorem maskOf_bit {acc : List Nat} {o : Oper} {i : Nat} (h : (maskOf acc o).testBit i = true) : ∃ e ∈ o.after, Region.binds .any e = true ∧ (e.on = i ∨ (acc.getD e.on 0).testBit i = true) := by
  have key : ∀ (l : List Edge) (s : Nat), (l.foldl (fun s e => bif Region.binds .any e then s ||| (2 ^ e.on ||| acc.getD e.on 0) else s) s).testBit i = true → s.testBit i = true ∨ ∃ e ∈ l, Region.binds .any e = true ∧ (e.on = i ∨ (acc.getD e.on 0).testBit i = true) := by
    intro l
    induction l with
    | nil => intro s hs; exact .inl hs
    | cons e l ih =>
      intro s hs
      rw [List.foldl_cons] at hs
      rcases ih _ hs with h1 | ⟨e', h1, h2⟩
      · cases hb : Region.binds .any e with
        | false => rw [hb] at h1; exact .inl h1
        | true =>
          rw [hb] at h1
          simp only [cond_true, Nat.testBit_or, Bool.or_eq_true] at h1
          rcases h1 with h1 | h1 | h1
          · exact .inl h1
          · refine .inr ⟨e, by simp, hb, .inl ?_⟩
            rw [Nat.testBit_two_pow] at h1
            simpa using h1
          · exact .inr ⟨e, by simp, hb, .inr h1⟩
      · exact .inr ⟨e', by simp [h1], h2⟩
  rcases key _ _ h with h1 | ⟨e, h1, h2⟩
  · simp at h1
  · exact ⟨e, by simpa using h1, h2⟩
/-- A set of operations that holds with each what it comes behind. -/
def Down (ops : Array Oper) (D : Nat → Prop) : Prop := ∀ j o, ops[j]? = some o → D j → ∀ e ∈ o.after, Region.binds .any e = true → D e.on
theorem ordB_down {ops : Array Oper} {D : Nat → Prop} (hD : Down ops D) : ∀ (j : Nat) (o : Oper), ops[j]? = some o → (∀ e ∈ o.after, Region.binds .any e = true → D e.on) → ∀ i, ordB (befL [] ops.toList) i j = true → D i := by
  intro j
  induction j using Nat.strongRecOn with
  | _ j ih =>
    intro o ho hedges i hi
    obtain ⟨_, _, h3⟩ := befL_take ops.toList []
    have h4 := h3 j o (by simpa using ho)
    simp only [List.length_nil, Nat.zero_add] at h4
    unfold ordB at hi
    rw [List.getD_eq_getElem?_getD, h4, Option.getD_some] at hi
    obtain ⟨e, he, hb, h5⟩ := maskOf_bit hi
    have hde := hedges e he hb
    rcases h5 with h5 | h5
    · rw [← h5]; exact hde
    · rcases Nat.lt_or_ge e.on j with hlt | hge
      · rw [List.getD_eq_getElem?_getD, List.getElem?_take, if_pos hlt] at h5
        cases hoe : ops[e.on]? with
        | none =>
          exfalso
          have hlen := (befL_take ops.toList []).2.1
          have : (befL [] ops.toList)[e.on]? = none := List.getElem?_eq_none (by
            rw [hlen]
            simp
            have := Array.getElem?_eq_none_iff.1 hoe
            exact this)
          rw [this] at h5
          simp at h5
        | some oe =>
          refine ih e.on hlt oe hoe (fun e' he' hb' => hD e.on oe hoe hde e' he' hb') i ?_
          unfold ordB
          rw [List.getD_eq_getElem?_getD]
          exact h5
      · rw [List.getD_eq_getElem?_getD, List.getElem?_take, if_neg (by omega)] at h5
        simp at h5
end
end Go.AM
set_option linter.unusedVariables false
set_option linter.unusedSimpArgs false
namespace Go.AM
open Go.RowKit

section
variable {P : Program} {call : CallF}

/-- The steps from operation j0 on: slots, heap, what is passed over, what is told. -/
structure Tr (P : Program) (call : CallF) (ops : Array Oper) (bs : List Nat) (j0 : Nat) (tT : Nat → List Value) (tH : Nat → AH) (sk : Nat → Bool) (vl : Nat → Value) : Prop where
  step : ∀ j o, j0 ≤ j → ops[j]? = some o → tT (j + 1) = putT (tT j) o.dst (vl j)
  skip : ∀ j o, j0 ≤ j → ops[j]? = some o → sk j = true → (∃ g want, o.guard = some (g, want) ∧ Off (yieldV ops (tT j) g) want) ∧ vl j = undef ∧ tH (j + 1) = tH j
  go : ∀ j o, j0 ≤ j → ops[j]? = some o → sk j = false → o.guard = none ∨ ∃ g want, o.guard = some (g, want) ∧ yieldV ops (tT j) g = .bool want
  read : ∀ j o f, j0 ≤ j → ops[j]? = some o → sk j = false → opRead P (opv (tT j)) o.op = some f → f (tH j) = some (vl j) ∧ tH (j + 1) = tH j
  other : ∀ j o, j0 ≤ j → ops[j]? = some o → sk j = false → opRead P (opv (tT j)) o.op = none → aRes P call (opv (tT j)) o.op (tH j) = some (vl j, tH (j + 1))
  pastR : ∀ j o f e oe, j0 ≤ e → e < j → ops[j]? = some o → ops[e]? = some oe → sk j = false → sk e = false → isEff oe.op = true → opRead P (opv (tT j)) o.op = some f → ordB bs e j = false → f (tH e) = some (vl j)
  futR : ∀ j o f e oe, j0 ≤ j → j < e → ops[j]? = some o → ops[e]? = some oe → sk j = false → sk e = false → isEff oe.op = true → opRead P (opv (tT j)) o.op = some f → ordB bs j e = false → f (tH (e + 1)) = some (vl j)
  futA : ∀ j o e oe, j0 ≤ j → j < e → ops[j]? = some o → ops[e]? = some oe → sk j = false → sk e = false → isEff oe.op = true → opRead P (opv (tT j)) o.op = none → isAlloc o.op = true → ordB bs j e = false → blk (tH (e + 1)) (tH j).length = blk (tH (j + 1)) (tH j).length

theorem aChk_inv {R : Type} {p : Prop} {x : Option R} {r : R} (h : aChk p x = some r) : p ∧ x = some r := by
  unfold aChk at h
  split at h
  · rename_i hp; exact ⟨hp, h⟩
  · cases h
theorem chkReads_inv {R : Type} {bs : List Nat} {j : Nat} {H : AH} {x : Option R} {r : R} : ∀ (rs : List Rd), chkReads bs j H x rs = some r → x = some r ∧ ∀ rd ∈ rs, ordB bs rd.at_ j = false → rd.ok H
  | [], h => ⟨h, fun rd hr => by cases hr⟩
  | rd :: rs, h => by
    unfold chkReads at h
    cases ho : ordB bs rd.at_ j with
    | true =>
      rw [ho] at h
      obtain ⟨h1, h2⟩ := chkReads_inv rs h
      refine ⟨h1, fun rd' hr hf => ?_⟩
      cases hr with
      | head => rw [ho] at hf; cases hf
      | tail _ hr => exact h2 rd' hr hf
    | false =>
      rw [ho] at h
      obtain ⟨h0, h⟩ := aChk_inv h
      obtain ⟨h1, h2⟩ := chkReads_inv rs h
      refine ⟨h1, fun rd' hr hf => ?_⟩
      cases hr with
      | head => exact h0
      | tail _ hr => exact h2 rd' hr hf
theorem chkPast_inv {R : Type} {bs : List Nat} {j : Nat} {ok : AH → Prop} {x : Option R} {r : R} : ∀ (ps : List (Nat × AH)), chkPast bs j ok x ps = some r → x = some r ∧ ∀ p ∈ ps, ordB bs p.1 j = false → ok p.2
  | [], h => ⟨h, fun p hp => by cases hp⟩
  | p :: ps, h => by
    unfold chkPast at h
    cases ho : ordB bs p.1 j with
    | true =>
      rw [ho] at h
      obtain ⟨h1, h2⟩ := chkPast_inv ps h
      refine ⟨h1, fun p' hr hf => ?_⟩
      cases hr with
      | head => rw [ho] at hf; cases hf
      | tail _ hr => exact h2 p' hr hf
    | false =>
      rw [ho] at h
      obtain ⟨h0, h⟩ := aChk_inv h
      obtain ⟨h1, h2⟩ := chkPast_inv ps h
      refine ⟨h1, fun p' hr hf => ?_⟩
      cases hr with
      | head => exact h0
      | tail _ hr => exact h2 p' hr hf
/-- What the steps from j0 on keep of what came ahead. -/
structure TrP (P : Program) (ops : Array Oper) (bs : List Nat) (j0 : Nat) (tT : Nat → List Value) (tH : Nat → AH) (sk : Nat → Bool) (vl : Nat → Value) (past : List (Nat × AH)) (reads : List Rd) : Prop where
  past : ∀ p ∈ past, ∀ j o f, j0 ≤ j → ops[j]? = some o → sk j = false → opRead P (opv (tT j)) o.op = some f → ordB bs p.1 j = false → f p.2 = some (vl j)
  reads : ∀ rd ∈ reads, ∀ e oe, j0 ≤ e → ops[e]? = some oe → sk e = false → isEff oe.op = true → ordB bs rd.at_ e = false → rd.ok (tH (e + 1))
theorem read_not_eff {ρ : Operand → Value} {op : Op} {f : AH → Option Value} (h : opRead P ρ op = some f) : isEff op = false := by
  cases op
  case call c =>
    obtain ⟨callee, args, ts⟩ := c
    cases callee with
    | builtin b => cases b <;> first | rfl | (simp [opRead] at h; done)
    | _ => simp [opRead] at h
  all_goals first | rfl | (simp [opRead] at h; done)
theorem alloc_not_eff {op : Op} (h : isAlloc op = true) : isEff op = false := by
  cases op <;> first | rfl | (simp [isAlloc] at h; done)
theorem tr_cons {ops : Array Oper} {bs : List Nat} {j0 : Nat} {o : Oper} (ho : ops[j0]? = some o) {T : List Value} {H H1 : AH} {v : Value} {s : Bool} {tT : Nat → List Value} {tH : Nat → AH} {sk : Nat → Bool} {vl : Nat → Value}
    (h0 : tT (j0 + 1) = putT T o.dst v) (h1 : tH (j0 + 1) = H1) (X : Tr P call ops bs (j0 + 1) tT tH sk vl)
    (hskip : s = true → (∃ g want, o.guard = some (g, want) ∧ Off (yieldV ops T g) want) ∧ v = undef ∧ H1 = H)
    (hgo : s = false → o.guard = none ∨ ∃ g want, o.guard = some (g, want) ∧ yieldV ops T g = .bool want)
    (hread : ∀ f, s = false → opRead P (opv T) o.op = some f → f H = some v ∧ H1 = H)
    (hother : s = false → opRead P (opv T) o.op = none → aRes P call (opv T) o.op H = some (v, H1))
    (hpast : s = false → isEff o.op = true → ∀ j p f, j0 + 1 ≤ j → ops[j]? = some p → sk j = false → opRead P (opv (tT j)) p.op = some f → ordB bs j0 j = false → f H = some (vl j))
    (hfutR : ∀ f, s = false → opRead P (opv T) o.op = some f → ∀ e oe, j0 + 1 ≤ e → ops[e]? = some oe → sk e = false → isEff oe.op = true → ordB bs j0 e = false → f (tH (e + 1)) = some v)
    (hfutA : s = false → opRead P (opv T) o.op = none → isAlloc o.op = true → ∀ e oe, j0 + 1 ≤ e → ops[e]? = some oe → sk e = false → isEff oe.op = true → ordB bs j0 e = false → blk (tH (e + 1)) H.length = blk H1 H.length) :
    Tr P call ops bs j0 (fun i => if i = j0 then T else tT i) (fun i => if i = j0 then H else tH i) (fun i => if i = j0 then s else sk i) (fun i => if i = j0 then v else vl i) := by
  have hne : ∀ {j}, j0 ≤ j → j ≠ j0 → j0 + 1 ≤ j := fun h1 h2 => by omega
  refine ⟨?_, ?_, ?_, ?_, ?_, ?_, ?_, ?_⟩
  · intro j p hj hp
    rw [if_neg (show j + 1 ≠ j0 by omega)]
    by_cases hjj : j = j0
    · subst hjj; rw [ho] at hp; cases hp; simp only [if_true]; exact h0
    · simp only [if_neg hjj]; exact X.step j p (hne hj hjj) hp
  · intro j p hj hp hs
    rw [if_neg (show j + 1 ≠ j0 by omega)]
    by_cases hjj : j = j0
    · subst hjj; rw [ho] at hp; cases hp; simp only [if_true] at hs ⊢; rw [h1]; exact hskip hs
    · simp only [if_neg hjj] at hs ⊢; exact X.skip j p (hne hj hjj) hp hs
  · intro j p hj hp hs
    by_cases hjj : j = j0
    · subst hjj; rw [ho] at hp; cases hp; simp only [if_true] at hs ⊢; exact hgo hs
    · simp only [if_neg hjj] at hs ⊢; exact X.go j p (hne hj hjj) hp hs
  · intro j p f hj hp hs hf
    rw [if_neg (show j + 1 ≠ j0 by omega)]
    by_cases hjj : j = j0
    · subst hjj; rw [ho] at hp; cases hp; simp only [if_true] at hs hf ⊢; rw [h1]; exact hread f hs hf
    · simp only [if_neg hjj] at hs hf ⊢; exact X.read j p f (hne hj hjj) hp hs hf
  · intro j p hj hp hs hf
    rw [if_neg (show j + 1 ≠ j0 by omega)]
    by_cases hjj : j = j0
    · subst hjj; rw [ho] at hp; cases hp; simp only [if_true] at hs hf ⊢; rw [h1]; exact hother hs hf
    · simp only [if_neg hjj] at hs hf ⊢; exact X.other j p (hne hj hjj) hp hs hf
  · intro j p f e oe he hej hp hoe hs hse hef hf hord
    rw [if_neg (show j ≠ j0 by omega)] at hs hf ⊢
    by_cases hee : e = j0
    · subst hee; rw [ho] at hoe; cases hoe; simp only [if_true] at hse ⊢; exact hpast hse hef j p f (by omega) hp hs hf hord
    · simp only [if_neg hee] at hse ⊢; exact X.pastR j p f e oe (hne he hee) hej hp hoe hs hse hef hf hord
  · intro j p f e oe hj hje hp hoe hs hse hef hf hord
    rw [if_neg (show e ≠ j0 by omega)] at hse
    rw [if_neg (show e + 1 ≠ j0 by omega)]
    by_cases hjj : j = j0
    · subst hjj; rw [ho] at hp; cases hp; simp only [if_true] at hs hf ⊢; exact hfutR f hs hf e oe (by omega) hoe hse hef hord
    · simp only [if_neg hjj] at hs hf ⊢; exact X.futR j p f e oe (hne hj hjj) hje hp hoe hs hse hef hf hord
  · intro j p e oe hj hje hp hoe hs hse hef hf ha hord
    rw [if_neg (show e ≠ j0 by omega)] at hse
    rw [if_neg (show e + 1 ≠ j0 by omega), if_neg (show j + 1 ≠ j0 by omega)]
    by_cases hjj : j = j0
    · subst hjj; rw [ho] at hp; cases hp; simp only [if_true] at hs hf ⊢; rw [h1]; exact hfutA hs hf ha e oe (by omega) hoe hse hef hord
    · simp only [if_neg hjj] at hs hf ⊢; exact X.futA j p e oe (hne hj hjj) hje hp hoe hs hse hef hf ha hord
theorem trp_cons {ops : Array Oper} {bs : List Nat} {j0 : Nat} {o : Oper} (ho : ops[j0]? = some o) {T : List Value} {H H1 : AH} {v : Value} {s : Bool} {tT : Nat → List Value} {tH : Nat → AH} {sk : Nat → Bool} {vl : Nat → Value} {past : List (Nat × AH)} {reads : List Rd}
    (h1 : tH (j0 + 1) = H1)
    (hp : ∀ p ∈ past, (∀ j o f, j0 + 1 ≤ j → ops[j]? = some o → sk j = false → opRead P (opv (tT j)) o.op = some f → ordB bs p.1 j = false → f p.2 = some (vl j)) ∧ (∀ f, s = false → opRead P (opv T) o.op = some f → ordB bs p.1 j0 = false → f p.2 = some v))
    (hr : ∀ rd ∈ reads, (∀ e oe, j0 + 1 ≤ e → ops[e]? = some oe → sk e = false → isEff oe.op = true → ordB bs rd.at_ e = false → rd.ok (tH (e + 1))) ∧ (s = false → isEff o.op = true → ordB bs rd.at_ j0 = false → rd.ok H1)) :
    TrP P ops bs j0 (fun i => if i = j0 then T else tT i) (fun i => if i = j0 then H else tH i) (fun i => if i = j0 then s else sk i) (fun i => if i = j0 then v else vl i) past reads := by
  refine ⟨fun p hpp j q f hj hq hs hf hord => ?_, fun rd hrd e oe he hoe hs hef hord => ?_⟩
  · by_cases hjj : j = j0
    · subst hjj; rw [ho] at hq; cases hq; simp only [if_true] at hs hf ⊢; exact (hp p hpp).2 f hs hf hord
    · simp only [if_neg hjj] at hs hf ⊢; exact (hp p hpp).1 j q f (by omega) hq hs hf hord
  · rw [if_neg (show e + 1 ≠ j0 by omega)]
    by_cases hee : e = j0
    · subst hee; rw [ho] at hoe; cases hoe; simp only [if_true] at hs; rw [h1]; exact (hr rd hrd).2 hs hef hord
    · simp only [if_neg hee] at hs; exact (hr rd hrd).1 e oe (by omega) hoe hs hef hord
theorem evD_inv (ops : Array Oper) (bs : List Nat) {R : Type} {K : List Value → AH → Option R} {r : R} : ∀ (l : List Oper) (j0 : Nat) (T : List Value) (H : AH) (past : List (Nat × AH)) (reads : List Rd), (∀ j, l[j]? = ops[j0 + j]?) → evD P call ops bs l j0 T H past reads K = some r →
    ∃ tT tH sk vl, tT j0 = T ∧ tH j0 = H ∧ Tr P call ops bs j0 tT tH sk vl ∧ TrP P ops bs j0 tT tH sk vl past reads ∧ K (tT (j0 + l.length)) (tH (j0 + l.length)) = some r
  | [], j0, T, H, past, reads, hl, h => by
    have none_ : ∀ j, j0 ≤ j → ops[j]? = none := fun j hj => by have := hl (j - j0); rw [show j0 + (j - j0) = j by omega] at this; rw [← this]; rfl
    have no : ∀ {j : Nat} {o : Oper}, j0 ≤ j → ops[j]? = some o → False := fun hj ho => by rw [none_ _ hj] at ho; cases ho
    exact ⟨fun _ => T, fun _ => H, fun _ => false, fun _ => undef, rfl, rfl, ⟨fun j o hj ho => (no hj ho).elim, fun j o hj ho => (no hj ho).elim, fun j o hj ho => (no hj ho).elim, fun j o f hj ho => (no hj ho).elim, fun j o hj ho => (no hj ho).elim,
      fun j o f e oe he hej ho => (no (by omega) ho).elim, fun j o f e oe hj hje ho => (no hj ho).elim, fun j o e oe hj hje ho => (no hj ho).elim⟩, ⟨fun p _ j o f hj ho => (no hj ho).elim, fun rd _ e oe he hoe => (no he hoe).elim⟩, h⟩
  | o :: l, j0, T, H, past, reads, hl, h => by
    have ho : ops[j0]? = some o := by have := hl 0; simpa using this.symm
    have hl' : ∀ j, l[j]? = ops[j0 + 1 + j]? := fun j => by have := hl (j + 1); rw [show j0 + 1 + j = j0 + (j + 1) by omega]; simpa using this
    have hlen : j0 + (o :: l).length = j0 + 1 + l.length := by simp; omega
    -- passed over
    have fin_skip : ∀ (past' : List (Nat × AH)) (reads' : List Rd), (∀ p ∈ past, p ∈ past') → (∀ rd ∈ reads, rd ∈ reads') → evD P call ops bs l (j0 + 1) (putT T o.dst undef) H past' reads' K = some r → (∃ g want, o.guard = some (g, want) ∧ Off (yieldV ops T g) want) →
        ∃ tT tH sk vl, tT j0 = T ∧ tH j0 = H ∧ Tr P call ops bs j0 tT tH sk vl ∧ TrP P ops bs j0 tT tH sk vl past reads ∧ K (tT (j0 + (o :: l).length)) (tH (j0 + (o :: l).length)) = some r := by
      intro past' reads' hp' hr' hh hg
      obtain ⟨tT, tH, sk, vl, h0, h1, X, Y, hK⟩ := evD_inv ops bs l (j0 + 1) _ _ _ _ hl' hh
      refine ⟨_, _, _, _, if_pos rfl, if_pos rfl, tr_cons (s := true) (v := undef) ho h0 h1 X (fun _ => ⟨hg, rfl, rfl⟩) (fun hx => by cases hx) (fun f hx => by cases hx) (fun hx => by cases hx) (fun hx => by cases hx) (fun f hx => by cases hx) (fun hx => by cases hx),
        trp_cons ho h1 (fun p hp => ⟨Y.past p (hp' p hp), fun f hx => by cases hx⟩) (fun rd hrd => ⟨Y.reads rd (hr' rd hrd), fun hx => by cases hx⟩), ?_⟩
      rw [hlen]
      simp only [if_neg (show j0 + 1 + l.length ≠ j0 by omega)]
      exact hK
    have fin_read : ∀ (v : Value) (ok : AH → Prop) (f : AH → Option Value), opRead P (opv T) o.op = some f → f H = some v → (∀ X, ok X → f X = some v) → (o.guard = none ∨ ∃ g want, o.guard = some (g, want) ∧ yieldV ops T g = .bool want) → evD P call ops bs l (j0 + 1) (putT T o.dst v) H past (⟨j0, ok⟩ :: reads) K = some r →
        (∀ p ∈ past, ordB bs p.1 j0 = false → f p.2 = some v) → ∃ tT tH sk vl, tT j0 = T ∧ tH j0 = H ∧ Tr P call ops bs j0 tT tH sk vl ∧ TrP P ops bs j0 tT tH sk vl past reads ∧ K (tT (j0 + (o :: l).length)) (tH (j0 + (o :: l).length)) = some r := by
      intro v ok f hf hv hok hg hh hc
      obtain ⟨tT, tH, sk, vl, h0, h1, X, Y, hK⟩ := evD_inv ops bs l (j0 + 1) _ _ _ _ hl' hh
      have hne := read_not_eff hf
      refine ⟨_, _, _, _, if_pos rfl, if_pos rfl, tr_cons (s := false) (v := v) ho h0 h1 X (fun hx => by cases hx) (fun _ => hg) (fun f' _ hf' => ?_) (fun _ hx => by rw [hf] at hx; cases hx) (fun _ hx => by rw [hne] at hx; cases hx) (fun f' _ hf' e oe he hoe hse hef hord => ?_) (fun _ hx => by rw [hf] at hx; cases hx),
        trp_cons ho h1 (fun p hp => ⟨Y.past p hp, fun f' _ hf' hord => ?_⟩) (fun rd hrd => ⟨Y.reads rd (by simp [hrd]), fun _ hx => by rw [hne] at hx; cases hx⟩), ?_⟩
      · rw [hf] at hf'; cases hf'; exact ⟨hv, rfl⟩
      · rw [hf] at hf'; cases hf'; exact hok _ (Y.reads ⟨j0, ok⟩ (by simp) e oe he hoe hse hef hord)
      · rw [hf] at hf'; cases hf'; exact hc p hp hord
      · rw [hlen]
        simp only [if_neg (show j0 + 1 + l.length ≠ j0 by omega)]
        exact hK
    have fin_eff : ∀ (v : Value) (H1 : AH), opRead P (opv T) o.op = none → aRes P call (opv T) o.op H = some (v, H1) → isEff o.op = true → (o.guard = none ∨ ∃ g want, o.guard = some (g, want) ∧ yieldV ops T g = .bool want) → evD P call ops bs l (j0 + 1) (putT T o.dst v) H1 ((j0, H) :: past) reads K = some r →
        (∀ rd ∈ reads, ordB bs rd.at_ j0 = false → rd.ok H1) → ∃ tT tH sk vl, tT j0 = T ∧ tH j0 = H ∧ Tr P call ops bs j0 tT tH sk vl ∧ TrP P ops bs j0 tT tH sk vl past reads ∧ K (tT (j0 + (o :: l).length)) (tH (j0 + (o :: l).length)) = some r := by
      intro v H1 hf hv he hg hh hc
      obtain ⟨tT, tH, sk, vl, h0, h1, X, Y, hK⟩ := evD_inv ops bs l (j0 + 1) _ _ _ _ hl' hh
      refine ⟨_, _, _, _, if_pos rfl, if_pos rfl, tr_cons (s := false) (v := v) ho h0 h1 X (fun hx => by cases hx) (fun _ => hg) (fun f' _ hf' => by rw [hf] at hf'; cases hf') (fun _ _ => hv) (fun _ _ j p f hj hp hs hf hord => Y.past (j0, H) (by simp) j p f hj hp hs hf hord) (fun f' _ hf' => by rw [hf] at hf'; cases hf') (fun _ _ hx => by rw [alloc_not_eff hx] at he; cases he),
        trp_cons ho h1 (fun p hp => ⟨Y.past p (by simp [hp]), fun f' _ hf' => by rw [hf] at hf'; cases hf'⟩) (fun rd hrd => ⟨Y.reads rd hrd, fun _ _ hord => hc rd hrd hord⟩), ?_⟩
      rw [hlen]
      simp only [if_neg (show j0 + 1 + l.length ≠ j0 by omega)]
      exact hK
    have fin_alloc : ∀ (v : Value) (H1 : AH) (ok : AH → Prop), (∀ X, ok X → blk X H.length = blk H1 H.length) → opRead P (opv T) o.op = none → aRes P call (opv T) o.op H = some (v, H1) → isEff o.op = false → (o.guard = none ∨ ∃ g want, o.guard = some (g, want) ∧ yieldV ops T g = .bool want) → evD P call ops bs l (j0 + 1) (putT T o.dst v) H1 past (⟨j0, ok⟩ :: reads) K = some r → ∃ tT tH sk vl, tT j0 = T ∧ tH j0 = H ∧ Tr P call ops bs j0 tT tH sk vl ∧ TrP P ops bs j0 tT tH sk vl past reads ∧ K (tT (j0 + (o :: l).length)) (tH (j0 + (o :: l).length)) = some r := by
      intro v H1 ok hok hf hv he hg hh
      obtain ⟨tT, tH, sk, vl, h0, h1, X, Y, hK⟩ := evD_inv ops bs l (j0 + 1) _ _ _ _ hl' hh
      refine ⟨_, _, _, _, if_pos rfl, if_pos rfl, tr_cons (s := false) (v := v) ho h0 h1 X (fun hx => by cases hx) (fun _ => hg) (fun f' _ hf' => by rw [hf] at hf'; cases hf') (fun _ _ => hv) (fun _ hx => by rw [he] at hx; cases hx) (fun f' _ hf' => by rw [hf] at hf'; cases hf') (fun _ _ _ e oe hee hoe hse hef hord => hok _ (Y.reads ⟨j0, ok⟩ (by simp) e oe hee hoe hse hef hord)),
        trp_cons ho h1 (fun p hp => ⟨Y.past p hp, fun f' _ hf' => by rw [hf] at hf'; cases hf'⟩) (fun rd hrd => ⟨Y.reads rd (by simp [hrd]), fun _ hx => by rw [he] at hx; cases hx⟩), ?_⟩
      rw [hlen]
      simp only [if_neg (show j0 + 1 + l.length ≠ j0 by omega)]
      exact hK
    have fin_pure : ∀ (v : Value) (H1 : AH), opRead P (opv T) o.op = none → aRes P call (opv T) o.op H = some (v, H1) → isEff o.op = false → isAlloc o.op = false → (o.guard = none ∨ ∃ g want, o.guard = some (g, want) ∧ yieldV ops T g = .bool want) → evD P call ops bs l (j0 + 1) (putT T o.dst v) H1 past reads K = some r → ∃ tT tH sk vl, tT j0 = T ∧ tH j0 = H ∧ Tr P call ops bs j0 tT tH sk vl ∧ TrP P ops bs j0 tT tH sk vl past reads ∧ K (tT (j0 + (o :: l).length)) (tH (j0 + (o :: l).length)) = some r := by
      intro v H1 hf hv he ha hg hh
      obtain ⟨tT, tH, sk, vl, h0, h1, X, Y, hK⟩ := evD_inv ops bs l (j0 + 1) _ _ _ _ hl' hh
      refine ⟨_, _, _, _, if_pos rfl, if_pos rfl, tr_cons (s := false) (v := v) ho h0 h1 X (fun hx => by cases hx) (fun _ => hg) (fun f' _ hf' => by rw [hf] at hf'; cases hf') (fun _ _ => hv) (fun _ hx => by rw [he] at hx; cases hx) (fun f' _ hf' => by rw [hf] at hf'; cases hf') (fun _ _ hx => by rw [ha] at hx; cases hx),
        trp_cons ho h1 (fun p hp => ⟨Y.past p hp, fun f' _ hf' => by rw [hf] at hf'; cases hf'⟩) (fun rd hrd => ⟨Y.reads rd hrd, fun _ hx => by rw [he] at hx; cases hx⟩), ?_⟩
      rw [hlen]
      simp only [if_neg (show j0 + 1 + l.length ≠ j0 by omega)]
      exact hK
    unfold evD at h
    cases hg : o.guard with
    | none =>
      rw [hg] at h
      simp only at h
      split at h
      · rename_i f hf
        obtain ⟨v, hv, hh⟩ := bind_some h
        obtain ⟨hh, hc⟩ := chkPast_inv past hh
        exact fin_read v _ f hf hv (fun X hX => hX) (.inl hg) hh hc
      · rename_i hf
        rw [aOp_res] at h
        obtain ⟨⟨v, H1⟩, hv, hh⟩ := bind_some h
        simp only at hh
        cases he : isEff o.op with
        | true =>
          rw [he] at hh
          obtain ⟨hh, hc⟩ := chkReads_inv reads hh
          exact fin_eff v H1 hf hv he (.inl hg) hh hc
        | false =>
          rw [he] at hh
          cases ha : isAlloc o.op with
          | true => rw [ha] at hh; exact fin_alloc v H1 _ (fun X hX => hX) hf hv he (.inl hg) hh
          | false => rw [ha] at hh; exact fin_pure v H1 hf hv he ha (.inl hg) hh
    | some q =>
      obtain ⟨g, want⟩ := q
      rw [hg] at h
      simp only at h
      split at h
      · rename_i f hf
        obtain ⟨p, hp, hh⟩ := bind_some h
        obtain ⟨hh, hc⟩ := chkPast_inv past hh
        rcases gOp_inv hp with ⟨hu, h5⟩ | ⟨hu, rfl⟩
        · obtain ⟨v, hv, h6⟩ := bind_some h5
          cases h6
          exact fin_read v _ f hf hv (fun X hX => hX hu) (.inr ⟨g, want, hg, hu⟩) hh (fun p hp hord => hc p hp hord hu)
        · exact fin_skip _ _ (fun p hp => hp) (fun rd hrd => by simp [hrd]) hh ⟨g, want, hg, hu⟩
      · rename_i hf
        obtain ⟨⟨v, H1⟩, hp, hh⟩ := bind_some h
        simp only at hh
        rcases gOp_inv hp with ⟨hu, h5⟩ | ⟨hu, h5⟩
        · cases he : isEff o.op with
          | true =>
            rw [he] at hh
            obtain ⟨hh, hc⟩ := chkReads_inv reads hh
            exact fin_eff v H1 hf h5 he (.inr ⟨g, want, hg, hu⟩) hh hc
          | false =>
            rw [he] at hh
            cases ha : isAlloc o.op with
            | true => rw [ha] at hh; exact fin_alloc v H1 _ (fun X hX => hX hu) hf h5 he (.inr ⟨g, want, hg, hu⟩) hh
            | false => rw [ha] at hh; exact fin_pure v H1 hf h5 he ha (.inr ⟨g, want, hg, hu⟩) hh
        · cases h5
          cases he : isEff o.op with
          | true =>
            rw [he] at hh
            obtain ⟨hh, hc⟩ := chkReads_inv reads hh
            exact fin_skip _ _ (fun p hp => by simp [hp]) (fun rd hrd => hrd) hh ⟨g, want, hg, hu⟩
          | false =>
            rw [he] at hh
            cases ha : isAlloc o.op with
            | true => rw [ha] at hh; exact fin_skip _ _ (fun p hp => hp) (fun rd hrd => by simp [hrd]) hh ⟨g, want, hg, hu⟩
            | false => rw [ha] at hh; exact fin_skip _ _ (fun p hp => hp) (fun rd hrd => hrd) hh ⟨g, want, hg, hu⟩
end
end Go.AM
set_option linter.unusedVariables false
set_option linter.unusedSimpArgs false
namespace Go.AM
open Go.RowKit

section
variable {P : Program} {call : CallF}

def cutM (m : Mp) (l : Nat) : Mp := fun b => if b < l then m b else none
theorem cutM_some {m : Mp} {l b : Nat} {L : Loc} (h : cutM m l b = some L) : b < l ∧ m b = some L := by
  unfold cutM at h
  split at h
  · rename_i hb; exact ⟨hb, h⟩
  · cases h
theorem cutM_of {m : Mp} {l b : Nat} {L : Loc} (h : b < l) (hm : m b = some L) : cutM m l b = some L := by rw [cutM, if_pos h, hm]
/-- All that a value leads to lies below l. -/
def Bel (l : Nat) (x : Value) : Prop := ∃ (mm : Mp) (y : Value), VRel mm x y ∧ ∀ b L, mm b = some L → b < l
theorem Bel.list {l : Nat} {mm : Mp} {xs ys : List Value} (h : LRel mm xs ys) (hb : ∀ b L, mm b = some L → b < l) : ∀ (i : Nat) (x : Value), xs[i]? = some x → Bel l x := by
  intro i x hx
  have hlt := (List.getElem?_eq_some_iff.1 hx).1
  have hy := List.getElem?_eq_getElem (show i < ys.length by rw [← h.1]; exact hlt)
  exact ⟨mm, _, h.2 i x _ hx hy, hb⟩
theorem VRel.cutB {m : Mp} {l : Nat} {x y : Value} (h : VRel m x y) : Bel l x → VRel (cutM m l) x y := by
  induction h with
  | unk v => intro _; exact .unk v
  | flat v hf => intro _; exact .flat v hf
  | ptr b off L hm h0 =>
    intro hb
    obtain ⟨mm, y, hr, hl⟩ := hb
    obtain ⟨L', h1, _⟩ := hr.ptr_inv
    exact .ptr b off L (cutM_of (hl _ _ h1) hm) h0
  | map b L hm h0 =>
    intro hb
    obtain ⟨mm, y, hr, hl⟩ := hb
    obtain ⟨L', h1, _⟩ := hr.map_inv
    exact .map b L (cutM_of (hl _ _ h1) hm) h0
  | yld b L hm h0 =>
    intro hb
    obtain ⟨mm, y, hr, hl⟩ := hb
    obtain ⟨L', h1, _⟩ := hr.yld_inv
    exact .yld b L (cutM_of (hl _ _ h1) hm) h0
  | slice b off off' len cap cap' L hm h0 h1 h2 h3 h4 h5 h7 =>
    intro hb
    obtain ⟨mm, y, hr, hl⟩ := hb
    obtain ⟨L', _, _, h6, _⟩ := hr.slice_inv
    exact .slice b off off' len cap cap' L (cutM_of (hl _ _ h6) hm) h0 h1 h2 h3 h4 h5 h7
  | agg xs ys hs _ ih =>
    intro hb
    obtain ⟨mm, y, hr, hl⟩ := hb
    obtain ⟨zs, rfl, hlr⟩ := hr.agg_inv
    exact .agg xs ys hs fun i x y hx hy => ih i x y hx hy (Bel.list hlr hl i x (by simpa using hx))
  | tuple xs ys hs _ ih =>
    intro hb
    obtain ⟨mm, y, hr, hl⟩ := hb
    obtain ⟨zs, rfl, hlr⟩ := hr.tuple_inv
    exact .tuple xs ys hs fun i x y hx hy => ih i x y hx hy (Bel.list hlr hl i x (by simpa using hx))
  | func f a b a' b' h1 _ h2 _ ih1 ih2 =>
    intro hb
    obtain ⟨mm, y, hr, hl⟩ := hb
    have hsp : LRel mm a.toList (match y with | .func _ u _ => u.toList | _ => []) ∧ LRel mm b.toList (match y with | .func _ _ u => u.toList | _ => []) := by
      cases hr with
      | flat v hf => simp [flat1] at hf
      | func f a b a' b' h1 h2 h3 h4 => exact ⟨⟨by simpa using h1, fun i x y hx hy => h2 i x y (by simpa using hx) (by simpa using hy)⟩, ⟨by simpa using h3, fun i x y hx hy => h4 i x y (by simpa using hx) (by simpa using hy)⟩⟩
    exact .func f a b a' b' h1 (fun i x y hx hy => ih1 i x y hx hy (Bel.list hsp.1 hl i x (by simpa using hx))) h2 (fun i x y hx hy => ih2 i x y hx hy (Bel.list hsp.2 hl i x (by simpa using hx)))
/-- What holds behind an operation whatever it comes to, holds. -/
theorem wp_const {o : Oper} {a : Act} {w : World} {C : Prop} (h : o.wp P a w (fun _ _ => C) (fun _ _ _ => C)) : C := by
  unfold Oper.wp at h
  generalize (execOp a.eval o).run P w = res at h
  cases res with
  | halt hh w' => cases hh <;> simp only [Oper.upon] at h <;> exact h
  | ok n w' =>
    cases n <;> simp only [Oper.upon] at h
    case enter f args =>
      obtain ⟨e, w'', fr, hR, _⟩ := h []
      cases e with
      | returned v => exact hR
      | panicked c => exact hR
      | outgrown => obtain ⟨_, _, hc⟩ := hR; exact hc
    case row row args =>
      obtain ⟨v, w'', hR, _⟩ := h default []
      exact hR
    all_goals exact h
theorem read_res {ρ : Operand → Value} {op : Op} {f : AH → Option Value} (hf : opRead P ρ op = some f) (H : AH) : aRes P call ρ op H = (f H).bind fun v => some (v, H) := by
  unfold opRead at hf
  split at hf
  · cases hf; rfl
  · rename_i s d x
    cases hb : isBytesToString P s d with
    | true => rw [hb] at hf; cases hf; unfold aRes; simp only [aOp, hb, cond_true]
    | false => rw [hb] at hf; cases hf
  · cases hf; rfl
  · split at hf
    · rename_i args ts t x ht hx
      cases hb : isMapT P t with
      | true =>
        rw [hb] at hf
        cases hf
        unfold aRes
        simp only [aOp, aCall, ht, hx, hb, cond_true]
      | false => rw [hb] at hf; cases hf
    · cases hf
  · cases hf
section
variable {ops : Array Oper} {bs : List Nat} {tT : Nat → List Value} {tH : Nat → AH} {sk : Nat → Bool} {vl : Nat → Value}
theorem Tr.res (X : Tr P call ops bs 0 tT tH sk vl) {j : Nat} {o : Oper} (ho : ops[j]? = some o) (hs : sk j = false) : aRes P call (opv (tT j)) o.op (tH j) = some (vl j, tH (j + 1)) := by
  cases hf : opRead P (opv (tT j)) o.op with
  | none => exact X.other j o (Nat.zero_le _) ho hs hf
  | some f =>
    obtain ⟨h1, h2⟩ := X.read j o f (Nat.zero_le _) ho hs hf
    rw [read_res hf, h1, h2]
    rfl
/-- The text's own order can be walked. -/
theorem Tr.walk (hcall : CallOK P call) (X : Tr P call ops bs 0 tT tH sk vl) {B0 : Nat} {w0 : World} {m : Mp} {a : Act} {w : World} (R0 : Rel P B0 w0 m (tH 0) w) (hT : LRel m (tT 0) a.tmps.toList) :
    ∀ j, j ≤ ops.size → ∃ (m' : Mp) (a' : Act) (w' : World), Ext m (tH 0) w m' (tH j) w' ∧ Rel P B0 w0 m' (tH j) w' ∧ LRel m' (tT j) a'.tmps.toList
  | 0, _ => ⟨m, a, w, Ext.refl _ _ _, R0, hT⟩
  | j + 1, hj => by
    obtain ⟨m1, a1, w1, E1, R1, T1⟩ := Tr.walk hcall X R0 hT j (by omega)
    have ho : ops[j]? = some ops[j] := Array.getElem?_eq_getElem (by omega)
    cases hs : sk j with
    | true =>
      obtain ⟨_, h2, h3⟩ := X.skip j _ (Nat.zero_le _) ho hs
      rw [X.step j _ (Nat.zero_le _) ho, h2, h3]
      exact ⟨m1, a1.put ops[j].dst undef, w1, E1, R1, put_rel T1 _ (VRel.undef _)⟩
    | false =>
      have h1 := res_sound hcall (X.res ho hs) R1 T1
      refine wp_const (h1 (fun _ _ => _) (fun _ _ _ => _) fun m' v' w' E R' hv => ?_)
      rw [X.step j _ (Nat.zero_le _) ho]
      exact ⟨m', a1.put ops[j].dst v', w', Ext.trans (fun b L hb => (R0.dom b L hb).1) E1 E, R', put_rel (T1.mono E.mono) _ hv⟩
/-- From one step to the next. -/
theorem Tr.next (hcall : CallOK P call) (X : Tr P call ops bs 0 tT tH sk vl) {B0 : Nat} {w0 : World} {m : Mp} {a : Act} {w : World} (R0 : Rel P B0 w0 m (tH 0) w) (hT : LRel m (tT 0) a.tmps.toList) {j : Nat} (hj : j < ops.size) :
    (tH j).length ≤ (tH (j + 1)).length ∧ ∀ b k', b < (tH j).length → blk (tH (j + 1)) b = some k' → ∃ k, blk (tH j) b = some k ∧ k.kind = k'.kind := by
  obtain ⟨m1, a1, w1, E1, R1, T1⟩ := X.walk hcall R0 hT j (by omega)
  have ho : ops[j]? = some ops[j] := Array.getElem?_eq_getElem (by omega)
  cases hs : sk j with
  | true =>
    obtain ⟨_, _, h3⟩ := X.skip j _ (Nat.zero_le _) ho hs
    rw [h3]
    exact ⟨Nat.le_refl _, fun b k' _ hk => ⟨k', hk, rfl⟩⟩
  | false =>
    have h1 := res_sound hcall (X.res ho hs) R1 T1
    exact wp_const (h1 (fun _ _ => _) (fun _ _ _ => _) fun m' v' w' E R' hv => ⟨E.len, E.alive⟩)
theorem Tr.bel (hcall : CallOK P call) (X : Tr P call ops bs 0 tT tH sk vl) {B0 : Nat} {w0 : World} {m : Mp} {a : Act} {w : World} (R0 : Rel P B0 w0 m (tH 0) w) (hT : LRel m (tT 0) a.tmps.toList) {j : Nat} (hj : j ≤ ops.size) (s : Nat) (x : Value) (hx : (tT j)[s]? = some x) :
    Bel (tH j).length x := by
  obtain ⟨m1, a1, w1, E1, R1, T1⟩ := X.walk hcall R0 hT j hj
  exact Bel.list T1 (fun b L hb => (R1.dom b L hb).1) s x hx
theorem Tr.lens (hcall : CallOK P call) (X : Tr P call ops bs 0 tT tH sk vl) {B0 : Nat} {w0 : World} {m : Mp} {a : Act} {w : World} (R0 : Rel P B0 w0 m (tH 0) w) (hT : LRel m (tT 0) a.tmps.toList) (i : Nat) : ∀ d, i + d ≤ ops.size → (tH i).length ≤ (tH (i + d)).length ∧ ∀ b k', b < (tH i).length → blk (tH (i + d)) b = some k' → ∃ k, blk (tH i) b = some k ∧ k.kind = k'.kind
  | 0, _ => ⟨Nat.le_refl _, fun b k' _ hk => ⟨k', hk, rfl⟩⟩
  | d + 1, hd => by
    obtain ⟨h1, h2⟩ := Tr.lens hcall X R0 hT i d (by omega)
    obtain ⟨h3, h4⟩ := X.next hcall R0 hT (j := i + d) (by omega)
    refine ⟨Nat.le_trans h1 h3, fun b k' hb hk => ?_⟩
    obtain ⟨k1, h5, h6⟩ := h4 b k' (Nat.lt_of_lt_of_le hb h1) hk
    obtain ⟨k2, h7, h8⟩ := h2 b k1 hb h5
    exact ⟨k2, h7, h8.trans h6⟩
/-- An acting operation that is done. -/
def eE (ops : Array Oper) (sk : Nat → Bool) (j : Nat) : Bool := (ops[j]?).any (fun o => isEff o.op) && !sk j
/-- An operation that doesn't act leaves the blocks that there are; if it makes one, it is told which. -/
theorem Tr.noeff (X : Tr P call ops bs 0 tT tH sk vl) {j : Nat} (hj : j < ops.size) (he : eE ops sk j = false) : (tH (j + 1) = tH j) ∨ ∃ k : Blk, tH (j + 1) = tH j ++ [some k] := by
  have ho : ops[j]? = some ops[j] := Array.getElem?_eq_getElem (by omega)
  cases hs : sk j with
  | true => exact .inl (X.skip j _ (Nat.zero_le _) ho hs).2.2
  | false =>
    have heff : isEff ops[j].op = false := by simpa [eE, ho, hs] using he
    cases hf : opRead P (opv (tT j)) ops[j].op with
    | some f => exact .inl (X.read j _ f (Nat.zero_le _) ho hs hf).2
    | none =>
      have h1 := X.other j _ (Nat.zero_le _) ho hs hf
      cases ha : isAlloc ops[j].op with
      | true => obtain ⟨k, h2, h3, _⟩ := alloc_res ha h1; exact .inr ⟨k, h3⟩
      | false => exact .inl (pure_res heff hf ha h1).1
theorem blk_app_old {H : AH} {b : Nat} (k : Option Blk) (h : b < H.length) : blk (H ++ [k]) b = blk H b := by
  unfold blk
  rw [List.getElem?_append_left h]
theorem Tr.same (X : Tr P call ops bs 0 tT tH sk vl) (i : Nat) : ∀ d, i + d ≤ ops.size → (∀ e, i ≤ e → e < i + d → eE ops sk e = false) → (tH i).length ≤ (tH (i + d)).length ∧ ∀ b, b < (tH i).length → blk (tH (i + d)) b = blk (tH i) b
  | 0, _, _ => ⟨Nat.le_refl _, fun b _ => rfl⟩
  | d + 1, hd, he => by
    obtain ⟨h1, h2⟩ := Tr.same X i d (by omega) fun e h1 h2 => he e h1 (by omega)
    rcases X.noeff (j := i + d) (by omega) (he (i + d) (by omega) (by omega)) with h3 | ⟨k, h3⟩
    · rw [show i + (d + 1) = i + d + 1 by omega, h3]; exact ⟨h1, h2⟩
    · rw [show i + (d + 1) = i + d + 1 by omega, h3]
      exact ⟨by simp; omega, fun b hb => by rw [blk_app_old _ (Nat.lt_of_lt_of_le hb h1)]; exact h2 b hb⟩
end
end
end Go.AM
set_option linter.unusedVariables false
set_option linter.unusedSimpArgs false
namespace Go.AM
open Go.RowKit

theorem BRel.world {P : Program} {B0 : Nat} {m : Mp} {L : Loc} {k : Blk} {w w1 : World} (h : BRel P B0 m L k w) (e : w1.heap[L.blk]? = w.heap[L.blk]?) : BRel P B0 m L k w1 := by
  exact h.at (fun _ _ h => h) e
theorem BRel.mono {P : Program} {B0 : Nat} {m m' : Mp} {L : Loc} {k : Blk} {w : World} (hm : ∀ b L, m b = some L → m' b = some L) (h : BRel P B0 m L k w) : BRel P B0 m' L k w := by
  exact h.at hm rfl
section
variable (tH : Nat → AH) (n : Nat)
open Classical in
/-- A block's content where it is made. -/
noncomputable def ini (b : Nat) : Option Blk := if h : ∃ j, j < n ∧ (tH j).length ≤ b ∧ b < (tH (j + 1)).length then blk (tH (Classical.choose h + 1)) b else none
noncomputable def kb (q b : Nat) : Option Blk := if b < (tH q).length then blk (tH q) b else ini tH n b
variable {tH n}
theorem ini_eq (hmono : ∀ i d, i + d ≤ n → (tH i).length ≤ (tH (i + d)).length) {j b : Nat} (hj : j < n) (h1 : (tH j).length ≤ b) (h2 : b < (tH (j + 1)).length) : ini tH n b = blk (tH (j + 1)) b := by
  have h : ∃ j, j < n ∧ (tH j).length ≤ b ∧ b < (tH (j + 1)).length := ⟨j, hj, h1, h2⟩
  unfold ini
  rw [dif_pos h]
  obtain ⟨g1, g2, g3⟩ := Classical.choose_spec h
  have : Classical.choose h = j := by
    rcases Nat.lt_trichotomy (Classical.choose h) j with hlt | heq | hgt
    · have := hmono (Classical.choose h + 1) (j - (Classical.choose h + 1)) (by omega)
      rw [show Classical.choose h + 1 + (j - (Classical.choose h + 1)) = j by omega] at this
      omega
    · exact heq
    · have := hmono (j + 1) (Classical.choose h - (j + 1)) (by omega)
      rw [show j + 1 + (Classical.choose h - (j + 1)) = Classical.choose h by omega] at this
      omega
  rw [this]
end
structure VR (P : Program) (B0 : Nat) (w0 : World) (tH : Nat → AH) (n q : Nat) (m : Mp) (w : World) : Prop where
  below : Below B0 w0 w
  hB : B0 ≤ w.heap.size
  dom : ∀ b L, m b = some L → b < (tH n).length ∧ L.blk < w.heap.size
  blks : ∀ b L k, m b = some L → kb tH n q b = some k → BRel P B0 (cutM m (max (tH q).length (b + 1))) L k w
  inj : ∀ b1 b2 L1 L2 k1 k2, m b1 = some L1 → m b2 = some L2 → kb tH n q b1 = some k1 → kb tH n q b2 = some k2 → k1.kind ≠ .ro → b1 ≠ b2 → L1.blk ≠ L2.blk
section
variable {P : Program} {B0 : Nat} {w0 : World} {tH : Nat → AH} {n q : Nat} {m : Mp} {w : World}
theorem kb_lt {b : Nat} (h : b < (tH q).length) : kb tH n q b = blk (tH q) b := if_pos h
theorem kb_ge {b : Nat} (h : (tH q).length ≤ b) : kb tH n q b = ini tH n b := if_neg (by omega)
theorem VR.rel (h : VR P B0 w0 tH n q m w) : Rel P B0 w0 (cutM m (tH q).length) (tH q) w := by
  refine ⟨h.below, h.hB, fun b L hm => ?_, fun b L k hm hk => ?_, fun b1 b2 L1 L2 k1 k2 hm1 hm2 hk1 hk2 hne hbb => ?_⟩
  · obtain ⟨h1, h2⟩ := cutM_some hm
    exact ⟨h1, (h.dom b L h2).2⟩
  · obtain ⟨h1, h2⟩ := cutM_some hm
    have := h.blks b L k h2 (by rw [kb_lt h1]; exact hk)
    rwa [Nat.max_eq_left (by omega)] at this
  · obtain ⟨h1, h2⟩ := cutM_some hm1
    obtain ⟨h3, h4⟩ := cutM_some hm2
    exact h.inj b1 b2 L1 L2 k1 k2 h2 h4 (by rw [kb_lt h1]; exact hk1) (by rw [kb_lt h3]; exact hk2) hne hbb
def padH (tH : Nat → AH) (n q : Nat) : AH := tH q ++ List.replicate ((tH n).length - (tH q).length) none
theorem blk_pad {b : Nat} {k : Blk} (h : blk (padH tH n q) b = some k) : b < (tH q).length ∧ blk (tH q) b = some k := by
  unfold padH at h
  rcases Nat.lt_or_ge b (tH q).length with h1 | h1
  · refine ⟨h1, ?_⟩
    unfold blk at h ⊢
    rwa [List.getElem?_append_left h1] at h
  · unfold blk at h
    rw [List.getElem?_append_right h1] at h
    rw [List.getElem?_replicate] at h
    split at h <;> cases h
theorem VR.pad (h : VR P B0 w0 tH n q m w) (hl : (tH q).length ≤ (tH n).length) : Rel P B0 w0 m (padH tH n q) w := by
  refine ⟨h.below, h.hB, fun b L hm => ?_, fun b L k hm hk => ?_, fun b1 b2 L1 L2 k1 k2 hm1 hm2 hk1 hk2 hne hbb => ?_⟩
  · have := h.dom b L hm
    refine ⟨?_, this.2⟩
    unfold padH
    rw [List.length_append, List.length_replicate]
    omega
  · obtain ⟨h1, h2⟩ := blk_pad hk
    exact (h.blks b L k hm (by rw [kb_lt h1]; exact h2)).mono fun b L hb => (cutM_some hb).2
  · obtain ⟨h1, h2⟩ := blk_pad hk1
    obtain ⟨h3, h4⟩ := blk_pad hk2
    exact h.inj b1 b2 L1 L2 k1 k2 hm1 hm2 (by rw [kb_lt h1]; exact h2) (by rw [kb_lt h3]; exact h4) hne hbb
theorem blk_dead (l b : Nat) : blk (List.replicate l none) b = none := by
  unfold blk
  rw [List.getElem?_replicate]
  split <;> rfl
theorem VR.dead (h : VR P B0 w0 tH n q m w) (l : Nat) : Rel P B0 w0 (cutM m l) (List.replicate l none) w := by
  refine ⟨h.below, h.hB, fun b L hm => ?_, fun b L k hm hk => (by rw [blk_dead] at hk; cases hk), fun b1 b2 L1 L2 k1 k2 hm1 hm2 hk1 hk2 hne hbb => (by rw [blk_dead] at hk1; cases hk1)⟩
  obtain ⟨h1, h2⟩ := cutM_some hm
  exact ⟨by rw [List.length_replicate]; exact h1, (h.dom b L h2).2⟩
/-- The world has moved on, its blocks are as they were. -/
theorem VR.still (h : VR P B0 w0 tH n q m w) {w1 : World} (hb : Below B0 w0 w1) (hs : w.heap.size ≤ w1.heap.size) (hw : ∀ B, B < w.heap.size → w1.heap[B]? = w.heap[B]?) : VR P B0 w0 tH n q m w1 :=
  ⟨hb, Nat.le_trans h.hB hs, fun b L hm => ⟨(h.dom b L hm).1, Nat.lt_of_lt_of_le (h.dom b L hm).2 hs⟩, fun b L k hm hk => (h.blks b L k hm hk).world (hw _ (h.dom b L hm).2), h.inj⟩
/-- A block more. -/
theorem VR.alloc (h : VR P B0 w0 tH n q m w) {w1 : World} (hb : Below B0 w0 w1) (hs : w.heap.size ≤ w1.heap.size) (hw : ∀ B, B < w.heap.size → w1.heap[B]? = w.heap[B]?) {l : Nat} {L : Loc} {k : Blk} (hl : l < (tH n).length) (hm : m l = none) (hk : kb tH n q l = some k)
    (hL : w.heap.size ≤ L.blk) (hL1 : L.blk < w1.heap.size) (hB : BRel P B0 (cutM (upd m l L) (l + 1)) L k w1) : VR P B0 w0 tH n q (upd m l L) w1 := by
  have hmono : ∀ b L', m b = some L' → upd m l L b = some L' := fun b L' h1 => by
    unfold upd
    split
    · rename_i he; subst he; rw [hm] at h1; cases h1
    · exact h1
  have old : ∀ b2 L2, upd m l L b2 = some L2 → (b2 = l ∧ L2 = L) ∨ (b2 ≠ l ∧ m b2 = some L2) := by
    intro b2 L2 h2
    unfold upd at h2
    split at h2
    · rename_i hb; cases h2; exact .inl ⟨hb, rfl⟩
    · rename_i hb; exact .inr ⟨hb, h2⟩
  have h1 := h.still hb hs hw
  refine ⟨hb, h1.hB, fun b L' hb' => ?_, fun b L' k' hb' hk' => ?_, fun b1 b2 L1 L2 k1 k2 hm1 hm2 hk1 hk2 hne hbb => ?_⟩
  · rcases old b L' hb' with ⟨rfl, rfl⟩ | ⟨_, h2⟩
    · exact ⟨hl, hL1⟩
    · exact h1.dom b L' h2
  · rcases old b L' hb' with ⟨rfl, rfl⟩ | ⟨_, h2⟩
    · rw [hk] at hk'
      cases hk'
      exact hB.mono fun b' L'' h3 => by obtain ⟨h4, h5⟩ := cutM_some h3; exact cutM_of (by omega) h5
    · exact (h1.blks b L' k' h2 hk').mono fun b' L'' h3 => by obtain ⟨h4, h5⟩ := cutM_some h3; exact cutM_of h4 (hmono _ _ h5)
  · rcases old b1 L1 hm1 with ⟨rfl, rfl⟩ | ⟨_, h2⟩
    · rcases old b2 L2 hm2 with ⟨rfl, rfl⟩ | ⟨_, h3⟩
      · exact (hbb rfl).elim
      · have := (h.dom b2 L2 h3).2; omega
    · rcases old b2 L2 hm2 with ⟨rfl, rfl⟩ | ⟨_, h3⟩
      · have := (h.dom b1 L1 h2).2; omega
      · exact h.inj b1 b2 L1 L2 k1 k2 h2 h3 hk1 hk2 hne hbb
/-- What acts is done. -/
def mrg (m1 m : Mp) (l1 : Nat) : Mp := fun b => if b < l1 then m1 b else m b
theorem VR.eff (h : VR P B0 w0 tH n q m w) {q' : Nat} {m1 : Mp} {w1 : World} (hq : q < q') (hq' : q' ≤ n) (hlen : (tH q).length ≤ (tH (q + 1)).length) (hsame : (tH (q + 1)).length ≤ (tH q').length ∧ ∀ b, b < (tH (q + 1)).length → blk (tH q') b = blk (tH (q + 1)) b)
    (hini : ∀ b, (tH (q + 1)).length ≤ b → b < (tH q').length → blk (tH q') b = ini tH n b) (hle : (tH q').length ≤ (tH n).length)
    (R1 : Rel P B0 w0 m1 (tH (q + 1)) w1) (E : Ext (cutM m (tH q).length) (tH q) w m1 (tH (q + 1)) w1) (hnew : ∀ b, (tH q).length ≤ b → b < (tH (q + 1)).length → m b = none) :
    VR P B0 w0 tH n q' (mrg m1 m (tH (q + 1)).length) w1 ∧ (∀ b L, m b = some L → mrg m1 m (tH (q + 1)).length b = some L) := by
  have hmono : ∀ b L, m b = some L → mrg m1 m (tH (q + 1)).length b = some L := by
    intro b L hb
    unfold mrg
    split
    · rename_i hlt
      rcases Nat.lt_or_ge b (tH q).length with h1 | h1
      · exact E.mono b L (cutM_of h1 hb)
      · rw [hnew b h1 hlt] at hb; cases hb
    · exact hb
  have hmono1 : ∀ b L, m1 b = some L → mrg m1 m (tH (q + 1)).length b = some L := by
    intro b L hb
    unfold mrg
    rw [if_pos (R1.dom b L hb).1]
    exact hb
  have old : ∀ b L, mrg m1 m (tH (q + 1)).length b = some L → (b < (tH (q + 1)).length ∧ m1 b = some L) ∨ ((tH (q + 1)).length ≤ b ∧ m b = some L) := by
    intro b L hb
    unfold mrg at hb
    split at hb
    · rename_i h1; exact .inl ⟨h1, hb⟩
    · rename_i h1; exact .inr ⟨by omega, hb⟩
  -- what lies beyond is as it was
  have kbeyond : ∀ b, (tH (q + 1)).length ≤ b → kb tH n q' b = kb tH n q b := by
    intro b hb
    rw [kb_ge (q := q) (by omega)]
    rcases Nat.lt_or_ge b (tH q').length with h1 | h1
    · rw [kb_lt h1]; exact hini b hb h1
    · exact kb_ge h1
  have wbeyond : ∀ b L k, (tH (q + 1)).length ≤ b → m b = some L → kb tH n q b = some k → w1.heap[L.blk]? = w.heap[L.blk]? := by
    intro b L k hb hm hk
    refine E.frame _ (h.dom b L hm).2 fun b2 L2 k2 hm2 hk2 hne => ?_
    obtain ⟨h1, h2⟩ := cutM_some hm2
    exact h.inj b2 b L2 L k2 k h2 hm (by rw [kb_lt h1]; exact hk2) hk hne (by omega)
  -- where a block of the lesser heap may lie
  have place : ∀ b L k, m1 b = some L → blk (tH (q + 1)) b = some k → ∀ b2 L2 k2, (tH (q + 1)).length ≤ b2 → m b2 = some L2 → kb tH n q b2 = some k2 → (k.kind ≠ .ro ∨ k2.kind ≠ .ro) → L.blk ≠ L2.blk := by
    intro b L k hm hk b2 L2 k2 hb2 hm2 hk2 hor
    rcases E.new b L hm with h1 | ⟨h1, h3 | ⟨b0, L0, k0, h3, h4, h5, h6⟩⟩
    · obtain ⟨h3, h4⟩ := cutM_some h1
      obtain ⟨k', h5, h6⟩ := E.alive b k h3 hk
      rcases hor with hor | hor
      · exact h.inj b b2 L L2 k' k2 h4 hm2 (by rw [kb_lt h3]; exact h5) hk2 (by rw [h6]; exact hor) (by omega)
      · exact Ne.symm (h.inj b2 b L2 L k2 k' hm2 h4 hk2 (by rw [kb_lt h3]; exact h5) hor (by omega))
    · have := (h.dom b2 L2 hm2).2; omega
    · obtain ⟨h7, h8⟩ := cutM_some h3
      rw [← h6]
      exact h.inj b0 b2 L0 L2 k0 k2 h8 hm2 (by rw [kb_lt h7]; exact h4) hk2 h5 (by omega)
  refine ⟨⟨R1.below, R1.hB, fun b L hb => ?_, fun b L k hb hk => ?_, fun b1 b2 L1 L2 k1 k2 hm1 hm2 hk1 hk2 hne hbb => ?_⟩, hmono⟩
  · rcases old b L hb with ⟨h1, h2⟩ | ⟨h1, h2⟩
    · exact ⟨by omega, (R1.dom b L h2).2⟩
    · exact ⟨(h.dom b L h2).1, Nat.lt_of_lt_of_le (h.dom b L h2).2 E.size⟩
  · rcases old b L hb with ⟨h1, h2⟩ | ⟨h1, h2⟩
    · rw [kb_lt (by omega), hsame.2 b h1] at hk
      exact (R1.blks b L k h2 hk).mono fun b' L' h3 => cutM_of (by have := (R1.dom b' L' h3).1; omega) (hmono1 b' L' h3)
    · rw [kbeyond b h1] at hk
      refine ((h.blks b L k h2 hk).world (wbeyond b L k h1 h2 hk)).mono fun b' L' h3 => ?_
      obtain ⟨h4, h5⟩ := cutM_some h3
      exact cutM_of (by omega) (hmono b' L' h5)
  · rcases old b1 L1 hm1 with ⟨h1, h2⟩ | ⟨h1, h2⟩
    · rw [kb_lt (by omega), hsame.2 b1 h1] at hk1
      rcases old b2 L2 hm2 with ⟨h3, h4⟩ | ⟨h3, h4⟩
      · rw [kb_lt (by omega), hsame.2 b2 h3] at hk2
        exact R1.inj b1 b2 L1 L2 k1 k2 h2 h4 hk1 hk2 hne hbb
      · rw [kbeyond b2 h3] at hk2
        exact place b1 L1 k1 h2 hk1 b2 L2 k2 h3 h4 hk2 (.inl hne)
    · rw [kbeyond b1 h1] at hk1
      rcases old b2 L2 hm2 with ⟨h3, h4⟩ | ⟨h3, h4⟩
      · rw [kb_lt (by omega), hsame.2 b2 h3] at hk2
        exact Ne.symm (place b2 L2 k2 h4 hk2 b1 L1 k1 h1 h2 hk1 (.inr hne))
      · rw [kbeyond b2 h3] at hk2
        exact h.inj b1 b2 L1 L2 k1 k2 h2 h4 hk1 hk2 hne hbb
end
end Go.AM
set_option linter.unusedVariables false
set_option linter.unusedSimpArgs false
namespace Go.AM
open Go.RowKit

section
variable {P : Program} {call : CallF} {ops : Array Oper}
def dstAt (ops : Array Oper) (i : Nat) : Option Tmp := (ops[i]?).bind (·.dst)
def sv (ops : Array Oper) (vl : Nat → Value) (T0 : List Value) (D : Nat → Bool) : Nat → Nat → Value
  | 0, s => T0.getD s undef
  | i + 1, s => if D i = true ∧ dstAt ops i = some s then vl i else sv ops vl T0 D i s
def svL (ops : Array Oper) (vl : Nat → Value) (T0 : List Value) (D : Nat → Bool) : List Value := (List.range T0.length).map (sv ops vl T0 D ops.size)
variable {vl : Nat → Value} {T0 : List Value}
theorem svL_length (D : Nat → Bool) : (svL ops vl T0 D).length = T0.length := by simp [svL]
theorem svL_getD (D : Nat → Bool) {s : Nat} (hs : s < T0.length) : (svL ops vl T0 D).getD s undef = sv ops vl T0 D ops.size s := by
  unfold svL
  rw [List.getD_eq_getElem?_getD, List.getElem?_map, List.getElem?_range hs]
  rfl
theorem sv_congr {D D' : Nat → Bool} {s : Nat} : ∀ i, (∀ j, j < i → dstAt ops j = some s → D j = D' j) → sv ops vl T0 D i s = sv ops vl T0 D' i s
  | 0, _ => rfl
  | i + 1, h => by
    have ih := sv_congr (D := D) (D' := D') i fun j hj => h j (by omega)
    unfold sv
    rw [ih]
    by_cases hd : dstAt ops i = some s
    · rw [h i (by omega) hd]
    · rw [if_neg (fun hh => hd hh.2), if_neg (fun hh => hd hh.2)]
theorem sv_cut {D : Nat → Bool} {s i : Nat} : ∀ d, (∀ j, i ≤ j → j < i + d → dstAt ops j = some s → D j = false) → sv ops vl T0 D (i + d) s = sv ops vl T0 D i s
  | 0, _ => rfl
  | d + 1, h => by
    have ih := sv_cut (D := D) (s := s) (i := i) d fun j h1 h2 => h j h1 (by omega)
    have e : sv ops vl T0 D (i + (d + 1)) s = if D (i + d) = true ∧ dstAt ops (i + d) = some s then vl (i + d) else sv ops vl T0 D (i + d) s := rfl
    rw [e, if_neg]
    · exact ih
    · intro hh
      have := h (i + d) (by omega) (by omega) hh.2
      rw [hh.1] at this
      cases this
theorem tT_sv {tT : Nat → List Value} (h0 : tT 0 = T0) (hstep : ∀ j o, ops[j]? = some o → tT (j + 1) = putT (tT j) o.dst (vl j)) : ∀ j, j ≤ ops.size → (tT j).length = T0.length ∧ ∀ s, s < T0.length → (tT j).getD s undef = sv ops vl T0 (fun _ => true) j s
  | 0, _ => by rw [h0]; exact ⟨rfl, fun s _ => rfl⟩
  | j + 1, hj => by
    obtain ⟨h1, h2⟩ := tT_sv h0 hstep j (by omega)
    have ho : ops[j]? = some ops[j] := Array.getElem?_eq_getElem (by omega)
    rw [hstep j _ ho]
    have hd : dstAt ops j = ops[j].dst := by simp [dstAt, ho]
    cases hdst : ops[j].dst with
    | none =>
      refine ⟨h1, fun s hs => ?_⟩
      unfold sv
      rw [if_neg (by rw [hd, hdst]; simp)]
      exact h2 s hs
    | some d =>
      refine ⟨by simp [putT, h1], fun s hs => ?_⟩
      unfold sv
      rw [hd, hdst]
      by_cases he : d = s
      · subst he
        rw [if_pos ⟨rfl, rfl⟩]
        simp only [putT]
        rw [List.getD_eq_getElem?_getD, List.getElem?_set_self (by omega)]
        rfl
      · rw [if_neg (by simp [he])]
        simp only [putT]
        rw [List.getD_eq_getElem?_getD, List.getElem?_set_ne he, ← List.getD_eq_getElem?_getD]
        exact h2 s hs
/-- What the region's own test says of two operations. -/
theorem regOK_pair (hreg : regOK ops = true) {i j : Nat} (hij : i < j) {oi oj : Oper} (hi : ops[i]? = some oi) (hj : ops[j]? = some oj) : ordB (befL [] ops.toList) i j = true ∨ ((isEff oi.op = true → isEff oj.op = true → False) ∧ oi.apart ops oj = true ∧ oj.apart ops oi = true) := by
  unfold regOK at hreg
  rw [Bool.and_eq_true] at hreg
  have h1 := List.all_eq_true.1 hreg.2 j (List.mem_range.2 (Array.getElem?_eq_some_iff.1 hj).1)
  have h2 := List.all_eq_true.1 h1 i (List.mem_range.2 hij)
  rw [Bool.or_eq_true] at h2
  rcases h2 with h2 | h2
  · exact .inl h2
  · right
    simp only [hi, hj, Option.any_some, Bool.and_eq_true, Bool.not_eq_true', Bool.and_eq_false_iff] at h2
    refine ⟨fun h3 h4 => ?_, h2.1.2, h2.2⟩
    rcases h2.1.1 with h5 | h5
    · rw [h3] at h5; cases h5
    · rw [h4] at h5; cases h5
theorem regOK_edge (hreg : regOK ops = true) {j : Nat} {o : Oper} (ho : ops[j]? = some o) {e : Edge} (he : e ∈ o.after) (hb : Region.binds .any e = true) : e.on < j := by
  unfold regOK at hreg
  rw [Bool.and_eq_true] at hreg
  have h1 := List.all_eq_true.1 hreg.1 j (List.mem_range.2 (Array.getElem?_eq_some_iff.1 ho).1)
  simp only [ho, Option.any_some] at h1
  have h2 := Array.all_eq_true'.1 h1 e he
  simpa [hb] using h2
/-- The operation is ready: what it comes behind is done, it is not. -/
structure Ready (ops : Array Oper) (D : Nat → Bool) (j : Nat) (o : Oper) : Prop where
  op : ops[j]? = some o
  down : Down ops (fun i => D i = true)
  edges : ∀ e ∈ o.after, Region.binds .any e = true → D e.on = true
  not : D j = false
variable {D : Nat → Bool} {j : Nat} {o : Oper}
theorem Ready.before (h : Ready ops D j o) {i : Nat} (ho : ordB (befL [] ops.toList) i j = true) : D i = true := ordB_down h.down j o h.op h.edges i ho
theorem Ready.behind (h : Ready ops D j o) {i : Nat} {oi : Oper} (hi : ops[i]? = some oi) (ho : ordB (befL [] ops.toList) j i = true) : D i = false := by
  cases hD : D i with
  | false => rfl
  | true =>
    have := ordB_down h.down i oi hi (fun e he hb => h.down i oi hi hD e he hb) j ho
    have h2 := h.not
    rw [this] at h2
    cases h2
theorem Ready.slots (hreg : regOK ops = true) (h : Ready ops D j o) {s : Tmp} (hs : s ∈ o.looksAt ops) : sv ops vl T0 D ops.size s = sv ops vl T0 (fun _ => true) j s := by
  have hj : j < ops.size := (Array.getElem?_eq_some_iff.1 h.op).1
  have e1 : sv ops vl T0 D ops.size s = sv ops vl T0 D j s := by
    have := sv_cut (ops := ops) (vl := vl) (T0 := T0) (D := D) (s := s) (i := j) (ops.size - j) fun i h1 h2 hd => ?_
    · rwa [show j + (ops.size - j) = ops.size by omega] at this
    · by_cases hij : i = j
      · subst hij; exact h.not
      · have hi : ops[i]? = some ops[i] := Array.getElem?_eq_getElem (by omega)
        rcases regOK_pair hreg (show j < i by omega) h.op hi with h3 | ⟨_, h3, _⟩
        · exact h.behind hi h3
        · obtain ⟨_, _, h5⟩ := Oper.apart_spec h3
          exact absurd hs (h5 s (by simpa [dstAt, hi] using hd))
  rw [e1]
  refine sv_congr j fun i hij hd => ?_
  have hi : ops[i]? = some ops[i] := Array.getElem?_eq_getElem (by omega)
  rcases regOK_pair hreg hij hi h.op with h3 | ⟨_, h3, _⟩
  · exact h.before h3
  · obtain ⟨h4, _, _⟩ := Oper.apart_spec h3
    exact absurd hs (h4 s (by simpa [dstAt, hi] using hd))
theorem Ready.put (hreg : regOK ops = true) (h : Ready ops D j o) : svL ops vl T0 (fun i => if i = j then true else D i) = putT (svL ops vl T0 D) o.dst (vl j) := by
  have hj : j < ops.size := (Array.getElem?_eq_some_iff.1 h.op).1
  have hdj : dstAt ops j = o.dst := by simp [dstAt, h.op]
  apply List.ext_getElem?
  intro s
  rcases Nat.lt_or_ge s T0.length with hs | hs
  · have hl : (svL ops vl T0 (fun i => if i = j then true else D i))[s]? = some (sv ops vl T0 (fun i => if i = j then true else D i) ops.size s) := by
      unfold svL; rw [List.getElem?_map, List.getElem?_range hs]; rfl
    have hl2 : (svL ops vl T0 D)[s]? = some (sv ops vl T0 D ops.size s) := by
      unfold svL; rw [List.getElem?_map, List.getElem?_range hs]; rfl
    rw [hl]
    by_cases hd : o.dst = some s
    · rw [hd]
      simp only [putT]
      rw [List.getElem?_set_self (by rw [svL_length]; exact hs)]
      congr 1
      have := sv_cut (ops := ops) (vl := vl) (T0 := T0) (D := fun i => if i = j then true else D i) (s := s) (i := j + 1) (ops.size - (j + 1)) fun i h1 h2 hdi => ?_
      · rw [show j + 1 + (ops.size - (j + 1)) = ops.size by omega] at this
        rw [this]
        unfold sv
        rw [if_pos ⟨by simp, by rw [hdj]; exact hd⟩]
      · simp only [if_neg (show i ≠ j by omega)]
        have hi : ops[i]? = some ops[i] := Array.getElem?_eq_getElem (by omega)
        rcases regOK_pair hreg (show j < i by omega) h.op hi with h3 | ⟨_, h3, _⟩
        · exact h.behind hi h3
        · obtain ⟨_, h5, _⟩ := Oper.apart_spec h3
          exact absurd (show ops[i].dst = some s by simpa [dstAt, hi] using hdi) (h5 s hd)
    · have e1 : sv ops vl T0 (fun i => if i = j then true else D i) ops.size s = sv ops vl T0 D ops.size s := sv_congr _ fun i hi hdi => by
        have : i ≠ j := fun he => hd (by rw [← hdj, ← he]; exact hdi)
        simp only [if_neg this]
      rw [e1]
      cases hdst : o.dst with
      | none => exact hl2.symm
      | some d =>
        simp only [putT]
        rw [List.getElem?_set_ne (fun he => hd (by rw [hdst, he]))]
        exact hl2.symm
  · have hl : (svL ops vl T0 (fun i => if i = j then true else D i))[s]? = none := List.getElem?_eq_none (by rw [svL_length]; exact hs)
    rw [hl]
    cases o.dst with
    | none => exact (List.getElem?_eq_none (by simp only [putT]; rw [svL_length]; exact hs)).symm
    | some d => exact (List.getElem?_eq_none (by simp only [putT, List.length_set]; rw [svL_length]; exact hs)).symm
theorem opv_slots {T T' : List Value} (hl : T.length = T'.length) {o : Oper} (h : ∀ s ∈ o.looksAt ops, s < T.length → T.getD s undef = T'.getD s undef) : (∀ x ∈ o.op.operands, opv T x = opv T' x) ∧ ∀ g want, o.guard = some (g, want) → yieldV ops T g = yieldV ops T' g := by
  have one : ∀ s ∈ o.looksAt ops, T.getD s undef = T'.getD s undef := by
    intro s hs
    rcases Nat.lt_or_ge s T.length with h1 | h1
    · exact h s hs h1
    · rw [List.getD_eq_getElem?_getD, List.getD_eq_getElem?_getD, List.getElem?_eq_none h1, List.getElem?_eq_none (by omega)]
  refine ⟨fun x hx => ?_, fun g want hg => ?_⟩
  · cases x with
    | tmp s => exact one s (List.mem_append_left _ (List.mem_filterMap.2 ⟨.tmp s, by simpa using hx, rfl⟩))
    | _ => rfl
  · unfold yieldV
    cases hd : (ops[g]?).bind (·.dst) with
    | none => rfl
    | some s => exact one s (by simp [Oper.looksAt, hg, hd])
end
end Go.AM
set_option linter.unusedVariables false
set_option linter.unusedSimpArgs false
namespace Go.AM
open Go.RowKit

section
variable {P : Program} {call : CallF} {ops : Array Oper} {tT : Nat → List Value} {tH : Nat → AH} {sk : Nat → Bool} {vl : Nat → Value}

theorem read_sound {B0 : Nat} {w0 : World} {m : Mp} {X : AH} {w : World} (R0 : Rel P B0 w0 m X w) {T : List Value} {a : Act} (hT : LRel m T a.tmps.toList) {o : Oper} {f : AH → Option Value} (hf : opRead P (opv T) o.op = some f) {v : Value} (h : f X = some v) :
    ∃ v', (execOp a.eval o).run P w = .ok (.value v') w ∧ VRel m v v' := by
  obtain ⟨dst, op, ty, ps, af, g⟩ := o
  unfold opRead at hf
  split at hf
  · rename_i t x hop
    simp only at hop
    subst hop
    cases hf
    obtain ⟨v', q1, q2⟩ := ld_sound R0 (opv_rel hT x) h
    exact ⟨v', by simp [execOp, q1], q2⟩
  · rename_i s d x hop
    simp only at hop
    subst hop
    cases hb : isBytesToString P s d with
    | true =>
      rw [hb] at hf
      cases hf
      obtain ⟨v', q1, q2⟩ := cvS_sound R0 (opv_rel hT x) h
      exact ⟨v', by simp [execOp, q1], q2⟩
    | false => rw [hb] at hf; cases hf
  · rename_i t mm k two hop
    simp only at hop
    subst hop
    cases hf
    obtain ⟨v', q1, q2⟩ := lkU_sound R0 (opv_rel hT mm) (opv_rel hT k) h
    exact ⟨v', by simp [execOp, q1], q2⟩
  · rename_i args ts hop
    simp only at hop
    subst hop
    split at hf
    · rename_i t x ht ha
      have e1 : ts = #[t] := by apply Array.ext'; simpa using ht
      have e2 : args = #[x] := by apply Array.ext'; simpa using ha
      subst e1 e2
      cases hb : isMapT P t with
      | true =>
        rw [hb] at hf
        cases hf
        obtain ⟨q1, q2⟩ := lenM_sound (P := P) (ty := ty) R0 (opv_rel hT x) h
        exact ⟨v, by simp [execOp, resolve, invoke, builtin, q1], .flat _ q2⟩
      | false => rw [hb] at hf; cases hf
    · cases hf
  · cases hf
theorem nextE (s : Nat) : ∀ d, s + d = ops.size → ∃ q, s ≤ q ∧ q ≤ ops.size ∧ (∀ e, s ≤ e → e < q → eE ops sk e = false) ∧ (q < ops.size → eE ops sk q = true)
  | 0, h => ⟨s, Nat.le_refl _, by omega, fun e h1 h2 => by omega, fun h1 => by omega⟩
  | d + 1, h => by
    cases he : eE ops sk s with
    | true => exact ⟨s, Nat.le_refl _, by omega, fun e h1 h2 => by omega, fun _ => he⟩
    | false =>
      obtain ⟨q, h1, h2, h3, h4⟩ := nextE (s + 1) d (by omega)
      exact ⟨q, by omega, h2, fun e h5 h6 => by
        by_cases hes : e = s
        · subst hes; exact he
        · exact h3 e (by omega) h6, h4⟩
theorem eE_inv {j : Nat} (h : eE ops sk j = true) : ∃ o, ops[j]? = some o ∧ isEff o.op = true ∧ sk j = false := by
  unfold eE at h
  rw [Bool.and_eq_true] at h
  cases ho : ops[j]? with
  | none => rw [ho] at h; cases h.1
  | some o => rw [ho] at h; exact ⟨o, rfl, by simpa using h.1, by simpa using h.2⟩
theorem crossing (f : Nat → Nat) (i : Nat) (b : Nat) (h0 : f i ≤ b) : ∀ d, b < f (i + d) → ∃ j, i ≤ j ∧ j < i + d ∧ f j ≤ b ∧ b < f (j + 1)
  | 0, h => by simp at h; omega
  | d + 1, h => by
    rcases Nat.lt_or_ge b (f (i + d)) with h1 | h1
    · obtain ⟨j, h2, h3, h4⟩ := crossing f i b h0 d h1
      exact ⟨j, h2, by omega, h4⟩
    · exact ⟨i + d, by omega, by omega, h1, h⟩

structure Inv (P : Program) (ops : Array Oper) (tT : Nat → List Value) (tH : Nat → AH) (sk : Nat → Bool) (vl : Nat → Value) (B0 : Nat) (w0 : World) (m0 : Mp) (wI : World) (ds : List Deferred) (listed : Array Bool) (q : Nat) (m : Mp) (a : Act) (w : World) : Prop where
  lsize : listed.size = ops.size
  down : Down ops (fun i => listed.getD i false = true)
  hq : q ≤ ops.size
  hq1 : q < ops.size → eE ops sk q = true ∧ listed.getD q false = false
  hq2 : ∀ e, e < q → eE ops sk e = true → listed.getD e false = true
  slots : LRel m (svL ops vl (tT 0) (fun i => listed.getD i false)) a.tmps.toList
  defers : a.defers = ds
  vr : VR P B0 w0 tH ops.size q m w
  dm : ∀ b L, m b = some L → b < (tH 0).length ∨ ∃ i, i < ops.size ∧ listed.getD i false = true ∧ (tH i).length ≤ b ∧ b < (tH (i + 1)).length
  mono0 : ∀ b L, m0 b = some L → m b = some L
  size : wI.heap.size ≤ w.heap.size
  new : ∀ b L, m b = some L → m0 b = some L ∨ ((tH 0).length ≤ b ∧ (wI.heap.size ≤ L.blk ∨ ∃ b0 L0 k0, m0 b0 = some L0 ∧ blk (tH 0) b0 = some k0 ∧ k0.kind ≠ .ro ∧ L0.blk = L.blk))
  frame : ∀ B, B < wI.heap.size → (∀ b L k, m0 b = some L → blk (tH 0) b = some k → k.kind ≠ .ro → L.blk ≠ B) → w.heap[B]? = wI.heap[B]?

/-- The lengths and kinds along the text's own order. -/
structure Along (ops : Array Oper) (tT : Nat → List Value) (tH : Nat → AH) (m0 : Mp) : Prop where
  lens : ∀ i d, i + d ≤ ops.size → (tH i).length ≤ (tH (i + d)).length
  alive : ∀ d, d ≤ ops.size → ∀ b k', b < (tH 0).length → blk (tH d) b = some k' → ∃ k, blk (tH 0) b = some k ∧ k.kind = k'.kind
  bel : ∀ (j s : Nat) (x : Value), j ≤ ops.size → (tT j)[s]? = some x → Bel (tH j).length x
  dom0 : ∀ b L, m0 b = some L → b < (tH 0).length
theorem Along.le {m0 : Mp} (A : Along ops tT tH m0) {i j : Nat} (h : i ≤ j) (hj : j ≤ ops.size) : (tH i).length ≤ (tH j).length := by
  have := A.lens i (j - i) (by omega)
  rwa [show i + (j - i) = j by omega] at this
theorem getD_set {listed : Array Bool} {j : Nat} (hj : j < listed.size) (i : Nat) : (listed.setIfInBounds j true).getD i false = if i = j then true else listed.getD i false := by
  by_cases h : i = j
  · subst h
    rw [if_pos rfl]
    simp [Array.getD, hj]
  · rw [if_neg h]
    exact getD_set_ne false (Ne.symm h)
section
variable {B0 : Nat} {w0 : World} {m0 : Mp} {wI : World} {ds : List Deferred} {listed : Array Bool} {q : Nat} {m : Mp} {a : Act} {w : World}
theorem Inv.rdy (I : Inv P ops tT tH sk vl B0 w0 m0 wI ds listed q m a w) {j : Nat} (hr : j ∈ Region.ready .any ops listed) : ∃ o, Ready ops (fun i => listed.getD i false) j o := by
  unfold Region.ready at hr
  rw [List.mem_filter] at hr
  obtain ⟨h1, h2⟩ := hr
  have hj : j < ops.size := List.mem_range.1 h1
  have ho : ops[j]? = some ops[j] := Array.getElem?_eq_getElem hj
  rw [Bool.and_eq_true, ho] at h2
  simp only [Option.map_some, Option.getD_some] at h2
  refine ⟨ops[j], ho, I.down, fun e he hb => ?_, ?_⟩
  · have := Array.all_eq_true'.1 h2.2 e he
    simpa [hb] using this
  · have hlt : j < listed.size := by rw [I.lsize]; exact hj
    have := h2.1
    simp [Array.getD, hlt] at this ⊢
    exact this
theorem Inv.down' (I : Inv P ops tT tH sk vl B0 w0 m0 wI ds listed q m a w) {j : Nat} {o : Oper} (hr : Ready ops (fun i => listed.getD i false) j o) : Down ops (fun i => (listed.setIfInBounds j true).getD i false = true) := by
  have hlt : j < listed.size := by rw [I.lsize]; exact (Array.getElem?_eq_some_iff.1 hr.op).1
  intro i oi hi hD e he hb
  simp only [getD_set hlt] at hD ⊢
  by_cases hij : i = j
  · subst hij
    rw [hr.op] at hi
    cases hi
    have := hr.edges e he hb
    split
    · rfl
    · exact this
  · rw [if_neg hij] at hD
    have := I.down i oi hi hD e he hb
    split
    · rfl
    · exact this
/-- An operation that doesn't act is done: slots and marks. -/
theorem Inv.mark (hreg : regOK ops = true) (I : Inv P ops tT tH sk vl B0 w0 m0 wI ds listed q m a w) {j : Nat} {o : Oper} (hr : Ready ops (fun i => listed.getD i false) j o) (hne : eE ops sk j = false) {m2 : Mp} {w2 : World} {v' : Value}
    (hmono : ∀ b L, m b = some L → m2 b = some L) (hv : VRel m2 (vl j) v') (hvr : VR P B0 w0 tH ops.size q m2 w2) (hdm : ∀ b L, m2 b = some L → m b = some L ∨ ((tH j).length ≤ b ∧ b < (tH (j + 1)).length ∧ w.heap.size ≤ L.blk)) (h0 : (tH 0).length ≤ (tH j).length)
    (hs : w.heap.size ≤ w2.heap.size) (hw : ∀ B, B < w.heap.size → w2.heap[B]? = w.heap[B]?) :
    Inv P ops tT tH sk vl B0 w0 m0 wI ds (listed.setIfInBounds j true) q m2 (a.put o.dst v') w2 := by
  have hj : j < ops.size := (Array.getElem?_eq_some_iff.1 hr.op).1
  have hlt : j < listed.size := by rw [I.lsize]; exact hj
  refine ⟨by simp [I.lsize], I.down' hr, I.hq, fun h => ?_, fun e he hE => ?_, ?_, by rw [AM.put_defers]; exact I.defers, hvr, fun b L hb => ?_, fun b L hb => hmono b L (I.mono0 b L hb), Nat.le_trans I.size hs, fun b L hb => ?_, fun B hB hr' => ?_⟩
  · obtain ⟨h1, h2⟩ := I.hq1 h
    refine ⟨h1, ?_⟩
    rw [getD_set hlt, if_neg]
    · exact h2
    · intro he
      subst he
      rw [h1] at hne
      cases hne
  · rw [getD_set hlt]
    split
    · rfl
    · exact I.hq2 e he hE
  · have e1 : (fun i => (listed.setIfInBounds j true).getD i false) = fun i => if i = j then true else listed.getD i false := by funext i; exact getD_set hlt i
    rw [e1, hr.put hreg]
    exact put_rel (I.slots.mono hmono) _ hv
  · rcases hdm b L hb with h1 | ⟨h1, h2, h3⟩
    · rcases I.dm b L h1 with h4 | ⟨i, h4, h5, h6⟩
      · exact .inl h4
      · refine .inr ⟨i, h4, ?_, h6⟩
        rw [getD_set hlt]
        split
        · rfl
        · exact h5
    · exact .inr ⟨j, hj, by rw [getD_set hlt, if_pos rfl], h1, h2⟩
  · rcases hdm b L hb with h1 | ⟨h1, h2, h3⟩
    · exact I.new b L h1
    · exact .inr ⟨by omega, .inl (Nat.le_trans I.size h3)⟩
  · rw [hw B (Nat.lt_of_lt_of_le hB I.size)]
    exact I.frame B hB hr'
/-- A read tells the same now. -/
theorem Inv.readNow (X : Tr P call ops (befL [] ops.toList) 0 tT tH sk vl) (A : Along ops tT tH m0) (I : Inv P ops tT tH sk vl B0 w0 m0 wI ds listed q m a w) {j : Nat} {o : Oper} (hr : Ready ops (fun i => listed.getD i false) j o) (hs : sk j = false) {f : AH → Option Value}
    (hf : opRead P (opv (tT j)) o.op = some f) : f (tH q) = some (vl j) := by
  have hj : j < ops.size := (Array.getElem?_eq_some_iff.1 hr.op).1
  have hnj : eE ops sk j = false := by simp [eE, hr.op, read_not_eff hf]
  rcases Nat.lt_or_ge j q with hlt | hge
  · have key : ∀ d, j + 1 + d ≤ q → f (tH (j + 1 + d)) = some (vl j) := by
      intro d
      induction d with
      | zero =>
        intro _
        obtain ⟨h1, h2⟩ := X.read j o f (Nat.zero_le _) hr.op hs hf
        rw [Nat.add_zero, h2]
        exact h1
      | succ d ih =>
        intro hd
        have hprev := ih (by omega)
        have hq := I.hq
        cases hE : eE ops sk (j + 1 + d) with
        | true =>
          obtain ⟨oe, he1, he2, he3⟩ := eE_inv hE
          have hl := I.hq2 (j + 1 + d) (by omega) hE
          have hord : ordB (befL [] ops.toList) j (j + 1 + d) = false := by
            cases hc : ordB (befL [] ops.toList) j (j + 1 + d) with
            | false => rfl
            | true => have := hr.behind he1 hc; rw [hl] at this; cases this
          exact X.futR j o f (j + 1 + d) oe (Nat.zero_le _) (by omega) hr.op he1 hs he3 he2 hf hord
        | false =>
          rcases X.noeff (j := j + 1 + d) (by omega) hE with h3 | ⟨k, h3⟩
          · rw [show j + 1 + (d + 1) = j + 1 + d + 1 by omega, h3]; exact hprev
          · rw [show j + 1 + (d + 1) = j + 1 + d + 1 by omega, h3]
            exact opRead_keep hf (fun b k' hk => by rw [blk_app_old _ (blk_lt' hk)]; exact hk) hprev
    have := key (q - (j + 1)) (by omega)
    rwa [show j + 1 + (q - (j + 1)) = q by omega] at this
  · have hne : q ≠ j := by
      intro he
      subst he
      have := (I.hq1 hj).1
      rw [hnj] at this
      cases this
    obtain ⟨h1, h2⟩ := I.hq1 (by omega)
    obtain ⟨oe, he1, he2, he3⟩ := eE_inv h1
    refine X.pastR j o f q oe (Nat.zero_le _) (by omega) hr.op he1 hs he3 he2 hf ?_
    cases hc : ordB (befL [] ops.toList) q j with
    | false => rfl
    | true => have := hr.before hc; rw [h2] at this; cases this
/-- A block that is yet to be made stands as it will be made. -/
theorem Inv.makeNow (X : Tr P call ops (befL [] ops.toList) 0 tT tH sk vl) (A : Along ops tT tH m0) (I : Inv P ops tT tH sk vl B0 w0 m0 wI ds listed q m a w) {j : Nat} {o : Oper} (hr : Ready ops (fun i => listed.getD i false) j o) (hs : sk j = false)
    (hf : opRead P (opv (tT j)) o.op = none) (ha : isAlloc o.op = true) {k : Blk} (hk : tH (j + 1) = tH j ++ [some k]) : kb tH ops.size q (tH j).length = some k := by
  have hj : j < ops.size := (Array.getElem?_eq_some_iff.1 hr.op).1
  have hnew : blk (tH (j + 1)) (tH j).length = some k := by rw [hk]; unfold blk; simp
  have hlen : (tH (j + 1)).length = (tH j).length + 1 := by rw [hk]; simp
  have hnj : eE ops sk j = false := by simp [eE, hr.op, alloc_not_eff ha]
  rcases Nat.lt_or_ge j q with hlt | hge
  · have key : ∀ d, j + 1 + d ≤ q → blk (tH (j + 1 + d)) (tH j).length = some k := by
      intro d
      induction d with
      | zero => intro _; exact hnew
      | succ d ih =>
        intro hd
        have hprev := ih (by omega)
        have hq := I.hq
        cases hE : eE ops sk (j + 1 + d) with
        | true =>
          obtain ⟨oe, he1, he2, he3⟩ := eE_inv hE
          have hl := I.hq2 (j + 1 + d) (by omega) hE
          have hord : ordB (befL [] ops.toList) j (j + 1 + d) = false := by
            cases hc : ordB (befL [] ops.toList) j (j + 1 + d) with
            | false => rfl
            | true => have := hr.behind he1 hc; rw [hl] at this; cases this
          have := X.futA j o (j + 1 + d) oe (Nat.zero_le _) (by omega) hr.op he1 hs he3 he2 hf ha hord
          rw [show j + 1 + (d + 1) = j + 1 + d + 1 by omega, this]
          exact hnew
        | false =>
          rcases X.noeff (j := j + 1 + d) (by omega) hE with h3 | ⟨k', h3⟩
          · rw [show j + 1 + (d + 1) = j + 1 + d + 1 by omega, h3]; exact hprev
          · rw [show j + 1 + (d + 1) = j + 1 + d + 1 by omega, h3, blk_app_old _ (blk_lt' hprev)]
            exact hprev
    have := key (q - (j + 1)) (by omega)
    rw [show j + 1 + (q - (j + 1)) = q by omega] at this
    rw [kb_lt (blk_lt' this)]
    exact this
  · have hle := A.le hge (by omega)
    rw [kb_ge hle, ini_eq A.lens hj (Nat.le_refl _) (by omega)]
    exact hnew
end
end
end Go.AM
set_option linter.unusedVariables false
set_option linter.unusedSimpArgs false
namespace Go.AM
open Go.RowKit

section
variable {P : Program} {call : CallF} {ops : Array Oper} {tT : Nat → List Value} {tH : Nat → AH} {sk : Nat → Bool} {vl : Nat → Value} {B0 : Nat} {w0 : World} {m0 : Mp} {wI : World} {ds : List Deferred} {listed : Array Bool} {q : Nat} {m : Mp} {a : Act} {w : World}

theorem Tr.sv (X : Tr P call ops (befL [] ops.toList) 0 tT tH sk vl) {j : Nat} (hj : j ≤ ops.size) : (tT j).length = (tT 0).length ∧ ∀ s, s < (tT 0).length → (tT j).getD s undef = AM.sv ops vl (tT 0) (fun _ => true) j s :=
  tT_sv rfl (fun j o ho => X.step j o (Nat.zero_le _) ho) j hj
/-- What the operation looks at holds what it held in the text's own order. -/
theorem Inv.looks (hreg : regOK ops = true) (X : Tr P call ops (befL [] ops.toList) 0 tT tH sk vl) (I : Inv P ops tT tH sk vl B0 w0 m0 wI ds listed q m a w) {j : Nat} {o : Oper} (hr : Ready ops (fun i => listed.getD i false) j o) :
    ∀ s ∈ o.looksAt ops, s < (svL ops vl (tT 0) (fun i => listed.getD i false)).length → (svL ops vl (tT 0) (fun i => listed.getD i false)).getD s undef = (tT j).getD s undef := by
  intro s hs hlt
  rw [svL_length] at hlt
  rw [svL_getD _ hlt, hr.slots hreg hs, ((X.sv (Nat.le_of_lt (Array.getElem?_eq_some_iff.1 hr.op).1)).2 s hlt)]
theorem Inv.opv (hreg : regOK ops = true) (X : Tr P call ops (befL [] ops.toList) 0 tT tH sk vl) (I : Inv P ops tT tH sk vl B0 w0 m0 wI ds listed q m a w) {j : Nat} {o : Oper} (hr : Ready ops (fun i => listed.getD i false) j o) :
    (∀ x ∈ o.op.operands, AM.opv (svL ops vl (tT 0) (fun i => listed.getD i false)) x = AM.opv (tT j) x) ∧ ∀ g want, o.guard = some (g, want) → yieldV ops (svL ops vl (tT 0) (fun i => listed.getD i false)) g = yieldV ops (tT j) g := by
  have hj := Nat.le_of_lt (Array.getElem?_eq_some_iff.1 hr.op).1
  exact opv_slots (by rw [svL_length, (X.sv hj).1]) (I.looks hreg X hr)
theorem Inv.wanted (hreg : regOK ops = true) (X : Tr P call ops (befL [] ops.toList) 0 tT tH sk vl) (I : Inv P ops tT tH sk vl B0 w0 m0 wI ds listed q m a w) {j : Nat} {o : Oper} (hr : Ready ops (fun i => listed.getD i false) j o) :
    Region.wanted o (yielded ops a.tmps) = !sk j := by
  obtain ⟨_, hy⟩ := I.opv hreg X hr
  cases hs : sk j with
  | true =>
    obtain ⟨⟨g, want, hg, hu⟩, _⟩ := X.skip j o (Nat.zero_le _) hr.op hs
    rcases hu with ⟨b, hu, hb⟩ | ⟨vs, hu, _⟩
    · rw [wanted_of hg ((yield_rel I.slots g).1 b (by rw [hy g want hg]; exact hu))]
      simp [hb]
    · rw [wanted_of hg ((yield_rel I.slots g).2 vs (by rw [hy g want hg]; exact hu))]
      rfl
  | false =>
    rcases X.go j o (Nat.zero_le _) hr.op hs with hg | ⟨g, want, hg, hu⟩
    · unfold Region.wanted; rw [hg]; rfl
    · rw [wanted_of hg ((yield_rel I.slots g).1 want (by rw [hy g want hg]; exact hu))]
      simp
/-- What acts next is the one. -/
theorem Inv.isq (hreg : regOK ops = true) (I : Inv P ops tT tH sk vl B0 w0 m0 wI ds listed q m a w) {j : Nat} {o : Oper} (hr : Ready ops (fun i => listed.getD i false) j o) (hE : eE ops sk j = true) : j = q := by
  have hj : j < ops.size := (Array.getElem?_eq_some_iff.1 hr.op).1
  rcases Nat.lt_trichotomy j q with h | h | h
  · have := I.hq2 j h hE
    have h2 := hr.not
    rw [this] at h2
    cases h2
  · exact h
  · obtain ⟨h1, h2⟩ := I.hq1 (by omega)
    obtain ⟨oq, hq1, hq2, _⟩ := eE_inv h1
    obtain ⟨oj, hj1, hj2, _⟩ := eE_inv hE
    rcases regOK_pair hreg h hq1 hj1 with h3 | ⟨h3, _⟩
    · have := hr.before h3; rw [h2] at this; cases this
    · exact (h3 hq2 hj2).elim
/-- The slots that an operation looks at, under the lesser map. -/
theorem Inv.masked (hreg : regOK ops = true) (X : Tr P call ops (befL [] ops.toList) 0 tT tH sk vl) (A : Along ops tT tH m0) (I : Inv P ops tT tH sk vl B0 w0 m0 wI ds listed q m a w) {j : Nat} {o : Oper} (hr : Ready ops (fun i => listed.getD i false) j o) :
    ∃ T, LRel (cutM m (tH j).length) T a.tmps.toList ∧ ∀ x ∈ o.op.operands, AM.opv T x = AM.opv (tT j) x := by
  have hj : j ≤ ops.size := Nat.le_of_lt (Array.getElem?_eq_some_iff.1 hr.op).1
  refine ⟨(List.range (tT 0).length).map fun s => if s ∈ o.looksAt ops then (tT j).getD s undef else unk, ⟨?_, ?_⟩, ?_⟩
  · rw [List.length_map, List.length_range, ← I.slots.1, svL_length]
  · intro s x y hx hy
    rw [List.getElem?_map] at hx
    have hlt : s < (tT 0).length := by
      rcases Nat.lt_or_ge s (tT 0).length with h1 | h1
      · exact h1
      · rw [List.getElem?_eq_none (by simpa using h1)] at hx; cases hx
    rw [List.getElem?_range hlt, Option.map_some] at hx
    cases hx
    split
    · rename_i hs
      have h1 := I.looks hreg X hr s hs (by rw [svL_length]; exact hlt)
      have h2 : (svL ops vl (tT 0) (fun i => listed.getD i false))[s]? = some ((tT j).getD s undef) := by
        rw [← h1, List.getD_eq_getElem?_getD, List.getElem?_eq_getElem (by rw [svL_length]; exact hlt)]
        rfl
      have h3 := I.slots.2 s _ y h2 hy
      have h4 : (tT j)[s]? = some ((tT j).getD s undef) := by
        rw [List.getD_eq_getElem?_getD, List.getElem?_eq_getElem (by rw [(X.sv hj).1]; exact hlt)]
        rfl
      exact h3.cutB (A.bel j s _ hj h4)
    · exact .unk _
  · refine (opv_slots (ops := ops) (by rw [List.length_map, List.length_range, (X.sv hj).1]) fun s hs hlt => ?_).1
    rw [List.length_map, List.length_range] at hlt
    rw [List.getD_eq_getElem?_getD, List.getElem?_map, List.getElem?_range hlt, Option.map_some, Option.getD_some, if_pos hs]
theorem Inv.act (hreg : regOK ops = true) (X : Tr P call ops (befL [] ops.toList) 0 tT tH sk vl) (A : Along ops tT tH m0) (I : Inv P ops tT tH sk vl B0 w0 m0 wI ds listed q m a w) {o : Oper} (hr : Ready ops (fun i => listed.getD i false) q o) (hE : eE ops sk q = true)
    {m1 : Mp} {w1 : World} {v' : Value} (E : Ext (cutM m (tH q).length) (tH q) w m1 (tH (q + 1)) w1) (R1 : Rel P B0 w0 m1 (tH (q + 1)) w1) (hv : VRel m1 (vl q) v') :
    ∃ q' m2, Inv P ops tT tH sk vl B0 w0 m0 wI ds (listed.setIfInBounds q true) q' m2 (a.put o.dst v') w1 := by
  have hq : q < ops.size := (Array.getElem?_eq_some_iff.1 hr.op).1
  have hlt : q < listed.size := by rw [I.lsize]; exact hq
  obtain ⟨q', hq1, hq2, hq3, hq4⟩ := nextE (ops := ops) (sk := sk) (q + 1) (ops.size - (q + 1)) (by omega)
  have hlen := A.le (i := q) (j := q + 1) (by omega) (by omega)
  have hsame := X.same (q + 1) (q' - (q + 1)) (by omega) (fun e h1 h2 => hq3 e h1 (by omega))
  rw [show q + 1 + (q' - (q + 1)) = q' by omega] at hsame
  have hini : ∀ b, (tH (q + 1)).length ≤ b → b < (tH q').length → blk (tH q') b = ini tH ops.size b := by
    intro b h1 h2
    obtain ⟨j, h3, h4, h5, h6⟩ := crossing (fun i => (tH i).length) (q + 1) b h1 (q' - (q + 1)) (by rw [show q + 1 + (q' - (q + 1)) = q' by omega]; exact h2)
    rw [ini_eq A.lens (show j < ops.size by omega) h5 h6]
    have h7 := X.same (j + 1) (q' - (j + 1)) (by omega) (fun e h7 h8 => hq3 e (by omega) (by omega))
    rw [show j + 1 + (q' - (j + 1)) = q' by omega] at h7
    exact h7.2 b h6
  have hnew : ∀ b, (tH q).length ≤ b → b < (tH (q + 1)).length → m b = none := by
    intro b h1 h2
    cases hb : m b with
    | none => rfl
    | some L =>
      exfalso
      rcases I.dm b L hb with h3 | ⟨i, h3, h4, h5, h6⟩
      · have := A.le (i := 0) (j := q) (by omega) (by omega); omega
      · rcases Nat.lt_trichotomy i q with h7 | h7 | h7
        · have := A.le (i := i + 1) (j := q) (by omega) (by omega); omega
        · subst h7
          have := hr.not
          rw [h4] at this
          cases this
        · have := A.le (i := q + 1) (j := i) (by omega) (by omega); omega
  obtain ⟨V, hmono⟩ := I.vr.eff (by omega) hq2 hlen hsame hini (A.le hq2 (Nat.le_refl _)) R1 E hnew
  have hmono1 : ∀ b L, m1 b = some L → mrg m1 m (tH (q + 1)).length b = some L := by
    intro b L hb
    unfold mrg
    rw [if_pos (R1.dom b L hb).1]
    exact hb
  have split_ : ∀ b L, mrg m1 m (tH (q + 1)).length b = some L → m b = some L ∨ ((tH q).length ≤ b ∧ b < (tH (q + 1)).length ∧ (w.heap.size ≤ L.blk ∨ ∃ b0 L0 k0, m b0 = some L0 ∧ blk (tH q) b0 = some k0 ∧ b0 < (tH q).length ∧ k0.kind ≠ .ro ∧ L0.blk = L.blk)) := by
    intro b L hb
    unfold mrg at hb
    split at hb
    · rename_i h1
      rcases E.new b L hb with h2 | ⟨h2, h3 | ⟨b0, L0, k0, h3, h4, h5, h6⟩⟩
      · exact .inl (cutM_some h2).2
      · exact .inr ⟨h2, h1, .inl h3⟩
      · obtain ⟨h7, h8⟩ := cutM_some h3
        exact .inr ⟨h2, h1, .inr ⟨b0, L0, k0, h8, h4, h7, h5, h6⟩⟩
    · exact .inl hb
  -- an own block that there was
  have own0 : ∀ b L k, m b = some L → blk (tH q) b = some k → k.kind ≠ .ro → (wI.heap.size ≤ L.blk ∨ ∃ b0 L0 k0, m0 b0 = some L0 ∧ blk (tH 0) b0 = some k0 ∧ k0.kind ≠ .ro ∧ L0.blk = L.blk) := by
    intro b L k h1 h2 h3
    rcases I.new b L h1 with h4 | ⟨_, h4⟩
    · obtain ⟨k0, h5, h6⟩ := A.alive q (by omega) b k (A.dom0 b L h4) h2
      exact .inr ⟨b, L, k0, h4, h5, by rw [h6]; exact h3, rfl⟩
    · exact h4
  refine ⟨q', mrg m1 m (tH (q + 1)).length, ⟨by simp [I.lsize], I.down' hr, hq2, fun h => ⟨hq4 h, ?_⟩, fun e he hEe => ?_, ?_, by rw [AM.put_defers]; exact I.defers, V, fun b L hb => ?_, fun b L hb => hmono b L (I.mono0 b L hb), Nat.le_trans I.size E.size, fun b L hb => ?_, fun B hB hr' => ?_⟩⟩
  · rw [getD_set hlt, if_neg (by omega)]
    cases hc : listed.getD q' false with
    | false => rfl
    | true =>
      exfalso
      obtain ⟨oq', h1, h2, _⟩ := eE_inv (hq4 h)
      obtain ⟨oq, h3, h4, _⟩ := eE_inv hE
      rcases regOK_pair hreg (show q < q' by omega) h3 h1 with h5 | ⟨h5, _⟩
      · have := hr.behind h1 h5
        rw [hc] at this
        cases this
      · exact h5 h4 h2
  · rw [getD_set hlt]
    split
    · rfl
    · rename_i hne
      rcases Nat.lt_or_ge e q with h1 | h1
      · exact I.hq2 e h1 hEe
      · have := hq3 e (by omega) he
        rw [hEe] at this
        cases this
  · have e1 : (fun i => (listed.setIfInBounds q true).getD i false) = fun i => if i = q then true else listed.getD i false := by funext i; exact getD_set hlt i
    rw [e1, hr.put hreg]
    exact put_rel (I.slots.mono hmono) _ (hv.mono hmono1)
  · rcases split_ b L hb with h1 | ⟨h1, h2, _⟩
    · rcases I.dm b L h1 with h4 | ⟨i, h4, h5, h6⟩
      · exact .inl h4
      · refine .inr ⟨i, h4, ?_, h6⟩
        rw [getD_set hlt]
        split
        · rfl
        · exact h5
    · exact .inr ⟨q, hq, by rw [getD_set hlt, if_pos rfl], h1, h2⟩
  · rcases split_ b L hb with h1 | ⟨h1, h2, h3⟩
    · exact I.new b L h1
    · have := A.le (i := 0) (j := q) (by omega) (by omega)
      refine .inr ⟨by omega, ?_⟩
      rcases h3 with h3 | ⟨b0, L0, k0, h3, h4, _, h5, h6⟩
      · exact .inl (Nat.le_trans I.size h3)
      · have := own0 b0 L0 k0 h3 h4 h5
        rw [h6] at this
        exact this
  · rw [E.frame B (Nat.lt_of_lt_of_le hB I.size), I.frame B hB hr']
    intro b L k hb hk hne
    obtain ⟨h1, h2⟩ := cutM_some hb
    rcases own0 b L k h2 hk hne with h3 | ⟨b0, L0, k0, h3, h4, h5, h6⟩
    · omega
    · rw [← h6]; exact hr' b0 L0 k0 h3 h4 h5
def left (ops : Array Oper) (listed : Array Bool) : List Nat := (List.range ops.size).filter fun i => !listed.getD i false
theorem filter_less {f g : Nat → Bool} : ∀ (l : List Nat) (j : Nat), j ∈ l → f j = true → g j = false → (∀ i, g i = true → f i = true) → (l.filter g).length < (l.filter f).length
  | [], j, hj, _, _, _ => by cases hj
  | i :: l, j, hj, hf, hg, hgf => by
    have hle : (l.filter g).length ≤ (l.filter f).length := by
      clear hj
      induction l with
      | nil => simp
      | cons i l ih =>
        simp only [List.filter_cons]
        cases hgi : g i with
        | true => rw [hgf i hgi]; simp; exact ih
        | false => cases f i <;> simp <;> omega
    by_cases hij : i = j
    · subst hij
      simp only [List.filter_cons, hf, hg, if_true]
      simp
      omega
    · have hjl : j ∈ l := by cases hj with | head => exact (hij rfl).elim | tail _ h => exact h
      have := filter_less l j hjl hf hg hgf
      simp only [List.filter_cons]
      cases hgi : g i with
      | true => rw [hgf i hgi]; simp; exact this
      | false => cases f i <;> simp <;> omega
theorem Inv.any (hcall : CallOK P call) (hreg : regOK ops = true) (X : Tr P call ops (befL [] ops.toList) 0 tT tH sk vl) (A : Along ops tT tH m0) {Q : Exit → Act → World → Prop}
    (hq : ∀ (m' : Mp) (a' : Act) (w' : World), After P B0 w0 m0 (tH 0) wI ds (tT ops.size) (tH ops.size) m' a' w' → Q .normal a' w') :
    ∀ (fuel : Nat) (listed : Array Bool) (q : Nat) (m : Mp) (a : Act) (w : World), Inv P ops tT tH sk vl B0 w0 m0 wI ds listed q m a w → (left ops listed).length ≤ fuel → wpAny P .any ops Q fuel listed a w := by
  -- when nothing is ready, all is done
  have fin : ∀ (listed : Array Bool) (q : Nat) (m : Mp) (a : Act) (w : World), Inv P ops tT tH sk vl B0 w0 m0 wI ds listed q m a w → (∀ j, j < ops.size → listed.getD j false = true) → Q .normal a w := by
    intro listed q m a w I hall
    have hqn : q = ops.size := by
      rcases Nat.lt_or_ge q ops.size with h | h
      · have := (I.hq1 h).2
        rw [hall q h] at this
        cases this
      · have := I.hq; omega
    subst hqn
    have hN : ∀ b L, m b = some L → cutM m (tH ops.size).length b = some L := fun b L hb => cutM_of (I.vr.dom b L hb).1 hb
    have hT : svL ops vl (tT 0) (fun i => listed.getD i false) = tT ops.size := by
      obtain ⟨h1, h2⟩ := X.sv (Nat.le_refl ops.size)
      apply List.ext_getElem?
      intro s
      rcases Nat.lt_or_ge s (tT 0).length with hs | hs
      · have e1 : (svL ops vl (tT 0) (fun i => listed.getD i false))[s]? = some (AM.sv ops vl (tT 0) (fun i => listed.getD i false) ops.size s) := by
          unfold svL; rw [List.getElem?_map, List.getElem?_range hs]; rfl
        rw [e1, AM.sv_congr (D' := fun _ => true) _ (fun j hj _ => hall j hj), ← h2 s hs, List.getD_eq_getElem?_getD, List.getElem?_eq_getElem (by omega)]
        rfl
      · rw [List.getElem?_eq_none (by rw [svL_length]; exact hs), List.getElem?_eq_none (by omega)]
    refine hq (cutM m (tH ops.size).length) a w ⟨⟨fun b L hb => hN b L (I.mono0 b L hb), A.le (Nat.zero_le _) (Nat.le_refl _), I.size, fun b k' hb hk => A.alive ops.size (Nat.le_refl _) b k' hb hk, fun b L hb => I.new b L (cutM_some hb).2, I.frame⟩, I.vr.rel, ?_, I.defers⟩
    rw [← hT]
    exact I.slots.mono hN
  have ready_nil : ∀ (listed : Array Bool), Region.ready .any ops listed = [] → listed.size = ops.size → ∀ j, j < ops.size → listed.getD j false = true := by
    intro listed hnil hsz j
    induction j using Nat.strongRecOn with
    | _ j ih =>
      intro hj
      cases hl : listed.getD j false with
      | true => rfl
      | false =>
        exfalso
        have ho : ops[j]? = some ops[j] := Array.getElem?_eq_getElem hj
        have hmem : j ∈ Region.ready .any ops listed := by
          unfold Region.ready
          rw [List.mem_filter]
          refine ⟨List.mem_range.2 hj, ?_⟩
          rw [Bool.and_eq_true, ho]
          have hlt : j < listed.size := by omega
          refine ⟨by simp [Array.getD, hlt] at hl ⊢; exact hl, ?_⟩
          simp only [Option.map_some, Option.getD_some]
          refine Array.all_eq_true'.2 fun e he => ?_
          cases hb : Region.binds .any e with
          | false => rfl
          | true =>
            have hlte := regOK_edge hreg ho he hb
            simp [ih e.on hlte (by omega)]
        rw [hnil] at hmem
        cases hmem
  intro fuel
  induction fuel with
  | zero =>
    intro listed q m a w I hf
    have hall : ∀ j, j < ops.size → listed.getD j false = true := by
      intro j hj
      cases hl : listed.getD j false with
      | true => rfl
      | false =>
        exfalso
        have : j ∈ left ops listed := List.mem_filter.2 ⟨List.mem_range.2 hj, by simp [hl]⟩
        have hnil : left ops listed = [] := List.eq_nil_of_length_eq_zero (by omega)
        rw [hnil] at this
        cases this
    refine ⟨?_, fin listed q m a w I hall⟩
    cases hr : Region.ready .any ops listed with
    | nil => rfl
    | cons j rest =>
      exfalso
      obtain ⟨o, hrd⟩ := I.rdy (j := j) (by rw [hr]; simp)
      have := hrd.not
      rw [hall j (Array.getElem?_eq_some_iff.1 hrd.op).1] at this
      cases this
  | succ fuel ih =>
    intro listed q m a w I hf
    refine ⟨fun hnil => fin listed q m a w I (ready_nil listed hnil I.lsize), fun j hjr => ?_⟩
    obtain ⟨o, hr⟩ := I.rdy hjr
    have hj : j < ops.size := (Array.getElem?_eq_some_iff.1 hr.op).1
    have hlt : j < listed.size := by rw [I.lsize]; exact hj
    have hfuel : (left ops (listed.setIfInBounds j true)).length ≤ fuel := by
      have : (left ops (listed.setIfInBounds j true)).length < (left ops listed).length := by
        refine filter_less _ j (List.mem_range.2 hj) (by have := hr.not; simpa using this) (by rw [getD_set hlt]; simp) fun i hi => ?_
        rw [getD_set hlt] at hi
        split at hi
        · cases hi
        · exact hi
      omega
    have h0 : (tH 0).length ≤ (tH j).length := A.le (Nat.zero_le _) (by omega)
    unfold wpOp
    rw [hr.op]
    simp only
    rw [I.wanted hreg X hr]
    cases hs : sk j with
    | true =>
      simp only [Bool.not_true, Bool.false_eq_true, if_false]
      obtain ⟨_, h2, _⟩ := X.skip j o (Nat.zero_le _) hr.op hs
      refine ih _ q m _ w (I.mark hreg hr (by simp [eE, hs]) (fun _ _ h => h) (by rw [h2]; exact VRel.undef _) I.vr (fun b L h => .inl h) h0 (Nat.le_refl _) fun _ _ => rfl) hfuel
    | false =>
      simp only [Bool.not_false, if_true]
      refine .inl ?_
      obtain ⟨hop, _⟩ := I.opv hreg X hr
      cases hE : eE ops sk j with
      | true =>
        have hjq := I.isq hreg hr hE
        subst hjq
        obtain ⟨T, hT, hTo⟩ := I.masked hreg X A hr
        have hres := X.res hr.op hs
        rw [← aRes_congr o.op hTo] at hres
        refine res_sound hcall hres I.vr.rel hT _ _ fun m1 v' w1 E R1 hv => ?_
        obtain ⟨q', m2, I2⟩ := I.act hreg X A hr hE E R1 hv
        exact ih _ q' m2 _ w1 I2 hfuel
      | false =>
        have heff : isEff o.op = false := by simpa [eE, hr.op, hs] using hE
        cases hf' : opRead P (AM.opv (tT j)) o.op with
        | some f =>
          have hnow := I.readNow X A hr hs hf'
          have hpad : f (padH tH ops.size q) = some (vl j) := opRead_keep hf' (fun b k hk => by
            unfold padH blk
            rw [List.getElem?_append_left (blk_lt' hk)]
            exact hk) hnow
          rw [← opRead_congr o.op hop] at hf'
          obtain ⟨v', q1, q2⟩ := read_sound (I.vr.pad (A.le I.hq (Nat.le_refl _))) I.slots hf' hpad
          unfold Oper.wp
          rw [q1]
          exact ih _ q m _ w (I.mark hreg hr hE (fun _ _ h => h) q2 I.vr (fun b L h => .inl h) h0 (Nat.le_refl _) fun _ _ => rfl) hfuel
        | none =>
          have hres := X.other j o (Nat.zero_le _) hr.op hs hf'
          cases ha : isAlloc o.op with
          | false =>
            obtain ⟨_, hpure⟩ := pure_res heff hf' ha hres
            have hp2 := hpure (List.replicate (tH ops.size).length none)
            rw [← aRes_congr o.op hop] at hp2
            have hN : ∀ b L, m b = some L → cutM m (tH ops.size).length b = some L := fun b L hb => cutM_of (I.vr.dom b L hb).1 hb
            refine res_sound hcall hp2 (I.vr.dead _) (I.slots.mono hN) _ _ fun m1 v' w1 E R1 hv => ?_
            have hback : ∀ b L, m1 b = some L → m b = some L := by
              intro b L hb
              rcases E.new b L hb with h1 | ⟨h1, _⟩
              · exact (cutM_some h1).2
              · have := (R1.dom b L hb).1; omega
            have hw : ∀ B, B < w.heap.size → w1.heap[B]? = w.heap[B]? := fun B hB => E.frame B hB fun b L k _ hk => by rw [blk_dead] at hk; cases hk
            exact ih _ q m _ w1 (I.mark hreg hr hE (fun _ _ h => h) (hv.mono hback) (I.vr.still R1.below E.size hw) (fun b L h => .inl h) h0 E.size hw) hfuel
          | true =>
            obtain ⟨k, hk1, hk2, hall⟩ := alloc_res ha hres
            have hp2 := hall (List.replicate (tH j).length none) (by simp)
            have hkb := I.makeNow X A hr hs hf' ha hk2
            have hlen : (tH (j + 1)).length = (tH j).length + 1 := by rw [hk2]; simp
            have hnone : m (tH j).length = none := by
              cases hb : m (tH j).length with
              | none => rfl
              | some L =>
                exfalso
                rcases I.dm _ L hb with h3 | ⟨i, h3, h4, h5, h6⟩
                · omega
                · rcases Nat.lt_trichotomy i j with h7 | h7 | h7
                  · have := A.le (i := i + 1) (j := j) (by omega) (by omega); omega
                  · subst h7
                    have := hr.not
                    rw [h4] at this
                    cases this
                  · have := A.le (i := j + 1) (j := i) (by omega) (by omega); omega
            obtain ⟨T, hT, hTo⟩ := I.masked hreg X A hr
            rw [← aRes_congr o.op hTo] at hp2
            refine res_sound hcall hp2 (I.vr.dead _) hT _ _ fun m1 v' w1 E R1 hv => ?_
            have hmap : ∃ L, m1 (tH j).length = some L := by
              rcases hk1 with h1 | ⟨n, c, h1⟩ | h1
              · rw [h1] at hv; obtain ⟨L, h2, _⟩ := VRel.ptr_inv hv; exact ⟨L, h2⟩
              · rw [h1] at hv; obtain ⟨L, _, _, h2, _⟩ := VRel.slice_inv hv; exact ⟨L, h2⟩
              · rw [h1] at hv; obtain ⟨L, h2, _⟩ := VRel.map_inv hv; exact ⟨L, h2⟩
            obtain ⟨L, hL⟩ := hmap
            have hup : ∀ b L', m1 b = some L' → upd m (tH j).length L b = some L' ∧ b < (tH j).length + 1 := by
              intro b L' hb
              have h2 := (R1.dom b L' hb).1
              rw [List.length_append, List.length_replicate, List.length_singleton] at h2
              refine ⟨?_, h2⟩
              unfold upd
              by_cases hbl : b = (tH j).length
              · subst hbl; rw [if_pos rfl, ← hL]; exact hb
              · rw [if_neg hbl]
                rcases E.new b L' hb with h1 | ⟨h1, _⟩
                · exact (cutM_some h1).2
                · rw [List.length_replicate] at h1; omega
            have hblk : blk (List.replicate (tH j).length none ++ [some k]) (tH j).length = some k := by
              unfold blk
              rw [List.getElem?_append_right (by simp)]
              simp
            have hfresh : w.heap.size ≤ L.blk := by
              rcases E.new _ L hL with h1 | ⟨_, h1 | ⟨b0, L0, k0, _, h1, _⟩⟩
              · have := (cutM_some h1).1; omega
              · exact h1
              · rw [blk_dead] at h1; cases h1
            have hw : ∀ B, B < w.heap.size → w1.heap[B]? = w.heap[B]? := fun B hB => E.frame B hB fun b L k _ hk => by rw [blk_dead] at hk; cases hk
            have hmono : ∀ b L', m b = some L' → upd m (tH j).length L b = some L' := by
              intro b L' hb
              unfold upd
              rw [if_neg]
              · exact hb
              · intro he; rw [he, hnone] at hb; cases hb
            have hV := I.vr.alloc R1.below E.size hw (l := (tH j).length) (L := L) (k := k) (by have := A.le (i := j + 1) (j := ops.size) (by omega) (Nat.le_refl _); omega) hnone hkb hfresh (R1.dom _ L hL).2
              ((R1.blks _ L k hL hblk).mono fun b L' hb => cutM_of (hup b L' hb).2 (hup b L' hb).1)
            refine ih _ q _ _ w1 (I.mark hreg hr hE hmono (hv.mono fun b L' hb => (hup b L' hb).1) hV (fun b L' hb => ?_) h0 E.size hw) hfuel
            unfold upd at hb
            split at hb
            · rename_i he
              cases hb
              exact .inr ⟨by omega, by omega, hfresh⟩
            · exact .inl hb
theorem getD_replicate (n i : Nat) : (Array.replicate n false).getD i false = false := by
  unfold Array.getD
  split
  · simp
  · rfl
theorem draw_ok {P : Program} {call : CallF} (hcall : CallOK P call) : DrawOK P call := by
  intro ops hreg R T H K r h
  obtain ⟨tT, tH, sk, vl, h0, h1, X, _, hK⟩ := evD_inv ops (befL [] ops.toList) ops.toList 0 T H [] [] (fun j => by simp) h
  simp only [Array.length_toList, Nat.zero_add] at hK
  subst h0 h1
  refine ⟨_, _, hK, fun B0 w0 m a w ds Q R0 hT hd hq => ?_⟩
  have A : Along ops tT tH m := ⟨fun i d hd => (X.lens hcall R0 hT i d hd).1, fun d hd b k' hb hk => by
      have := (X.lens hcall R0 hT 0 d (by omega)).2 b k' hb (by rw [Nat.zero_add]; exact hk)
      exact this, fun j s x hj hx => X.bel hcall R0 hT hj s x hx, fun b L hb => (R0.dom b L hb).1⟩
  obtain ⟨q, _, hq1, hq2, hq3⟩ := nextE (ops := ops) (sk := sk) 0 ops.size (by omega)
  have hsame := X.same 0 q (by omega) (fun e h1 h2 => hq2 e h1 (by omega))
  rw [Nat.zero_add] at hsame
  have hle := A.le hq1 (Nat.le_refl _)
  refine Inv.any hcall hreg X A hq ops.size _ q m a w ⟨by simp, fun j o ho hD => (by have hD' : (Array.replicate ops.size false).getD j false = true := hD; rw [getD_replicate] at hD'; cases hD'), hq1, fun hlt => ⟨hq3 hlt, getD_replicate _ _⟩, fun e he hE => ?_, ?_, hd, ?_, fun b L hb => .inl (R0.dom b L hb).1, fun _ _ h => h, Nat.le_refl _, fun b L hb => .inl hb, fun _ _ _ => rfl⟩ ?_
  · have := hq2 e (Nat.zero_le _) he
    rw [hE] at this
    cases this
  · have e1 : svL ops vl (tT 0) (fun i => (Array.replicate ops.size false).getD i false) = tT 0 := by
      apply List.ext_getElem?
      intro s
      rcases Nat.lt_or_ge s (tT 0).length with hs | hs
      · have e2 : (svL ops vl (tT 0) (fun i => (Array.replicate ops.size false).getD i false))[s]? = some (AM.sv ops vl (tT 0) (fun i => (Array.replicate ops.size false).getD i false) ops.size s) := by
          unfold svL; rw [List.getElem?_map, List.getElem?_range hs]; rfl
        have e3 := sv_cut (ops := ops) (vl := vl) (T0 := tT 0) (D := fun i => (Array.replicate ops.size false).getD i false) (s := s) (i := 0) ops.size fun j _ _ _ => getD_replicate _ _
        rw [Nat.zero_add] at e3
        rw [e2, e3]
        unfold AM.sv
        rw [List.getD_eq_getElem?_getD, List.getElem?_eq_getElem hs]
        rfl
      · rw [List.getElem?_eq_none (by rw [svL_length]; exact hs), List.getElem?_eq_none hs]
    rw [e1]
    exact hT
  · have kb0 : ∀ b, b < (tH 0).length → kb tH ops.size q b = blk (tH 0) b := fun b hb => by rw [kb_lt (by omega)]; exact hsame.2 b hb
    have hcut : ∀ l, (tH 0).length ≤ l → ∀ b L, m b = some L → cutM m l b = some L := fun l hl b L hb => cutM_of (by have := (R0.dom b L hb).1; omega) hb
    refine ⟨R0.below, R0.hB, fun b L hb => ⟨by have := (R0.dom b L hb).1; omega, (R0.dom b L hb).2⟩, fun b L k hb hk => ?_, fun b1 b2 L1 L2 k1 k2 hm1 hm2 hk1 hk2 hne hbb => ?_⟩
    · rw [kb0 b (R0.dom b L hb).1] at hk
      exact (R0.blks b L k hb hk).mono (hcut _ (by omega))
    · rw [kb0 b1 (R0.dom b1 L1 hm1).1] at hk1
      rw [kb0 b2 (R0.dom b2 L2 hm2).1] at hk2
      exact R0.inj b1 b2 L1 L2 k1 k2 hm1 hm2 hk1 hk2 hne hbb
  · unfold left
    exact Nat.le_trans (List.length_filter_le _ _) (by simp)
end
/-- What the evaluator tells of a call, the machine comes to. -/
theorem run_ok {P : Program} (hmix : P.follows .mixedOrders = true) {tbs : FuncId → Tbl} (hrg : RangesOK P tbs) {gv : Given} (hgv : GivenOK P gv) (k : Nat) : CallOK P (run P tbs gv k) := run_sound (fun _ h => draw_ok h) hmix hrg hgv k
end Go.AM
set_option linter.unusedVariables false
set_option linter.unusedSimpArgs false
namespace Go.AM
open Go.RowKit
section
variable {P : Program}
theorem run_next_at (w : World) (ty : TypeId) (r bm since c0 : Nat) (seen : Array Nat) (es : Array MapEntry) (clock : Nat) (hr : w.heap[r]? = some (.mapIter (some bm) since seen c0)) (hb : w.heap[bm]? = some (.map es clock)) (hold : ∀ x ∈ es.toList, x.born < since) (hsc : since ≤ c0) :
    ((leftOf es seen).size = 0 ∧ (Instr.next (.pointer (some ⟨r, 0, none⟩)) false ty).run P w = .ok (.tuple #[.bool false]) w) ∨
    ∃ e ∈ (leftOf es seen).toList, ∃ w1 : World, (w1 = w ∨ w1 = w.drew) ∧ (Instr.next (.pointer (some ⟨r, 0, none⟩)) false ty).run P w = .ok (.tuple #[.bool true, e.key, e.val]) (w1.putObj r (.mapIter (some bm) since (seen.push e.born) clock)) := by
  simp only [Instr.next, getObj, Sem.run_bind, Sem.run, hr, hb, Result.andThen, next_test_false seen es since c0 hold hsc, Bool.false_eq_true, if_false]
  unfold leftOf
  have hmem : ∀ x ∈ (Array.filter (fun e => !seen.contains e.born) es).toList, x.born < since := fun x hx => hold x (by simp at hx ⊢; exact hx.1)
  generalize Array.filter (fun e => !seen.contains e.born) es = L at hmem ⊢
  have e1 : L.filter (fun x => decide (x.born < since)) = L := Array.filter_eq_self.2 (fun x hx => by simpa using hmem x (by simpa using hx))
  have e2 : L.filter (fun x => decide (x.born ≥ since)) = #[] := by
    rw [Array.filter_eq_empty_iff]
    intro x hx
    have := hmem x (by simpa using hx)
    simp
    omega
  simp only [e1, e2, Array.append_empty]
  by_cases h0 : L.size = 0
  · left
    have : L = #[] := Array.eq_empty_of_size_eq_zero h0
    subst this
    refine ⟨rfl, ?_⟩
    simp [choose, Sem.run, Question.forced]
  · right
    have hne : L.isEmpty = false := by simp [Array.isEmpty, h0]
    simp only [hne, Bool.false_eq_true, if_false, Array.empty_append, Array.size_map]
    have hch : ∃ (j : Nat) (w1 : World), j < L.size ∧ (w1 = w ∨ w1 = w.drew) ∧ (choose (Question.mapNext L.size)).run P w = .ok j w1 := by
      by_cases hf : L.size ≤ 1
      · exact ⟨0, w, by omega, .inl rfl, by simp [choose, Sem.run, Question.forced, hf]⟩
      · exact ⟨_, w.drew, Nat.mod_lt _ (by omega), .inr rfl, by
          simp only [choose, Sem.run, Question.forced, decide_eq_true_eq, hf, if_false, Question.cut]
          rfl⟩
    obtain ⟨j, w1, hj, hal, hrun⟩ := hch
    refine ⟨L[j], by simp, w1, hal, ?_⟩
    have hr1 : w1.heap[r]? = some (.mapIter (some bm) since seen c0) := by rcases hal with rfl | rfl <;> exact hr
    simp only [hrun, Array.getElem?_map, Array.getElem?_eq_getElem hj, Option.map_some, Sem.run_bind, setObj, Sem.run, hr1, Result.andThen]
    rfl
theorem run_entry_at (w : World) (r bm since : Nat) (seen : Array Nat) (es : Array MapEntry) (clock : Nat) (e : MapEntry) (hr : w.heap[r]? = some (.mapIter (some bm) since (seen.push e.born) clock)) (hb : w.heap[bm]? = some (.map es clock)) (he : e ∈ es.toList) (hn : (es.toList.map (·.born)).Nodup) :
    (Instr.entry (.pointer (some ⟨r, 0, none⟩))).run P w = .ok (.tuple #[e.key, e.val]) w := by
  have hf : es.find? (·.born == e.born) = some e := by rw [← Array.find?_toList]; exact find_born e es.toList hn he
  simp only [Instr.entry, getObj, Sem.run_bind, Sem.run, hr, hb, Result.andThen, Array.back?_push, bne_self_eq_false, Bool.false_eq_true, if_false, hf]
  rfl
def Free (m : Mp) (H : AH) (B : Nat) : Prop := ∀ b L k, m b = some L → blk H b = some k → L.blk ≠ B
variable {B0 : Nat} {w0 : World} {m m' : Mp} {H H' : AH} {w w' : World}
theorem Free.ext {B : Nat} (h : Free m H B) (R : Rel P B0 w0 m H w) (E : Ext m H w m' H' w') (hB : B < w.heap.size) : Free m' H' B := by
  intro b L k hb hk
  rcases E.new b L hb with h1 | ⟨h1, h2 | ⟨b0, L0, k0, h3, h4, h5, h6⟩⟩
  · obtain ⟨k0, h3, h4⟩ := E.alive b k (R.dom b L h1).1 hk
    exact h b L k0 h1 h3
  · omega
  · rw [← h6]; exact h b0 L0 k0 h3 h4
theorem Free.frame {B : Nat} (h : Free m H B) (E : Ext m H w m' H' w') (hB : B < w.heap.size) : w'.heap[B]? = w.heap[B]? := E.frame B hB fun b L k h1 h2 _ => h b L k h1 h2
theorem Marks.putIter {B : Nat} {ds : List Deferred} {r : Nat} {o : Obj} (h : Marks B ds m H w) (hr : ∀ l, w.heap[r]? ≠ some (.deferred l)) : Marks B ds m H (w.putObj r o) := by
  obtain ⟨Ds, h1, h2, h3⟩ := h
  refine ⟨Ds, h1, h2, fun D hD => ?_⟩
  obtain ⟨h4, h5, h6⟩ := h3 D hD
  refine ⟨h4, ?_, h6⟩
  rw [World.putObj_heap_other (by rintro rfl; exact hr _ h5)]
  exact h5
theorem Marks.drew {B : Nat} {ds : List Deferred} (h : Marks B ds m H w) : Marks B ds m H w.drew := h
theorem Ext.putIter {r : Nat} {o : Obj} (E : Ext m H w m' H' w') (hr : w.heap.size ≤ r) : Ext m H w m' H' (w'.putObj r o) :=
  ⟨E.mono, E.len, by rw [World.putObj_size]; exact E.size, E.alive, E.new, fun B hB hf => (World.putObj_heap_other (by omega)).trans (E.frame B hB hf)⟩
/-- A dead block, to name a block of the machine's. -/
theorem Rel.mkDead (h : Rel P B0 w0 m H w) (o : Obj) (kd : BK) :
    Rel P B0 w0 (upd m H.length ⟨w.heap.size, 0, kd, 0, 0⟩) (H ++ [none]) (w.alloc o) ∧ Ext m H w (upd m H.length ⟨w.heap.size, 0, kd, 0, 0⟩) (H ++ [none]) (w.alloc o) := by
  have hmono := upd_mono (m := m) (H := H) (fun b L hb => (h.dom b L hb).1) ⟨w.heap.size, 0, kd, 0, 0⟩
  have old : ∀ b2 L2, upd m H.length ⟨w.heap.size, 0, kd, 0, 0⟩ b2 = some L2 → (b2 = H.length ∧ L2 = ⟨w.heap.size, 0, kd, 0, 0⟩) ∨ (b2 ≠ H.length ∧ m b2 = some L2) := by
    intro b2 L2 h2
    unfold upd at h2
    split at h2
    · rename_i hb; cases h2; exact .inl ⟨hb, rfl⟩
    · rename_i hb; exact .inr ⟨hb, h2⟩
  have dead : blk (H ++ [none]) H.length = none := by unfold blk; simp
  have keep : ∀ b, b < H.length → blk (H ++ [none]) b = blk H b := fun b hb => by unfold blk; rw [List.getElem?_append_left hb]
  refine ⟨⟨h.below.alloc h.hB _, by simp; exact Nat.le_succ_of_le h.hB, ?_, ?_, ?_⟩, ⟨hmono, by simp, by simp, ?_, ?_, fun B hB _ => Below.heap_alloc w _ _ hB⟩⟩
  · intro b2 L2 h2
    simp only [World.size_alloc, List.length_append, List.length_singleton]
    rcases old b2 L2 h2 with ⟨rfl, rfl⟩ | ⟨_, h3⟩
    · exact ⟨by omega, by simp⟩
    · have := h.dom b2 L2 h3; omega
  · intro b2 L2 k2 h2 hk2
    rcases old b2 L2 h2 with ⟨rfl, rfl⟩ | ⟨hne, h3⟩
    · rw [dead] at hk2; cases hk2
    · have hlt := (h.dom b2 L2 h3)
      rw [keep _ hlt.1] at hk2
      exact (h.blks b2 L2 k2 h3 hk2).at hmono (Below.heap_alloc w _ _ hlt.2)
  · intro b1 b2 L1 L2 k1 k2 hm1 hm2 hk1 hk2 hne hbb
    rcases old b1 L1 hm1 with ⟨rfl, rfl⟩ | ⟨hn1, h1⟩
    · rw [dead] at hk1; cases hk1
    · rcases old b2 L2 hm2 with ⟨rfl, rfl⟩ | ⟨hn2, h2⟩
      · rw [dead] at hk2; cases hk2
      · rw [keep _ (h.dom b1 L1 h1).1] at hk1
        rw [keep _ (h.dom b2 L2 h2).1] at hk2
        exact h.inj b1 b2 L1 L2 k1 k2 h1 h2 hk1 hk2 hne hbb
  · intro b2 k2 hb2 hk2
    rw [keep _ hb2] at hk2
    exact ⟨k2, hk2, rfl⟩
  · intro b2 L2 h2
    rcases old b2 L2 h2 with ⟨rfl, rfl⟩ | ⟨_, h3⟩
    · exact .inr ⟨Nat.le_refl _, .inl (Nat.le_refl _)⟩
    · exact .inl h3
theorem blk_set_same {H : AH} {b : Nat} {o : Option Blk} (h : b < H.length) : blk (H.set b o) b = o := by
  unfold blk; rw [List.getElem?_set_self h]; rfl
theorem blk_set_ne {H : AH} {b c : Nat} {o : Option Blk} (h : b ≠ c) : blk (H.set b o) c = blk H c := by
  unfold blk; rw [List.getElem?_set_ne h]
/-- A block is known again. -/
theorem Rel.unkill (h : Rel P B0 w0 m H w) {b : Nat} {L : Loc} {k : Blk} (hm : m b = some L) (hb : b < H.length) (hk : BRel P B0 m L k w) (hf : Free m H L.blk) : Rel P B0 w0 m (H.set b (some k)) w := by
  refine ⟨h.below, h.hB, fun b2 L2 h2 => by rw [List.length_set]; exact h.dom b2 L2 h2, fun b2 L2 k2 h2 hk2 => ?_, fun b1 b2 L1 L2 k1 k2 h1 h2 hk1 hk2 hne hbb => ?_⟩
  · by_cases e : b = b2
    · subst e
      rw [blk_set_same hb] at hk2
      cases hk2
      rw [hm] at h2; cases h2
      exact hk
    · rw [blk_set_ne e] at hk2
      exact h.blks b2 L2 k2 h2 hk2
  · by_cases e1 : b = b1
    · subst e1
      rw [hm] at h1; cases h1
      rw [blk_set_ne hbb] at hk2
      exact fun e => hf b2 L2 k2 h2 hk2 e.symm
    · rw [blk_set_ne e1] at hk1
      by_cases e2 : b = b2
      · subst e2
        rw [hm] at h2; cases h2
        exact hf b1 L1 k1 h1 hk1
      · rw [blk_set_ne e2] at hk2
        exact h.inj b1 b2 L1 L2 k1 k2 h1 h2 hk1 hk2 hne hbb
end
theorem evOps_pre {P : Program} {call : CallF} (hcall : CallOK P call) (r0 : Option Nat) (ops : Array Oper) : ∀ (l : List Oper) (i : Nat) (T : List Value) (H : AH) (T' : List Value) (H' : AH), (∀ j o, l[j]? = some o → ops[i + j]? = some o ∧ o.guard = none) →
    evOps P call ops l T H (fun T H => some (T, H)) = some (T', H') → ∀ (n B0 : Nat) (w0 : World) (m : Mp) (a : Act) (w : World) (ds : List Deferred) (rest : List Nat) (Q : Exit → Act → World → Prop), Rel P B0 w0 m H w → LRel m T a.tmps.toList → a.defers = ds →
      (∀ m' a' w', After P B0 w0 m H w ds T' H' m' a' w' → wpOpsIn (FW r0) n P ops Q rest a' w') → wpOpsIn (FW r0) n P ops Q (List.range' i l.length ++ rest) a w
  | [], i, T, H, T', H', _, h, n, B0, w0, m, a, w, ds, rest, Q, R0, hT, hd, hq => by
    cases h
    exact hq m a w (After.start R0 hT hd)
  | o :: l, i, T, H, T', H', hl, h, n, B0, w0, m, a, w, ds, rest, Q, R0, hT, hd, hq => by
    obtain ⟨ho, hg⟩ := hl 0 o rfl
    rw [Nat.add_zero] at ho
    unfold evOps at h
    rw [hg] at h
    simp only at h
    rw [opY_res] at h
    obtain ⟨⟨v, H1⟩, h1, h2⟩ := bind_some h
    rw [List.length_cons, List.range'_succ]
    simp only [List.cons_append, wpOpsIn, ho]
    rw [if_pos (by unfold Region.wanted; rw [hg])]
    refine opY_sound hcall h1 R0 hT _ _ fun m' v' w' E R' hv => ?_
    exact evOps_pre hcall r0 ops l (i + 1) _ _ _ _ (fun j o hj => by rw [show i + 1 + j = i + (j + 1) by omega]; exact hl (j + 1) o hj) h2 n B0 w0 m' _ w' ds rest Q R' (put_rel (hT.mono E.mono) _ hv) (by rw [put_defers]; exact hd) fun m2 a2 w2 A => hq m2 a2 w2 (After.trans R0 E A)
end Go.AM
set_option linter.unusedVariables false
set_option linter.unusedSimpArgs false
namespace Go.AM
variable {α β R : Type} {P : Program}


def Ev (g : Nat → Nat → Option α) (Q : α → Prop) : Prop := ∃ r, Q r ∧ ∃ N, ∀ k n, N ≤ k → N ≤ n → g k n = some r

theorem Ev.ret {Q : α → Prop} {r : α} (h : Q r) : Ev (fun _ _ => some r) Q := ⟨r, h, 0, fun _ _ _ _ => rfl⟩
theorem Ev.mono {g : Nat → Nat → Option α} {Q Q' : α → Prop} (h : Ev g Q) (hq : ∀ r, Q r → Q' r) : Ev g Q' :=
  h.elim fun r hr => ⟨r, hq r hr.1, hr.2⟩
theorem Ev.eq {g h : Nat → Nat → Option α} {Q : α → Prop} (e : ∀ k n, g k n = h k n) (hh : Ev h Q) : Ev g Q := by
  obtain ⟨r, hr, N, hN⟩ := hh
  exact ⟨r, hr, N, fun k n a b => (e k n).trans (hN k n a b)⟩
theorem Ev.bind {g : Nat → Nat → Option α} {f : Nat → Nat → α → Option β} {Q1 : α → Prop} {Q : β → Prop} (h1 : Ev g Q1) (h2 : ∀ r, Q1 r → Ev (fun k n => f k n r) Q) :
    Ev (fun k n => (g k n).bind (f k n)) Q := by
  obtain ⟨r, hr, N, hN⟩ := h1
  obtain ⟨s, hs, M, hM⟩ := h2 r hr
  refine ⟨s, hs, max N M, fun k n a b => ?_⟩
  show (g k n).bind (f k n) = some s
  rw [hN k n (by omega) (by omega)]
  exact hM k n (by omega) (by omega)
theorem Ev.prim {E : Option α} {a : α} {f : Nat → Nat → α → Option β} {Q : β → Prop} (h : E = some a) (h2 : Ev (fun k n => f k n a) Q) : Ev (fun k n => E.bind (f k n)) Q :=
  Ev.eq (fun _ _ => by rw [h]; rfl) h2
theorem Ev.assoc {g : Nat → Nat → Option α} {f : Nat → Nat → α → Option β} {f2 : Nat → Nat → β → Option R} {Q : R → Prop} (h : Ev (fun k n => (g k n).bind fun x => (f k n x).bind (f2 k n)) Q) :
    Ev (fun k n => ((g k n).bind (f k n)).bind (f2 k n)) Q := Ev.eq (fun _ _ => Option.bind_assoc ..) h
theorem Ev.b2 {g : Nat → Nat → Option (Value × AH)} {f : Nat → Nat → Value → AH → Option R} {Q1 : Value × AH → Prop} {Q : R → Prop} (h1 : Ev g Q1) (h2 : ∀ v H, Q1 (v, H) → Ev (fun k n => f k n v H) Q) :
    Ev (fun k n => Go.AM.b2 (g k n) (f k n)) Q := Ev.bind h1 fun r hr => h2 r.1 r.2 hr
theorem Ev.prim2 {E : Option (Value × AH)} {v : Value} {H : AH} {f : Nat → Nat → Value → AH → Option R} {Q : R → Prop} (h : E = some (v, H)) (h2 : Ev (fun k n => f k n v H) Q) :
    Ev (fun k n => Go.AM.b2 E (f k n)) Q := Ev.eq (fun _ _ => by rw [h]; rfl) h2
theorem Ev.chk {x : Nat → Nat → Option α} {Q : α → Prop} {p : Prop} (hp : p) (h : Ev x Q) : Ev (fun k n => aChk p (x k n)) Q :=
  Ev.eq (fun _ _ => by unfold aChk; exact if_pos hp) h
/-- A guarded operation that is done. -/
theorem Ev.gDo {w : Bool} {E : Nat → Nat → Option (Value × AH)} {H : AH} {f : Nat → Nat → Value → AH → Option R} {Q : R → Prop} (h : Ev (fun k n => Go.AM.b2 (E k n) (f k n)) Q) :
    Ev (fun k n => Go.AM.b2 (gOp (.bool w) w (E k n) H) (f k n)) Q := Ev.eq (fun _ _ => by unfold gOp; simp) h
theorem Ev.gSkip {w : Bool} {E : Nat → Nat → Option (Value × AH)} {H : AH} {f : Nat → Nat → Value → AH → Option R} {Q : R → Prop} (h : Ev (fun k n => f k n undef H) Q) :
    Ev (fun k n => Go.AM.b2 (gOp (.bool w) (!w) (E k n) H) (f k n)) Q := Ev.eq (fun _ _ => by unfold gOp; cases w <;> simp [Go.AM.b2]) h
theorem Ev.gSkipT {E : Nat → Nat → Option (Value × AH)} {H : AH} {f : Nat → Nat → Value → AH → Option R} {Q : R → Prop} (h : Ev (fun k n => f k n undef H) Q) :
    Ev (fun k n => Go.AM.b2 (gOp (.bool false) true (E k n) H) (f k n)) Q := Ev.gSkip (w := false) h
theorem Ev.gSkipF {E : Nat → Nat → Option (Value × AH)} {H : AH} {f : Nat → Nat → Value → AH → Option R} {Q : R → Prop} (h : Ev (fun k n => f k n undef H) Q) :
    Ev (fun k n => Go.AM.b2 (gOp (.bool true) false (E k n) H) (f k n)) Q := Ev.gSkip (w := true) h
theorem Ev.gUndef {w : Bool} {E : Nat → Nat → Option (Value × AH)} {H : AH} {f : Nat → Nat → Value → AH → Option R} {Q : R → Prop} (h : Ev (fun k n => f k n undef H) Q) :
    Ev (fun k n => Go.AM.b2 (gOp undef w (E k n) H) (f k n)) Q := Ev.eq (fun _ _ => by unfold gOp undef; simp [Go.AM.b2]) h
/-- What lies under a guard: 'E.bind fun v => some (v, H)'. -/
theorem Ev.gPrim {E : Option α} {a : α} {g : α → Option (Value × AH)} {v : Value} {H : AH} {f : Nat → Nat → Value → AH → Option R} {Q : R → Prop} (h : E = some a) (hg : g a = some (v, H)) (h2 : Ev (fun k n => f k n v H) Q) :
    Ev (fun k n => Go.AM.b2 (E.bind g) (f k n)) Q := Ev.prim2 (by rw [h]; exact hg) h2
theorem Ev.gCall {g : Nat → Nat → Option (Value × AH)} {f : Nat → Nat → Value → AH → Option R} {Q : R → Prop} (h : Ev (fun k n => Go.AM.b2 (g k n) (f k n)) Q) :
    Ev (fun k n => Go.AM.b2 (Go.AM.b2 (g k n) fun v H => some (v, H)) (f k n)) Q := Ev.eq (fun k n => by
      show Option.bind (Option.bind (g k n) _) _ = Option.bind (g k n) _
      rw [Option.bind_assoc]; rfl) h
/-- A loop has as much fuel as its function. -/
theorem Ev.loop {L : Nat → Nat → Option α} {Q : α → Prop} (h : Ev L Q) : Ev (fun k _ => L k k) Q := by
  obtain ⟨r, hr, N, hN⟩ := h
  exact ⟨r, hr, N, fun k n a _ => hN k k a a⟩
theorem Ev.succ {L T : Nat → Nat → Option α} {Q : α → Prop} (e : ∀ k n, L k (n + 1) = T k n) (h : Ev T Q) : Ev L Q := by
  obtain ⟨r, hr, N, hN⟩ := h
  refine ⟨r, hr, N + 1, fun k n a b => ?_⟩
  obtain ⟨m, rfl⟩ : ∃ m, n = m + 1 := ⟨n - 1, by omega⟩
  exact (e k m).trans (hN k m (by omega) (by omega))
theorem Ev.fn {F T : Nat → Option α} {Q : α → Prop} (e : ∀ k, F (k + 1) = T k) (h : Ev (fun k _ => T k) Q) : Ev (fun k _ => F k) Q := by
  obtain ⟨r, hr, N, hN⟩ := h
  refine ⟨r, hr, N + 1, fun k n a b => ?_⟩
  obtain ⟨m, rfl⟩ : ∃ m, k = m + 1 := ⟨k - 1, by omega⟩
  exact (e m).trans (hN m n (by omega) (by omega))

theorem blk_lt {H : AH} {b : Nat} {K : Blk} (h : blk H b = some K) : b < H.length := by
  unfold blk at h
  cases hh : H[b]? with
  | none => rw [hh] at h; exact absurd h (by simp)
  | some x => exact (List.getElem?_eq_some_iff.mp hh).1
theorem blk_mkB_old {H : AH} {cs e kd} {b : Nat} (h : b < H.length) : blk (mkB H cs e kd) b = blk H b := by
  unfold blk mkB; rw [List.getElem?_append_left h]
theorem blk_mkB_new {H : AH} {cs e kd} : blk (mkB H cs e kd) H.length = some ⟨cs, e, kd⟩ := by
  unfold blk mkB; simp
theorem blk_put {H : AH} {b c : Nat} {k : Blk} {cs} (hb : b < H.length) : blk (put H b k cs) c = if c = b then some ⟨cs, k.elem, k.kind⟩ else blk H c := by
  unfold blk put
  by_cases h : c = b
  · subst h; rw [List.getElem?_set_self hb, if_pos rfl]; rfl
  · rw [List.getElem?_set_ne (fun e => h e.symm), if_neg h]
theorem blk_kill {H : AH} {b c : Nat} (hb : b < H.length) : blk (kill H b) c = if c = b then none else blk H c := by
  unfold blk kill
  by_cases h : c = b
  · subst h; rw [List.getElem?_set_self hb, if_pos rfl]; rfl
  · rw [List.getElem?_set_ne (fun e => h e.symm), if_neg h]
theorem length_put {H : AH} {b k cs} : (put H b k cs).length = H.length := by unfold put; simp
theorem length_kill {H : AH} {b} : (kill H b).length = H.length := by unfold kill; simp
theorem length_mkB {H : AH} {cs e kd} : (mkB H cs e kd).length = H.length + 1 := by unfold mkB; simp

/-- More is there; what was there, or was not, is as it was. -/
structure Fr (H H' : AH) : Prop where
  len : H.length ≤ H'.length
  same : ∀ b, b < H.length → blk H' b = blk H b
/-- What was there is as it was. -/
def Mo (B B' : AH) : Prop := ∀ b K, blk B b = some K → blk B' b = some K
structure Le (B H : AH) : Prop where
  le : Mo B H
theorem Fr.refl (H : AH) : Fr H H := ⟨Nat.le_refl _, fun _ _ => rfl⟩
theorem Fr.trans {A B C : AH} (h1 : Fr A B) (h2 : Fr B C) : Fr A C := ⟨Nat.le_trans h1.len h2.len, fun b hb => (h2.same b (Nat.lt_of_lt_of_le hb h1.len)).trans (h1.same b hb)⟩
theorem Fr.mo {A B : AH} (h : Fr A B) : Mo A B := fun b K hb => (h.same b (blk_lt hb)).trans hb
theorem Mo.refl (B : AH) : Mo B B := fun _ _ h => h
theorem Mo.trans {A B C : AH} (h1 : Mo A B) (h2 : Mo B C) : Mo A C := fun b K h => h2 b K (h1 b K h)

/-- H0, B0: what it was at first. B: what nobody changes any more. L: ours. -/
class St (H0 B0 B : outParam AH) (L : outParam (List (Nat × Blk))) (H : AH) : Prop where
  le : Mo B H
  own : ∀ p, p ∈ L → blk H p.1 = some p.2 ∧ blk B p.1 = none ∧ H0.length ≤ p.1
  nd : (L.map Prod.fst).Nodup
  frH : Fr H0 H
  frB : ∀ b, b < H0.length → blk B b = blk B0 b

/-- How a function's answer stands to what it was at first. -/
def An (B H : AH) (Post : AH → Value → Prop) (r : Value × AH) : Prop := ∃ B', (∀ b, b < H.length → blk B' b = blk B b) ∧ Le B' r.2 ∧ Fr H r.2 ∧ Post B' r.1

theorem St.start {B H : AH} (h : Le B H) : St H B B [] H :=
  ⟨h.le, fun _ h => absurd h (List.not_mem_nil), List.nodup_nil, Fr.refl _, fun _ _ => rfl⟩
theorem St.lel {H0 B0 B L H} (h : St H0 B0 B L H) : Le B H := ⟨h.le⟩
theorem St.get {H0 B0 B L H} {b : Nat} {K : Blk} (h : St H0 B0 B L H) (hm : (b, K) ∈ L) : blk H b = some K := (h.own _ hm).1
theorem St.drop {H0 B0 B L L' H} (h : St H0 B0 B L H) (hs : L'.Sublist L) : St H0 B0 B L' H :=
  ⟨h.le, fun p hp => h.own p (hs.subset hp), (hs.map _).nodup h.nd, h.frH, h.frB⟩
theorem St.perm {H0 B0 B L L' H} (h : St H0 B0 B L H) (hs : L'.Perm L) : St H0 B0 B L' H :=
  ⟨h.le, fun p hp => h.own p (hs.subset hp), (hs.map _).nodup_iff.mpr h.nd, h.frH, h.frB⟩
theorem St.fresh {H0 B0 B L H} (h : St H0 B0 B L H) : blk B H.length = none := by
  cases hb : blk B H.length with
  | none => rfl
  | some K => exact absurd (blk_lt (h.le _ _ hb)) (Nat.lt_irrefl _)
theorem St.mkB' {H0 B0 B L H} (h : St H0 B0 B L H) (cs : List Value) (e : TypeId) (kd : BK) : St H0 B0 B ((H.length, ⟨cs, e, kd⟩) :: L) (mkB H cs e kd) := by
  refine ⟨fun b K hb => ?_, fun p hp => ?_, ?_, ⟨?_, fun b hb => ?_⟩, h.frB⟩
  · have := h.le b K hb
    rw [blk_mkB_old (blk_lt this)]; exact this
  · cases hp with
    | head => exact ⟨blk_mkB_new, h.fresh, h.frH.len⟩
    | tail _ hp =>
      have hh := h.own p hp
      exact ⟨by rw [blk_mkB_old (blk_lt hh.1)]; exact hh.1, hh.2.1, hh.2.2⟩
  · refine List.nodup_cons.mpr ⟨fun hm => ?_, h.nd⟩
    obtain ⟨p, hp, he⟩ := List.mem_map.mp hm
    have := blk_lt (h.own p hp).1
    have he : p.1 = H.length := he
    omega
  · rw [length_mkB]; have := h.frH.len; omega
  · rw [blk_mkB_old (by have := h.frH.len; omega)]; exact h.frH.same b hb
theorem St.mkB {H0 B0 B L H} (h : St H0 B0 B L H) (cs : List Value) (e : TypeId) (kd : BK) :
    ∃ B', Mo B B' ∧ St H0 B0 B' ((H.length, ⟨cs, e, kd⟩) :: L) (mkB H cs e kd) := ⟨B, Mo.refl B, h.mkB' cs e kd⟩

theorem mem_fst {p : Nat × Blk} {b : Nat} {L : List (Nat × Blk)} (h : p ∈ L) (e : p.1 = b) : b ∈ L.map Prod.fst := List.mem_map.mpr ⟨p, h, e⟩
/-- One of ours is another. -/
inductive Upd (b : Nat) (K K' : Blk) : List (Nat × Blk) → List (Nat × Blk) → Prop where
  | head (L) : Upd b K K' ((b, K) :: L) ((b, K') :: L)
  | tail (x) {L L'} (h : Upd b K K' L L') : Upd b K K' (x :: L) (x :: L')
theorem Upd.mem {b K K' L L'} (h : Upd b K K' L L') : (b, K) ∈ L := by
  induction h with
  | head => exact .head _
  | tail _ _ ih => exact .tail _ ih
theorem Upd.map {b K K' L L'} (h : Upd b K K' L L') : L'.map Prod.fst = L.map Prod.fst := by
  induction h with
  | head => rfl
  | tail x _ ih => simp [ih]
theorem Upd.inv {b K K' L L'} (h : Upd b K K' L L') (hn : (L.map Prod.fst).Nodup) : ∀ p, p ∈ L' → p = (b, K') ∨ (p ∈ L ∧ p.1 ≠ b) := by
  induction h with
  | head L =>
    intro p hp
    cases hp with
    | head => exact .inl rfl
    | tail _ hp => exact .inr ⟨.tail _ hp, fun e => (List.nodup_cons.mp hn).1 (mem_fst hp e)⟩
  | tail x hU ih =>
    intro p hp
    cases hp with
    | head => exact .inr ⟨.head _, fun e => (List.nodup_cons.mp hn).1 (mem_fst hU.mem e.symm)⟩
    | tail _ hp => exact (ih (List.nodup_cons.mp hn).2 p hp).imp id fun h => ⟨.tail _ h.1, h.2⟩
theorem St.put {H0 B0 B L L' H} {b : Nat} {K : Blk} {cs : List Value} (h : St H0 B0 B L H) (hu : Upd b K ⟨cs, K.elem, K.kind⟩ L L') : St H0 B0 B L' (put H b K cs) := by
  have hb := h.own _ hu.mem
  have hlt := blk_lt hb.1
  refine ⟨fun c K' hc => ?_, fun p hp => ?_, by rw [hu.map]; exact h.nd, ⟨by rw [length_put]; exact h.frH.len, fun c hc => ?_⟩, h.frB⟩
  · rw [blk_put hlt, if_neg]
    · exact h.le c K' hc
    · intro e; subst e; rw [hb.2.1] at hc; exact absurd hc (by simp)
  · rcases hu.inv h.nd p hp with rfl | ⟨hp', hne⟩
    · exact ⟨by rw [blk_put hlt, if_pos rfl], hb.2⟩
    · have := h.own p hp'
      exact ⟨by rw [blk_put hlt, if_neg hne]; exact this.1, this.2⟩
  · rw [blk_put hlt, if_neg (by have : H0.length ≤ b := hb.2.2; omega)]; exact h.frH.same c hc
theorem St.kill {H0 B0 B L H} {b : Nat} {K : Blk} (h : St H0 B0 B ((b, K) :: L) H) : St H0 B0 B L (kill H b) := by
  have hb := h.own _ (.head _)
  have hlt := blk_lt hb.1
  have hn := List.nodup_cons.mp h.nd
  refine ⟨fun c K' hc => ?_, fun p hp => ?_, hn.2, ⟨by rw [length_kill]; exact h.frH.len, fun c hc => ?_⟩, h.frB⟩
  · rw [blk_kill hlt, if_neg]
    · exact h.le c K' hc
    · intro e; subst e; rw [hb.2.1] at hc; exact absurd hc (by simp)
  · have := h.own p (.tail _ hp)
    exact ⟨by rw [blk_kill hlt, if_neg fun e => hn.1 (mem_fst hp e)]; exact this.1, this.2⟩
  · rw [blk_kill hlt, if_neg (by have : H0.length ≤ b := hb.2.2; omega)]; exact h.frH.same c hc
theorem setB (B : AH) (b : Nat) (K : Blk) : ∃ B', ∀ c, blk B' c = if c = b then some K else blk B c := by
  refine ⟨(B ++ List.replicate (b + 1) none).set b (some K), fun c => ?_⟩
  have hp : ∀ d, blk (B ++ List.replicate (b + 1) none) d = blk B d := fun d => by
    unfold blk
    by_cases h : d < B.length
    · rw [List.getElem?_append_left h]
    · rw [List.getElem?_append_right (by omega), List.getElem?_eq_none (l := B) (by omega), List.getElem?_replicate]
      split <;> rfl
  by_cases h : c = b
  · subst h; unfold blk; rw [List.getElem?_set_self (by simp; omega), if_pos rfl]; rfl
  · rw [if_neg h, ← hp c]; unfold blk; rw [List.getElem?_set_ne (fun e => h e.symm)]
/-- From now on nobody changes it. -/
theorem St.freeze {H0 B0 B L H} {b : Nat} {K : Blk} (h : St H0 B0 B ((b, K) :: L) H) : ∃ B', Mo B B' ∧ blk B' b = some K ∧ St H0 B0 B' L H := by
  have hb := h.own _ (.head _)
  have hn := List.nodup_cons.mp h.nd
  obtain ⟨B', hs⟩ := setB B b K
  refine ⟨B', fun c K' hc => ?_, by rw [hs, if_pos rfl], fun c K' hc => ?_, fun p hp => ?_, hn.2, h.frH, fun c hc => ?_⟩
  · rw [hs, if_neg]
    · exact hc
    · intro e; subst e; rw [hb.2.1] at hc; exact absurd hc (by simp)
  · rw [hs] at hc
    by_cases e : c = b
    · subst e; rw [if_pos rfl] at hc; rw [← hc]; exact hb.1
    · rw [if_neg e] at hc; exact h.le c K' hc
  · have := h.own p (.tail _ hp)
    exact ⟨this.1, by rw [hs, if_neg fun e => hn.1 (mem_fst hp e)]; exact this.2.1, this.2.2⟩
  · rw [hs, if_neg (by have : H0.length ≤ b := hb.2.2; omega)]; exact h.frB c hc
theorem St.call {H0 B0 B L H} {Post : AH → Value → Prop} {r : Value × AH} (h : St H0 B0 B L H) (ha : An B H Post r) : ∃ B', Mo B B' ∧ St H0 B0 B' L r.2 ∧ Post B' r.1 := by
  obtain ⟨B', f1, f2, f3, f4⟩ := ha
  refine ⟨B', fun b K hb => (f1 b (blk_lt (h.le b K hb))).trans hb, ⟨f2.le, fun p hp => ?_, h.nd, h.frH.trans f3, fun b hb => (f1 b (Nat.lt_of_lt_of_le hb h.frH.len)).trans (h.frB b hb)⟩, f4⟩
  have hh := h.own p hp
  have hlt := blk_lt hh.1
  exact ⟨(f3.same _ hlt).trans hh.1, (f1 _ hlt).trans hh.2.1, hh.2.2⟩
theorem St.an {H0 B0 B L H} {Post : AH → Value → Prop} {v : Value} (h : St H0 B0 B L H) (hp : Post B v) : An B0 H0 Post (v, H) := ⟨B, h.frB, h.lel, h.frH, hp⟩

def ldK (P : Program) (t : TypeId) (cells : List Value) (off : Nat) : Option Value :=
  match aggT P t with
  | some true => if off + szT P t ≤ cells.length then some (.agg ((cells.drop off).take (szT P t)).toArray) else none
  | some false => cells[off]?
  | none => none
def stK (P : Program) (t : TypeId) (cells : List Value) (off : Nat) (v : Value) : Option (List Value) :=
  match aggT P t with
  | some true =>
    match v with
    | .agg cs => if off + szT P t ≤ cells.length ∧ cs.size = szT P t ∧ cs.toList.all isCell = true then some (spl cells off cs.toList) else none
    | _ => none
  | some false => if szT P t = 1 ∧ off < cells.length ∧ isCell v = true then some (cells.set off v) else none
  | none => none
theorem ld_blk {t : TypeId} {H : AH} {b off : Nat} {K : Blk} (h : blk H b = some K) : ld P t H (ptr b off) = ldK P t K.cells off := by
  unfold ld ldK
  cases aggT P t with
  | none => rfl
  | some a =>
    cases a with
    | true => simp only [ldA, ptr, h, Option.bind_some, rdN]; split <;> rfl
    | false => simp only [ldC, ptr, h, Option.bind_some]
theorem st_blk {t : TypeId} {H : AH} {b off : Nat} {K : Blk} {v : Value} {cs : List Value} (h : blk H b = some K) (hk : K.kind.wr = true) (hs : stK P t K.cells off v = some cs) : st P t H (ptr b off) v = some (put H b K cs) := by
  unfold st
  unfold stK at hs
  cases ha : aggT P t with
  | none => rw [ha] at hs; exact absurd hs (by simp)
  | some a =>
    rw [ha] at hs
    cases a with
    | true =>
      cases v with
      | agg c =>
        simp only at hs
        split at hs
        · rename_i hc
          simp only [stA, ptr, h, Option.bind_some, if_pos (show K.kind.wr = true ∧ off + szT P t ≤ K.cells.length ∧ c.size = szT P t ∧ c.toList.all isCell = true from ⟨hk, hc⟩)]
          rw [Option.some.inj hs]
        · exact absurd hs (by simp)
      | _ => exact absurd hs (by simp)
    | false =>
      simp only at hs
      split at hs
      · rename_i hc
        simp only [stC, ptr, h, Option.bind_some, if_pos hc.1, if_pos (show K.kind.wr = true ∧ off < K.cells.length ∧ isCell v = true from ⟨hk, hc.2⟩)]
        rw [Option.some.inj hs]
      · exact absurd hs (by simp)

theorem Ev.box {H0 B0 B L H} {v : Value} {t : TypeId} {f : Nat → Nat → Value → AH → Option R} {Q : R → Prop} (hS : St H0 B0 B L H) (hv : okCells v = true)
    (h : ∀ b B' H', Mo B B' → St H0 B0 B' ((b, ⟨v.cells.toList, t, .fix⟩) :: L) H' → Ev (fun k n => f k n (ptr b 0) H') Q) : Ev (fun k n => Go.AM.b2 (Go.AM.box t H v) (f k n)) Q := by
  obtain ⟨B', hm, hS'⟩ := hS.mkB v.cells.toList t .fix
  exact Ev.prim2 (by unfold Go.AM.box; rw [if_pos hv]) (h H.length B' _ hm hS')
theorem Ev.newV {H0 B0 B L H} {z : Value} {t : TypeId} {f : Nat → Nat → Value → AH → Option R} {Q : R → Prop} (hz : zeroT P t = some z) (hS : St H0 B0 B L H) (hv : okCells z = true)
    (h : ∀ b B' H', Mo B B' → St H0 B0 B' ((b, ⟨z.cells.toList, t, .fix⟩) :: L) H' → Ev (fun k n => f k n (ptr b 0) H') Q) : Ev (fun k n => Go.AM.b2 (Go.AM.newV P t H) (f k n)) Q := by
  have e : Go.AM.newV P t H = Go.AM.box t H z := by unfold Go.AM.newV; rw [hz]; rfl
  rw [e]; exact Ev.box hS hv h
theorem Ev.ld {H0 B0 B L H} {b off : Nat} {K : Blk} {v : Value} {t : TypeId} {f : Nat → Nat → Value → Option R} {Q : R → Prop} (hS : St H0 B0 B L H) (hm : (b, K) ∈ L) (hv : ldK P t K.cells off = some v)
    (h : Ev (fun k n => f k n v) Q) : Ev (fun k n => (Go.AM.ld P t H (ptr b off)).bind (f k n)) Q :=
  Ev.prim ((ld_blk (hS.get hm)).trans hv) h
theorem Ev.st {H0 B0 B L L' H} {b off : Nat} {K : Blk} {v : Value} {cs : List Value} {t : TypeId} {f : Nat → Nat → AH → Option R} {Q : R → Prop} (hS : St H0 B0 B L H) (hm : (b, K) ∈ L) (hs : stK P t K.cells off v = some cs)
    (hk : K.kind.wr = true) (hu : Upd b K ⟨cs, K.elem, K.kind⟩ L L') (h : ∀ H', St H0 B0 B L' H' → Ev (fun k n => f k n H') Q) : Ev (fun k n => (Go.AM.st P t H (ptr b off) v).bind (f k n)) Q :=
  Ev.prim (st_blk (hS.get hm) hk hs) (h _ (hS.put hu))
theorem Ev.call {H0 B0 B L H} {g : Nat → Nat → Option (Value × AH)} {Post : AH → Value → Prop} {f : Nat → Nat → Value → AH → Option R} {Q : R → Prop} (hS : St H0 B0 B L H)
    (hc : Le B H → Ev g (An B H Post)) (h : ∀ v B' H', Mo B B' → St H0 B0 B' L H' → Post B' v → Ev (fun k n => f k n v H') Q) : Ev (fun k n => Go.AM.b2 (g k n) (f k n)) Q :=
  Ev.b2 (hc hS.lel) fun v H' ha => by
    obtain ⟨B', hm, hS', hp⟩ := hS.call ha
    exact h v B' H' hm hS' hp
theorem Ev.done {H0 B0 B L H} {Post : AH → Value → Prop} {v : Value} (hS : St H0 B0 B L H) (hp : Post B v) : Ev (fun _ _ => some (v, H)) (An B0 H0 Post) := Ev.ret (hS.an hp)

section
variable {t : TypeId} {k : IntKind} {x y : Int}
theorem bin_int {op : BinOp} {v : Value} (h : still P (binOp op t (.int k x) (.int k y)) = some v) (hv : flat1 v = true) : bin P op t (.int k x) (.int k y) = some v := by
  unfold bin; rw [if_pos ⟨rfl, rfl, rfl⟩, h, Option.bind_some, if_pos hv]
theorem bin_add : bin P .add t (.int k x) (.int k y) = some (.int k (k.wrap (x + y))) := bin_int (by simp [binOp, Op.intArith, still]; rfl) rfl
theorem bin_sub : bin P .sub t (.int k x) (.int k y) = some (.int k (k.wrap (x - y))) := bin_int (by simp [binOp, Op.intArith, still]; rfl) rfl
theorem bin_mul : bin P .mul t (.int k x) (.int k y) = some (.int k (k.wrap (x * y))) := bin_int (by simp [binOp, Op.intArith, still]; rfl) rfl
theorem bin_lss : bin P .lss t (.int k x) (.int k y) = some (.bool (decide (x < y))) := bin_int (by simp [binOp, Op.intCmp, still]; rfl) rfl
theorem bin_leq : bin P .leq t (.int k x) (.int k y) = some (.bool (decide (x ≤ y))) := bin_int (by simp [binOp, Op.intCmp, still]; rfl) rfl
theorem bin_gtr : bin P .gtr t (.int k x) (.int k y) = some (.bool (decide (y < x))) := bin_int (by simp [binOp, Op.intCmp, still]; rfl) rfl
theorem bin_geq : bin P .geq t (.int k x) (.int k y) = some (.bool (decide (y ≤ x))) := bin_int (by simp [binOp, Op.intCmp, still]; rfl) rfl
theorem bin_eql : bin P .eql t (.int k x) (.int k y) = some (.bool (decide (x = y))) := bin_int (by simp [binOp, Op.intCmp, still]; rfl) rfl
theorem bin_neq : bin P .neq t (.int k x) (.int k y) = some (.bool (decide (x ≠ y))) := bin_int (by simp [binOp, Op.intCmp, still]; rfl) rfl
theorem bin_quo (h : y ≠ 0) : bin P .quo t (.int k x) (.int k y) = some (.int k (k.wrap (x.tdiv y))) := bin_int (by simp [binOp, Op.intDiv, still, h]; rfl) rfl
theorem bin_rem (h : y ≠ 0) : bin P .rem t (.int k x) (.int k y) = some (.int k (x.tmod y)) := bin_int (by simp [binOp, Op.intDiv, still, h]; rfl) rfl
theorem bin_shl {k' : IntKind} (h : 0 ≤ y) : bin P .shl t (.int k x) (.int k' y) = some (.int k (k.wrap (x * 2 ^ (min y.toNat k.bits)))) := by
  unfold bin; rw [if_pos ⟨rfl, rfl, rfl⟩]
  simp only [binOp, Op.shift, if_neg (show ¬ y < 0 by omega)]; rfl
theorem bin_shr {k' : IntKind} (h : 0 ≤ y) : bin P .shr t (.int k x) (.int k' y) = some (.int k (x.fdiv (2 ^ (min y.toNat k.bits)))) := by
  unfold bin; rw [if_pos ⟨rfl, rfl, rfl⟩]
  simp only [binOp, Op.shift, if_neg (show ¬ y < 0 by omega)]; rfl
theorem bin_and : bin P .and t (.int k x) (.int k y) = some (.int k (k.wrap (BitVec.ofInt k.bits x &&& BitVec.ofInt k.bits y).toNat)) := bin_int (by simp [binOp, Op.intBits, still]; rfl) rfl
theorem bin_or : bin P .or t (.int k x) (.int k y) = some (.int k (k.wrap (BitVec.ofInt k.bits x ||| BitVec.ofInt k.bits y).toNat)) := bin_int (by simp [binOp, Op.intBits, still]; rfl) rfl
theorem un_not {b : Bool} : un P .not (.bool b) = some (.bool !b) := rfl
theorem un_neg : un P .neg (.int k x) = some (.int k (k.wrap (0 - x))) := by simp [un, flat1, Op.unary, Op.intArith, still]; rfl
end
end Go.AM
set_option linter.unusedVariables false
namespace Go.AM
def val : List Nat → Nat
  | [] => 0
  | x :: xs => x + 4294967296 * val xs
def small (xs : List Nat) : Prop := ∀ x, x ∈ xs → x < 4294967296
theorem small.tail {x : Nat} {xs : List Nat} (h : small (x :: xs)) : small xs := fun y hy => h y (.tail _ hy)
theorem small.head {x : Nat} {xs : List Nat} (h : small (x :: xs)) : x < 4294967296 := h x (.head _)
theorem small.append {xs ys : List Nat} (h : small xs) (h' : small ys) : small (xs ++ ys) := fun x hx => (List.mem_append.mp hx).elim (h x) (h' x)
theorem small.take {xs : List Nat} (h : small xs) (n : Nat) : small (xs.take n) := fun x hx => h x (List.mem_of_mem_take hx)
theorem small.drop {xs : List Nat} (h : small xs) (n : Nat) : small (xs.drop n) := fun x hx => h x (List.mem_of_mem_drop hx)
theorem small.set {xs : List Nat} (h : small xs) (n : Nat) {y : Nat} (hy : y < 4294967296) : small (xs.set n y) := fun x hx => (List.mem_or_eq_of_mem_set hx).elim (h x) fun e => e ▸ hy
theorem small.getD {xs : List Nat} (h : small xs) (i : Nat) : xs.getD i 0 < 4294967296 := by
  by_cases hi : i < xs.length
  · rw [List.getD_eq_getElem?_getD, List.getElem?_eq_getElem hi]; exact h _ (List.getElem_mem hi)
  · rw [List.getD_eq_getElem?_getD, List.getElem?_eq_none (by omega)]; decide
end Go.AM
set_option linter.unusedVariables false
set_option linter.unusedSimpArgs false
namespace Go.AM
variable {α β R : Type} {P : Program} {t : TypeId} {x y : Int}
theorem wrap64 {n : Int} (h : -9223372036854775808 ≤ n ∧ n < 9223372036854775808) : IntKind.i64.wrap n = n := by
  simp only [IntKind.wrap, IntKind.bits, IntKind.signed]; simp; omega
theorem wrapu64 {n : Int} : IntKind.u64.wrap n = n % 18446744073709551616 := by
  simp only [IntKind.wrap, IntKind.bits, IntKind.signed]; simp
theorem wrapu32 {n : Int} : IntKind.u32.wrap n = n % 4294967296 := by
  simp only [IntKind.wrap, IntKind.bits, IntKind.signed]; simp
theorem wrapu8 {n : Int} : IntKind.u8.wrap n = n % 256 := by
  simp only [IntKind.wrap, IntKind.bits, IntKind.signed]; simp
theorem bin_add64 (h : -9223372036854775808 ≤ x + y ∧ x + y < 9223372036854775808) : bin P .add t (.int .i64 x) (.int .i64 y) = some (.int .i64 (x + y)) := by rw [bin_add, wrap64 h]
theorem bin_sub64 (h : -9223372036854775808 ≤ x - y ∧ x - y < 9223372036854775808) : bin P .sub t (.int .i64 x) (.int .i64 y) = some (.int .i64 (x - y)) := by rw [bin_sub, wrap64 h]
theorem bin_mul64 (h : -9223372036854775808 ≤ x * y ∧ x * y < 9223372036854775808) : bin P .mul t (.int .i64 x) (.int .i64 y) = some (.int .i64 (x * y)) := by rw [bin_mul, wrap64 h]
theorem lenV_sl {e : TypeId} {p : Option Addr} {n c : Nat} (h : P.underlying t = some (.slice e)) : lenV P t (.slice p n c) = some (.int .i64 (n : Nat)) := by unfold lenV; rw [h]
theorem cv_int {s d : TypeId} {D : TypeDesc} {k k' : IntKind} (hs : P.underlying s = some D) (h : P.underlying d = some (.int k)) : cv P s d (.int k' x) = some (.int k (k.wrap x)) := by unfold cv; rw [hs, h]

def Sc (B : AH) (v : Value) (cs : List Value) : Prop :=
  (v = .slice none 0 0 ∧ cs = []) ∨ ∃ b off cap, v = sl b off cs.length cap ∧ cs.length ≤ cap ∧ (cs = [] ∨ ∃ K, blk B b = some K ∧ rdN K off cs.length = some cs)
theorem Sc.mono {B B' : AH} {v : Value} {cs : List Value} (hm : Mo B B') (h : Sc B v cs) : Sc B' v cs := by
  rcases h with h | ⟨b, off, cap, h1, hc, h2⟩
  · exact .inl h
  · exact .inr ⟨b, off, cap, h1, hc, h2.imp id fun ⟨K, h3, h4⟩ => ⟨K, hm _ _ h3, h4⟩⟩
theorem Sc.nil {B : AH} : Sc B (.slice none 0 0) [] := .inl ⟨rfl, rfl⟩
theorem rdN_some {K : Blk} {off n : Nat} {cs : List Value} (h : rdN K off n = some cs) : off + n ≤ K.cells.length ∧ cs = (K.cells.drop off).take n := by
  unfold rdN at h; split at h
  · exact ⟨by assumption, (Option.some.inj h).symm⟩
  · cases h
theorem rdN_get {K : Blk} {off n i : Nat} {cs : List Value} (h : rdN K off n = some cs) (hi : i < n) : K.cells[off + i]? = cs[i]? := by
  obtain ⟨h1, rfl⟩ := rdN_some h
  rw [List.getElem?_take_of_lt hi, List.getElem?_drop]
theorem Sc.len {B : AH} {v : Value} {cs : List Value} {e : TypeId} (hU : P.underlying t = some (.slice e)) (h : Sc B v cs) : lenV P t v = some (.int .i64 (cs.length : Nat)) := by
  rcases h with ⟨rfl, rfl⟩ | ⟨b, off, cap, rfl, _, _⟩
  · exact lenV_sl hU
  · exact lenV_sl hU
theorem ixA_sl {e : TypeId} {b off len cap : Nat} {k : IntKind} (hU : P.underlying t = some (.slice e)) (hI : (P.info? e).isSome = true) (hz : szT P e = 1) (h : 0 ≤ x ∧ x < len) :
    ixA P t (sl b off len cap) (.int k x) = some (ptr b (off + x.toNat)) := by
  unfold ixA sl; rw [hU]; simp only; rw [if_pos ⟨hI, h.1, by omega⟩, hz, Nat.mul_one]
theorem Sc.ix {B : AH} {v : Value} {cs : List Value} {e : TypeId} {k : IntKind} (hU : P.underlying t = some (.slice e)) (hI : (P.info? e).isSome = true) (hz : szT P e = 1) (ha : aggT P e = some false) (h : Sc B v cs)
    (h0 : 0 ≤ x ∧ x < cs.length) : ∃ p, ixA P t v (.int k x) = some p ∧ ∀ H', (∀ b K, blk B b = some K → blk H' b = some K) → ld P e H' p = cs[x.toNat]? := by
  rcases h with ⟨rfl, rfl⟩ | ⟨b, off, cap, rfl, hc, h⟩
  · exact absurd h0.2 (by simp; omega)
  · refine ⟨_, ixA_sl hU hI hz h0, fun H' hH => ?_⟩
    rcases h with rfl | ⟨K, h1, h2⟩
    · exact absurd h0.2 (by simp; omega)
    · rw [ld_blk (hH _ _ h1), ldK, ha]
      exact rdN_get h2 (by omega)
/-- To its end. -/
theorem Sc.from {B : AH} {v : Value} {cs : List Value} {e : TypeId} {k : IntKind} (hU : P.underlying t = some (.slice e)) (hI : (P.info? e).isSome = true) (hz : szT P e = 1) (h : Sc B v cs) (h0 : 0 ≤ x ∧ x ≤ cs.length) :
    ∃ v', slc P t v (some (.int k x)) none = some v' ∧ Sc B v' (cs.drop x.toNat) := by
  rcases h with ⟨rfl, rfl⟩ | ⟨b, off, cap, rfl, hc, h⟩
  · have : x = 0 := by simp at h0; omega
    subst this
    exact ⟨.slice none 0 0, by unfold slc; rw [hU]; simp [intOr, hI], .inl ⟨rfl, rfl⟩⟩
  · refine ⟨sl b (if cap = x.toNat then off else off + x.toNat) (cs.drop x.toNat).length (cap - x.toNat), ?_, .inr ⟨b, _, _, rfl, by rw [List.length_drop]; omega, ?_⟩⟩
    · unfold slc sl; rw [hU]; simp only [intOr, Option.bind_some]
      rw [if_pos ⟨hI, by omega, by omega, by omega⟩, hz, Nat.mul_one]
      simp
    · by_cases hd : cs.drop x.toNat = []
      · exact .inl hd
      rcases h with rfl | ⟨K, h1, h2⟩
      · exact .inl (by simp)
      · refine .inr ⟨K, h1, ?_⟩
        obtain ⟨h3, h4⟩ := rdN_some h2
        have hl : x.toNat < cs.length := Nat.lt_of_not_le fun hh => hd (List.drop_eq_nil_of_le hh)
        rw [if_neg (by omega), rdN, List.length_drop, if_pos (by omega)]
        conv => rhs; rw [h4]
        rw [List.drop_take, List.drop_drop]

/-- Digits. -/
abbrev u32 (n : Nat) : Value := .int .u32 (n : Int)
class RdN (B : outParam AH) (v : Value) (xs : outParam (List Nat)) : Prop where
  sc : Sc B v (xs.map u32)
  sm : small xs
theorem RdN.mono {B B' : AH} {v : Value} {xs : List Nat} (hm : Mo B B') (h : RdN B v xs) : RdN B' v xs := ⟨h.1.mono hm, h.2⟩
theorem RdN.nil {B : AH} : RdN B (.slice none 0 0) [] := ⟨Sc.nil, fun _ h => absurd h List.not_mem_nil⟩
theorem RdN.len {B : AH} {v : Value} {xs : List Nat} {e : TypeId} (hU : P.underlying t = some (.slice e)) (h : RdN B v xs) : lenV P t v = some (.int .i64 (xs.length : Nat)) := by
  have := h.1.len hU; rwa [List.length_map] at this
theorem RdN.ix {B : AH} {v : Value} {xs : List Nat} {e : TypeId} {k : IntKind} (hU : P.underlying t = some (.slice e)) (hI : (P.info? e).isSome = true) (hz : szT P e = 1) (ha : aggT P e = some false) (h : RdN B v xs)
    (h0 : 0 ≤ x ∧ x < xs.length) : ∃ p, ixA P t v (.int k x) = some p ∧ ∀ H', Mo B H' → ld P e H' p = some (u32 (xs.getD x.toNat 0)) := by
  obtain ⟨p, h1, h2⟩ := h.1.ix (k := k) hU hI hz ha (by rw [List.length_map]; exact h0)
  refine ⟨p, h1, fun H' hH => ?_⟩
  rw [h2 H' hH, List.getElem?_map, List.getElem?_eq_getElem (by omega), List.getD_eq_getElem?_getD, List.getElem?_eq_getElem (by omega)]; rfl
end Go.AM
set_option linter.unusedVariables false
set_option linter.unusedSimpArgs false
namespace Go.AM
variable {α β R : Type} {P : Program} {t u e : TypeId} {z : Value} {sz : Nat} {x y : Int}
/-- What append makes of such elements. -/
def gkz : Value → BK
  | .int .u8 _ => .buf
  | _ => .grow
theorem gkz_gr (z : Value) : gkz z = .grow ∨ gkz z = .buf := by
  unfold gkz
  split
  · exact .inr rfl
  · exact .inl rfl
/-- A type of slices of single cells. -/
class Elt (P : Program) (t : TypeId) (e : outParam TypeId) (z : outParam Value) (sz : outParam Nat) : Prop where
  U : P.underlying t = some (.slice e)
  I : (P.info? e).isSome = true
  S : szT P e = 1
  A : aggT P e = some false
  Z : zeroT P e = some z
  Y : byT P e = sz
  zc : isCell z = true
  zn : z.cells.toList = [z]
  K : gk P e = gkz z
theorem rep_one (z : Value) (n : Nat) : rep [z] n = List.replicate n z := by
  induction n with
  | zero => rfl
  | succ n ih => rw [rep, ih]; rfl
theorem size_cells {z : Value} (h : z.cells.toList = [z]) : z.cells.size = 1 := by rw [← Array.length_toList, h]; rfl
theorem okCells_of {z : Value} (h : isCell z = true) : okCells z = true := by
  cases z with
  | agg cs => exact absurd h (by simp [isCell])
  | _ => exact h

theorem Ev.mkS {H0 B0 B L H} {m : Nat} {f : Nat → Nat → Value → AH → Option R} {Q : R → Prop} (hE : Elt P t e z sz) (hS : St H0 B0 B L H) (hm : m * sz ≤ 281474976710656) (hm' : m ≤ 9223372036854775807)
    (h : ∀ b B' H', Mo B B' → St H0 B0 B' ((b, ⟨List.replicate m z, e, .fix⟩) :: L) H' → Ev (fun k n => f k n (sl b 0 m m) H') Q) :
    Ev (fun k n => Go.AM.b2 (Go.AM.mkS P t H (.int .i64 (m : Int)) (.int .i64 (m : Int))) (f k n)) Q := by
  obtain ⟨B', hm1, hS'⟩ := hS.mkB (List.replicate m z) e .fix
  refine Ev.prim2 ?_ (h H.length B' _ hm1 hS')
  unfold Go.AM.mkS
  rw [hE.U]; simp only [hE.Z, hE.Y, hE.S, hE.zn, Option.bind_some, rep_one]
  rw [if_pos ⟨by omega, by omega, by omega, by omega, size_cells hE.zn, okCells_of hE.zc⟩]
  simp
theorem Ev.buildS {H0 B0 B L H} {m : Nat} {parts : List (Nat × Value)} {cs : List Value} {f : Nat → Nat → Value → AH → Option R} {Q : R → Prop} (hE : Elt P t e z sz) (hS : St H0 B0 B L H) (hm : m ≤ 16777216)
    (hf : fillB (fun i => some (i * 1, 1)) (List.replicate m z) parts = some cs)
    (h : ∀ b B' H', Mo B B' → St H0 B0 B' ((b, ⟨cs, e, .fix⟩) :: L) H' → Ev (fun k n => f k n (sl b 0 m m) H') Q) :
    Ev (fun k n => Go.AM.b2 (Go.AM.buildS P t H m parts) (f k n)) Q := by
  obtain ⟨B', hm1, hS'⟩ := hS.mkB cs e .fix
  refine Ev.prim2 ?_ (h H.length B' _ hm1 hS')
  unfold Go.AM.buildS
  rw [hE.U]; simp only [hE.Z, hE.S, hE.zn, Option.bind_some, rep_one]
  rw [if_pos ⟨by omega, size_cells hE.zn⟩, hf]; rfl

theorem sliceCells_of {H : AH} {v : Value} {cs : List Value} (h : Sc H v cs) : sliceCells 1 H v cs.length = some cs := by
  rcases h with ⟨rfl, rfl⟩ | ⟨b, off, cap, rfl, hc, h⟩
  · rfl
  · show (if cs.length = 0 then some [] else if cs.length ≤ cs.length then (blk H b).bind fun k => rdN k off (cs.length * 1) else none) = some cs
    by_cases hn : cs.length = 0
    · rw [if_pos hn, List.length_eq_zero_iff.mp hn]
    · rw [if_neg hn, if_pos (Nat.le_refl _)]
      rcases h with rfl | ⟨K, h1, h2⟩
      · exact absurd rfl hn
      · rw [h1, Option.bind_some, Nat.mul_one, h2]
theorem lenOf_of {H : AH} {v : Value} {cs : List Value} (h : Sc H v cs) : lenOf v = some cs.length := by
  rcases h with ⟨rfl, rfl⟩ | ⟨b, off, cap, rfl, hc, h⟩ <;> rfl
theorem isNotStr_of {H : AH} {v : Value} {cs : List Value} (h : Sc H v cs) : isNotStr v = true := by
  rcases h with ⟨rfl, rfl⟩ | ⟨b, off, cap, rfl, hc, h⟩ <;> rfl
theorem ap_eq {u' : TypeId} {H : AH} {s v : Value} {ds : List Value} (hE : Elt P t e z sz) (hu : P.underlying u = some (.slice u')) (hx : Sc H v ds) (hd : ds.all isCell = true) :
    ap P t u H s v = apS (gkz z) 1 sz e H s ds.length ds := by
  unfold ap
  rw [hE.U, hu]
  simp only [hE.Z, hE.S, hE.Y, hE.K, Option.bind_some]
  rw [if_pos ⟨by omega, size_cells hE.zn, isNotStr_of hx⟩, lenOf_of hx, Option.bind_some, sliceCells_of hx, Option.bind_some, if_pos hd]
/-- Onto what has no room. -/
theorem Ev.apNew {H0 B0 B L H} {u' : TypeId} {s v : Value} {ds : List Value} {f : Nat → Nat → Value → AH → Option R} {Q : R → Prop} (hE : Elt P t e z sz) (hu : P.underlying u = some (.slice u')) (hS : St H0 B0 B L H)
    (hs : s = .slice none 0 0 ∨ ∃ b off n, s = sl b off n 0) (hx : Sc H v ds) (hd : ds.all isCell = true) (hn : ds ≠ []) (hl : ds.length * sz ≤ 140737488355328 ∧ ds.length ≤ 9223372036854775807)
    (h : ∀ b B' H', Mo B B' → St H0 B0 B' ((b, ⟨ds, e, gkz z⟩) :: L) H' → Ev (fun k n => f k n (sl b 0 ds.length (ds.length + 1)) H') Q) :
    Ev (fun k n => Go.AM.b2 (Go.AM.ap P t u H s v) (f k n)) Q := by
  obtain ⟨B', hm1, hS'⟩ := hS.mkB ds e (gkz z)
  refine Ev.prim2 ?_ (h H.length B' _ hm1 hS')
  rw [ap_eq hE hu hx hd]
  have hn' : ds.length ≠ 0 := fun e => hn (List.length_eq_zero_iff.mp e)
  rcases hs with rfl | ⟨b, off, n, rfl⟩
  · simp only [apS, if_neg hn', if_pos hl]
  · simp only [apS, sl, if_neg hn', if_pos hl, if_true]
/-- Onto what is full. -/
theorem Ev.apFull {H0 B0 B L H} {u' : TypeId} {b : Nat} {cs : List Value} {v : Value} {ds : List Value} {f : Nat → Nat → Value → AH → Option R} {Q : R → Prop} (hE : Elt P t e z sz) (hu : P.underlying u = some (.slice u')) (hS : St H0 B0 B L H)
    (hb : blk H b = some ⟨cs, e, .fix⟩) (hc : cs ≠ []) (hx : Sc H v ds) (hd : ds.all isCell = true) (hn : ds ≠ []) (hl : (cs.length + ds.length) * sz ≤ 140737488355328 ∧ cs.length + ds.length ≤ 9223372036854775807)
    (h : ∀ b B' H', Mo B B' → St H0 B0 B' ((b, ⟨cs ++ ds, e, gkz z⟩) :: L) H' → Ev (fun k n => f k n (sl b 0 (cs ++ ds).length ((cs ++ ds).length + 1)) H') Q) :
    Ev (fun k n => Go.AM.b2 (Go.AM.ap P t u H (sl b 0 cs.length cs.length) v) (f k n)) Q := by
  obtain ⟨B', hm1, hS'⟩ := hS.mkB (cs ++ ds) e (gkz z)
  refine Ev.prim2 ?_ (h H.length B' _ hm1 hS')
  rw [ap_eq hE hu hx hd]
  have hn' : ds.length ≠ 0 := fun e => hn (List.length_eq_zero_iff.mp e)
  have hc' : cs.length ≠ 0 := fun e => hc (List.length_eq_zero_iff.mp e)
  simp only [apS, sl, if_neg hn', if_neg hc', hb, Option.bind_some, rdN, Nat.mul_one, Nat.zero_add, Nat.le_refl, if_true, List.drop_zero, List.take_length, hl, and_self, List.length_append]
  rw [if_neg (by omega)]
/-- Onto what was grown. -/
theorem Ev.apGrow {H0 B0 B L H} {u' : TypeId} {b cap : Nat} {cs : List Value} {v : Value} {ds : List Value} {f : Nat → Nat → Value → AH → Option R} {Q : R → Prop} (hE : Elt P t e z sz) (hu : P.underlying u = some (.slice u'))
    (hS : St H0 B0 B ((b, ⟨cs, e, gkz z⟩) :: L) H) (hc : cap ≠ 0) (hx : Sc H v ds) (hd : ds.all isCell = true) (hn : ds ≠ []) (hl : (cs.length + ds.length) * sz ≤ 140737488355328 ∧ cs.length + ds.length ≤ 9223372036854775807)
    (h : ∀ b B' H', Mo B B' → St H0 B0 B' ((b, ⟨cs ++ ds, e, gkz z⟩) :: L) H' → Ev (fun k n => f k n (sl b 0 (cs ++ ds).length ((cs ++ ds).length + 1)) H') Q) :
    Ev (fun k n => Go.AM.b2 (Go.AM.ap P t u H (sl b 0 cs.length cap) v) (f k n)) Q := by
  have hb := hS.get (.head _)
  obtain ⟨B', hm1, hS'⟩ := hS.kill.mkB (cs ++ ds) e (gkz z)
  rw [length_kill] at hS'
  refine Ev.prim2 ?_ (h H.length B' _ hm1 hS')
  rw [ap_eq hE hu hx hd]
  have hn' : ds.length ≠ 0 := fun e => hn (List.length_eq_zero_iff.mp e)
  rcases gkz_gr z with hg | hg <;>
    simp only [apS, sl, if_neg hn', if_neg hc, hb, hg, Option.bind_some, rdN, Nat.mul_one, Nat.zero_add, Nat.le_refl, if_true, List.drop_zero, List.take_length, hl, and_self, List.length_append]

theorem St.sc {H0 B0 B L H} {b cap : Nat} {cs : List Value} {kd : BK} (hS : St H0 B0 B L H) (hm : (b, ⟨cs, e, kd⟩) ∈ L) (hc : cs.length ≤ cap) : Sc H (sl b 0 cs.length cap) cs :=
  .inr ⟨b, 0, cap, rfl, hc, .inr ⟨_, hS.get hm, by simp [rdN]⟩⟩
theorem Sc.up {B H : AH} {v : Value} {cs : List Value} (h : Sc B v cs) (hL : Mo B H) : Sc H v cs := h.mono hL
/-- Nobody changes it any more. -/
theorem St.freezeSc {H0 B0 B L H} {b cap : Nat} {cs : List Value} {kd : BK} (hS : St H0 B0 B ((b, ⟨cs, e, kd⟩) :: L) H) (hc : cs.length ≤ cap) : ∃ B', Mo B B' ∧ Sc B' (sl b 0 cs.length cap) cs ∧ St H0 B0 B' L H := by
  obtain ⟨B', h1, h2, h3⟩ := hS.freeze
  exact ⟨B', h1, .inr ⟨b, 0, cap, rfl, hc, .inr ⟨_, h2, by simp [rdN]⟩⟩, h3⟩

theorem ixA_own {b off len cap : Nat} {k : IntKind} {i : Nat} (hE : Elt P t e z sz) (h : i < len) : ixA P t (sl b off len cap) (.int k (i : Int)) = some (ptr b (off + i)) := by
  rw [ixA_sl hE.U hE.I hE.S (by omega)]; simp
theorem stK_own {cs : List Value} {i : Nat} {v : Value} (hE : Elt P t e z sz) (h : i < cs.length) (hv : isCell v = true) : stK P e cs i v = some (cs.set i v) := by
  unfold stK; rw [hE.A]; simp only; rw [if_pos ⟨hE.S, h, hv⟩]
theorem St.freezeN {H0 B0 B L H} {b cap n : Nat} {xs : List Nat} {kd : BK} (hS : St H0 B0 B ((b, ⟨xs.map u32, e, kd⟩) :: L) H) (hs : small xs) (hn : n = xs.length) (hc : xs.length ≤ cap) : ∃ B', Mo B B' ∧ RdN B' (sl b 0 n cap) xs ∧ St H0 B0 B' L H := by
  obtain ⟨B', h1, h2, h3⟩ := hS.freezeSc (cap := cap) (by rw [List.length_map]; exact hc)
  rw [List.length_map, ← hn] at h2
  exact ⟨B', h1, ⟨h2, hs⟩, h3⟩
theorem all_u32 (xs : List Nat) : (xs.map u32).all isCell = true := by simp [isCell]
end Go.AM
set_option linter.unusedVariables false
set_option linter.unusedSimpArgs false
namespace Go.AM
variable {α β R : Type} {P : Program} {t s d : TypeId} {a b : Nat}
abbrev i64 (n : Nat) : Value := .int .i64 (n : Int)
abbrev u64 (n : Nat) : Value := .int .u64 (n : Int)
abbrev u8 (n : Nat) : Value := .int .u8 (n : Int)
theorem addN (h : a + b < 9223372036854775808) : bin P .add t (i64 a) (i64 b) = some (i64 (a + b)) := by rw [bin_add64 (by omega)]; rfl
theorem subN (h : b ≤ a ∧ a < 9223372036854775808) : bin P .sub t (i64 a) (i64 b) = some (i64 (a - b)) := by rw [bin_sub64 (by omega), show ((a : Int) - (b : Int)) = ((a - b : Nat) : Int) by omega]
theorem mulN (h : a * b < 9223372036854775808) : bin P .mul t (i64 a) (i64 b) = some (i64 (a * b)) := by
  rw [bin_mul64 (by rw [← Int.natCast_mul]; omega), ← Int.natCast_mul]
theorem lssN {k : IntKind} : bin P .lss t (.int k (a : Int)) (.int k (b : Int)) = some (.bool (decide (a < b))) := by rw [bin_lss]; simp
theorem leqN {k : IntKind} : bin P .leq t (.int k (a : Int)) (.int k (b : Int)) = some (.bool (decide (a ≤ b))) := by rw [bin_leq]; simp
theorem gtrN {k : IntKind} : bin P .gtr t (.int k (a : Int)) (.int k (b : Int)) = some (.bool (decide (b < a))) := by rw [bin_gtr]; simp
theorem geqN {k : IntKind} : bin P .geq t (.int k (a : Int)) (.int k (b : Int)) = some (.bool (decide (b ≤ a))) := by rw [bin_geq]; simp
theorem eqlN {k : IntKind} : bin P .eql t (.int k (a : Int)) (.int k (b : Int)) = some (.bool (decide (a = b))) := by
  rw [bin_eql]; congr 2; exact decide_eq_decide.mpr (by omega)
theorem neqN {k : IntKind} : bin P .neq t (.int k (a : Int)) (.int k (b : Int)) = some (.bool (decide (a ≠ b))) := by
  rw [bin_neq]; congr 2; exact decide_eq_decide.mpr (by omega)
theorem quoN (h : b ≠ 0 ∧ a < 9223372036854775808) : bin P .quo t (i64 a) (i64 b) = some (i64 (a / b)) := by
  rw [bin_quo (by omega)]
  have e : (a : Int).tdiv (b : Int) = ((a / b : Nat) : Int) := by rw [Int.tdiv_eq_ediv_of_nonneg (by omega)]; omega
  have : a / b ≤ a := Nat.div_le_self ..
  rw [e]; generalize a / b = q at this ⊢; rw [wrap64 (by omega)]
theorem remN {k : IntKind} (h : b ≠ 0) : bin P .rem t (.int k (a : Int)) (.int k (b : Int)) = some (.int k ((a % b : Nat) : Int)) := by
  rw [bin_rem (by omega)]
  have e : (a : Int).tmod (b : Int) = ((a % b : Nat) : Int) := by rw [Int.tmod_eq_emod_of_nonneg (by omega)]; omega
  rw [e]
theorem quoQ (h : b ≠ 0 ∧ a < 18446744073709551616) : bin P .quo t (u64 a) (u64 b) = some (u64 (a / b)) := by
  rw [bin_quo (by omega)]
  have e : (a : Int).tdiv (b : Int) = ((a / b : Nat) : Int) := by rw [Int.tdiv_eq_ediv_of_nonneg (by omega)]; omega
  have : a / b ≤ a := Nat.div_le_self ..
  rw [e]; generalize a / b = q at this ⊢; rw [wrapu64, show (q : Int) % 18446744073709551616 = (q : Int) by omega]
theorem addQ (h : a + b < 18446744073709551616) : bin P .add t (u64 a) (u64 b) = some (u64 (a + b)) := by
  rw [bin_add, wrapu64, show ((a : Int) + (b : Int)) % 18446744073709551616 = ((a + b : Nat) : Int) by omega]
theorem subQ (h : b ≤ a ∧ a < 18446744073709551616) : bin P .sub t (u64 a) (u64 b) = some (u64 (a - b)) := by
  rw [bin_sub, wrapu64, show ((a : Int) - (b : Int)) % 18446744073709551616 = ((a - b : Nat) : Int) by omega]
theorem mulQ (h : a * b < 18446744073709551616) : bin P .mul t (u64 a) (u64 b) = some (u64 (a * b)) := by
  rw [bin_mul, wrapu64, ← Int.natCast_mul, show ((a * b : Nat) : Int) % 18446744073709551616 = ((a * b : Nat) : Int) by omega]
theorem toU64 {D : TypeDesc} {k : IntKind} (h : a < 18446744073709551616) (hs : P.underlying s = some D) (hd : P.underlying d = some (.int .u64)) : cv P s d (.int k (a : Int)) = some (u64 a) := by
  rw [cv_int hs hd, wrapu64, show (a : Int) % 18446744073709551616 = (a : Int) by omega]
theorem toU32 {D : TypeDesc} {k : IntKind} (hs : P.underlying s = some D) (hd : P.underlying d = some (.int .u32)) : cv P s d (.int k (a : Int)) = some (u32 (a % 4294967296)) := by
  rw [cv_int hs hd, wrapu32]; rfl
theorem toU8 {D : TypeDesc} {k : IntKind} (hs : P.underlying s = some D) (hd : P.underlying d = some (.int .u8)) : cv P s d (.int k (a : Int)) = some (u8 (a % 256)) := by
  rw [cv_int hs hd, wrapu8]; rfl
theorem toI64 {D : TypeDesc} {k : IntKind} (h : a < 9223372036854775808) (hs : P.underlying s = some D) (hd : P.underlying d = some (.int .i64)) : cv P s d (.int k (a : Int)) = some (i64 a) := by
  rw [cv_int hs hd, wrap64 (by omega)]
theorem shrN {k k' : IntKind} (h : b < k.bits) : bin P .shr t (.int k (a : Int)) (.int k' (b : Int)) = some (.int k ((a / 2 ^ b : Nat) : Int)) := by
  rw [bin_shr (by omega), show min (b : Int).toNat k.bits = b by rw [Int.toNat_natCast]; omega, Int.fdiv_eq_ediv_of_nonneg _ (by exact Int.le_of_lt (Int.pow_pos (by decide)))]
  rw [Int.natCast_ediv, Int.natCast_pow]; rfl
theorem andW (h : a < 4294967296 ∧ b < 4294967296) : bin P .and t (u32 a) (u32 b) = some (u32 (a &&& b)) := by
  rw [bin_and]
  have e : (BitVec.ofInt IntKind.u32.bits (a : Int) &&& BitVec.ofInt IntKind.u32.bits (b : Int)).toNat = a &&& b := by
    rw [BitVec.toNat_and, BitVec.ofInt_natCast, BitVec.ofInt_natCast, BitVec.toNat_ofNat, BitVec.toNat_ofNat, show 2 ^ IntKind.u32.bits = 4294967296 from rfl, Nat.mod_eq_of_lt h.1, Nat.mod_eq_of_lt h.2]
  have : a &&& b ≤ a := Nat.and_le_left
  rw [e, wrapu32, show ((a &&& b : Nat) : Int) % 4294967296 = ((a &&& b : Nat) : Int) by omega]
theorem xorW (h : a < 4294967296 ∧ b < 4294967296) : bin P .xor t (u32 a) (u32 b) = some (u32 (a ^^^ b)) := by
  have h0 : bin P .xor t (u32 a) (u32 b) = some (.int .u32 (IntKind.u32.wrap (BitVec.ofInt IntKind.u32.bits (a : Int) ^^^ BitVec.ofInt IntKind.u32.bits (b : Int)).toNat)) := bin_int (by simp [binOp, Op.intBits, still]; rfl) rfl
  rw [h0]
  have e : (BitVec.ofInt IntKind.u32.bits (a : Int) ^^^ BitVec.ofInt IntKind.u32.bits (b : Int)).toNat = a ^^^ b := by
    rw [BitVec.toNat_xor, BitVec.ofInt_natCast, BitVec.ofInt_natCast, BitVec.toNat_ofNat, BitVec.toNat_ofNat, show 2 ^ IntKind.u32.bits = 4294967296 from rfl, Nat.mod_eq_of_lt h.1, Nat.mod_eq_of_lt h.2]
  have : a ^^^ b < 2 ^ 32 := Nat.xor_lt_two_pow h.1 h.2
  rw [e, wrapu32, show ((a ^^^ b : Nat) : Int) % 4294967296 = ((a ^^^ b : Nat) : Int) by omega]
theorem notW (h : a < 4294967296) : un P .xor (u32 a) = some (u32 (4294967295 ^^^ a)) := by
  have h0 : un P .xor (u32 a) = some (.int .u32 (IntKind.u32.wrap (BitVec.ofInt IntKind.u32.bits (4294967295 : Int) ^^^ BitVec.ofInt IntKind.u32.bits (a : Int)).toNat)) := by
    simp only [un, flat1, Op.unary, Op.intBits, still, if_true]; rfl
  rw [h0]
  have e : (BitVec.ofInt IntKind.u32.bits (4294967295 : Int) ^^^ BitVec.ofInt IntKind.u32.bits (a : Int)).toNat = 4294967295 ^^^ a := by
    rw [BitVec.toNat_xor, BitVec.ofInt_natCast, BitVec.toNat_ofNat, show 2 ^ IntKind.u32.bits = 4294967296 from rfl, Nat.mod_eq_of_lt h]; rfl
  have : 4294967295 ^^^ a < 2 ^ 32 := Nat.xor_lt_two_pow (by decide) h
  rw [e, wrapu32, show ((4294967295 ^^^ a : Nat) : Int) % 4294967296 = ((4294967295 ^^^ a : Nat) : Int) by omega]
def Pu (H : AH) (Post : Value → Prop) (r : Value × AH) : Prop := ∃ v, r = (v, H) ∧ Post v
theorem Pu.an {B H : AH} {Post : Value → Prop} {g : Nat → Nat → Option (Value × AH)} (hL : Le B H) (h : Ev g (Pu H Post)) : Ev g (An B H fun _ => Post) :=
  h.mono fun r ⟨v, e, hv⟩ => by subst e; exact (St.start hL).an hv
end Go.AM
set_option linter.unusedVariables false
namespace Go.AM
variable {α β R : Type} {P : Program} {t s d : TypeId} {a n : Nat}
section
variable {k : IntKind}
theorem lssL : bin P .lss t (.int k (a : Int)) (.int k (@OfNat.ofNat Int n instOfNat)) = some (.bool (decide (a < @OfNat.ofNat Nat n (instOfNatNat n)))) := lssN
theorem leqL : bin P .leq t (.int k (a : Int)) (.int k (@OfNat.ofNat Int n instOfNat)) = some (.bool (decide (a ≤ @OfNat.ofNat Nat n (instOfNatNat n)))) := leqN
theorem gtrL : bin P .gtr t (.int k (a : Int)) (.int k (@OfNat.ofNat Int n instOfNat)) = some (.bool (decide (@OfNat.ofNat Nat n (instOfNatNat n) < a))) := gtrN
theorem geqL : bin P .geq t (.int k (a : Int)) (.int k (@OfNat.ofNat Int n instOfNat)) = some (.bool (decide (@OfNat.ofNat Nat n (instOfNatNat n) ≤ a))) := geqN
theorem eqlL : bin P .eql t (.int k (a : Int)) (.int k (@OfNat.ofNat Int n instOfNat)) = some (.bool (decide (a = @OfNat.ofNat Nat n (instOfNatNat n)))) := eqlN
theorem neqL : bin P .neq t (.int k (a : Int)) (.int k (@OfNat.ofNat Int n instOfNat)) = some (.bool (decide (a ≠ @OfNat.ofNat Nat n (instOfNatNat n)))) := neqN
theorem remL (h : @OfNat.ofNat Nat n (instOfNatNat n) ≠ 0) : bin P .rem t (.int k (a : Int)) (.int k (@OfNat.ofNat Int n instOfNat)) = some (.int k ((a % @OfNat.ofNat Nat n (instOfNatNat n) : Nat) : Int)) := remN h
theorem shrL {k' : IntKind} (h : @OfNat.ofNat Nat n (instOfNatNat n) < k.bits) : bin P .shr t (.int k (a : Int)) (.int k' (@OfNat.ofNat Int n instOfNat)) = some (.int k ((a / 2 ^ @OfNat.ofNat Nat n (instOfNatNat n) : Nat) : Int)) := shrN h
end
theorem addL (h : a + @OfNat.ofNat Nat n (instOfNatNat n) < 9223372036854775808) : bin P .add t (i64 a) (.int .i64 (@OfNat.ofNat Int n instOfNat)) = some (i64 (a + @OfNat.ofNat Nat n (instOfNatNat n))) := addN h
theorem subL (h : @OfNat.ofNat Nat n (instOfNatNat n) ≤ a ∧ a < 9223372036854775808) : bin P .sub t (i64 a) (.int .i64 (@OfNat.ofNat Int n instOfNat)) = some (i64 (a - @OfNat.ofNat Nat n (instOfNatNat n))) := subN h
theorem lmul (h : @OfNat.ofNat Nat n (instOfNatNat n) * a < 9223372036854775808) : bin P .mul t (.int .i64 (@OfNat.ofNat Int n instOfNat)) (i64 a) = some (i64 (@OfNat.ofNat Nat n (instOfNatNat n) * a)) := mulN h
theorem mulL (h : a * @OfNat.ofNat Nat n (instOfNatNat n) < 9223372036854775808) : bin P .mul t (i64 a) (.int .i64 (@OfNat.ofNat Int n instOfNat)) = some (i64 (a * @OfNat.ofNat Nat n (instOfNatNat n))) := mulN h
theorem quoL (h : @OfNat.ofNat Nat n (instOfNatNat n) ≠ 0 ∧ a < 9223372036854775808) : bin P .quo t (i64 a) (.int .i64 (@OfNat.ofNat Int n instOfNat)) = some (i64 (a / @OfNat.ofNat Nat n (instOfNatNat n))) := quoN h
end Go.AM
namespace Go.AM
variable {P : Program} {t e : TypeId} {z : Value} {sz : Nat}
theorem RdN.ixN {B : AH} {v : Value} {xs : List Nat} {k : IntKind} {i : Nat} (h : RdN B v xs) (hE : Elt P t e z sz) (h0 : i < xs.length) : ∃ p, ixA P t v (.int k (i : Int)) = some p ∧ ∀ H', Mo B H' → ld P e H' p = some (u32 (xs.getD i 0)) := by
  obtain ⟨p, h1, h2⟩ := h.ix (x := (i : Int)) (k := k) hE.U hE.I hE.S hE.A (by omega)
  exact ⟨p, h1, fun H' hm => by have := h2 H' hm; rwa [Int.toNat_natCast] at this⟩
theorem RdN.lenN {B : AH} {v : Value} {xs : List Nat} (h : RdN B v xs) (hE : Elt P t e z sz) : lenV P t v = some (i64 xs.length) := h.len hE.U
end Go.AM
set_option linter.unusedVariables false
set_option linter.unusedVariables false
namespace Go.AM
variable {R : Type} {P : Program} {t : TypeId}
theorem cells_one {v : Value} (h : isCell v = true) : v.cells.toList = [v] := by
  cases v with
  | agg cs => exact absurd h (by simp [isCell])
  | tuple cs => exact absurd h (by simp [isCell])
  | _ => rfl
theorem RdN.cell {B : AH} {v : Value} {xs : List Nat} (h : RdN B v xs) : isCell v = true := by
  rcases h.1 with ⟨rfl, _⟩ | ⟨b, off, cap, rfl, _⟩ <;> rfl
end Go.AM
set_option linter.unusedVariables false
set_option linter.unusedSimpArgs false
namespace Go.AM
variable {α β R : Type} {P : Program}

class PrimEq (E : Option α) (a : outParam α) : Prop where
  eq : E = some a
class PrimC (E : Option α) (p : outParam Prop) (a : outParam α) : Prop where
  eq : p → E = some a
class IsCell (v : Value) : Prop where
  is : isCell v = true
class Nth (cs : List Value) (i : Nat) (v : outParam Value) : Prop where
  eq : cs[i]? = some v
class InL (b : Nat) (K : outParam Blk) (L : List (Nat × Blk)) : Prop where
  mem : (b, K) ∈ L
class UpL (b : Nat) (K : outParam Blk) (K' : Blk) (L : List (Nat × Blk)) (L' : outParam (List (Nat × Blk))) : Prop where
  upd : Upd b K K' L L'
class CellsOf (v : Value) (l : outParam (List Value)) : Prop where
  eq : v.cells.toList = l
  ok : okCells v = true
/-- A type's nought. -/
class ZeroOf (P : Program) (t : TypeId) (z : outParam Value) : Prop where
  eq : zeroT P t = some z
class AggOf (P : Program) (t : TypeId) (b : outParam Bool) : Prop where
  eq : aggT P t = some b
class SzOf (P : Program) (t : TypeId) (n : outParam Nat) : Prop where
  eq : szT P t = n
/-- Cells from one on. -/
class Cut (cs : List Value) (off n : Nat) (l : outParam (List Value)) : Prop where
  le : off + n ≤ cs.length
  eq : (cs.drop off).take n = l
class AllCell (l : List Value) : Prop where
  all : l.all isCell = true
class Und (P : Program) (t : TypeId) (D : outParam TypeDesc) : Prop where
  eq : P.underlying t = some D

instance {n : Int} {k : IntKind} : IsCell (.int k n) := ⟨rfl⟩
instance {b : Bool} : IsCell (.bool b) := ⟨rfl⟩
instance {s : ByteArray} : IsCell (.string s) := ⟨rfl⟩
instance {p : Option Addr} {n c : Nat} : IsCell (.slice p n c) := ⟨rfl⟩
instance {b o n c : Nat} : IsCell (sl b o n c) := ⟨rfl⟩
instance {b o : Nat} : IsCell (ptr b o) := ⟨rfl⟩
instance {p : Option Addr} : IsCell (.pointer p) := ⟨rfl⟩
instance {c : Fn} {x y : Array Value} : IsCell (.func c x y) := ⟨rfl⟩
instance : IsCell .nilFunc := ⟨rfl⟩
instance {B : AH} {v : Value} {xs : List Nat} [h : RdN B v xs] : IsCell v := ⟨h.cell⟩
instance : AllCell [] := ⟨rfl⟩
instance {v : Value} {l : List Value} [h : IsCell v] [k : AllCell l] : AllCell (v :: l) := ⟨by simp only [List.all_cons, h.is, k.all]; rfl⟩
instance {l : List Value} [h : AllCell l] : CellsOf (.agg (List.toArray l)) l := ⟨rfl, h.all⟩
instance (priority := low) {v : Value} [h : IsCell v] : CellsOf v [v] := ⟨cells_one h.is, okCells_of h.is⟩
instance {a : Value} {l : List Value} : Nth (a :: l) 0 a := ⟨rfl⟩
instance {a v : Value} {l : List Value} {n : Nat} [h : Nth l n v] : Nth (a :: l) (n + 1) v := ⟨h.eq⟩
instance {b : Nat} {K : Blk} {L : List (Nat × Blk)} : InL b K ((b, K) :: L) := ⟨.head _⟩
instance (priority := low) {b : Nat} {K : Blk} {x : Nat × Blk} {L : List (Nat × Blk)} [h : InL b K L] : InL b K (x :: L) := ⟨.tail _ h.mem⟩
instance {b : Nat} {K K' : Blk} {L : List (Nat × Blk)} : UpL b K K' ((b, K) :: L) ((b, K') :: L) := ⟨.head _⟩
instance (priority := low) {b : Nat} {K K' : Blk} {x : Nat × Blk} {L L' : List (Nat × Blk)} [h : UpL b K K' L L'] : UpL b K K' (x :: L) (x :: L') := ⟨.tail _ h.upd⟩
class CutN (cs : List Value) (n : Nat) (l : outParam (List Value)) : Prop where
  le : n ≤ cs.length
  eq : cs.take n = l
instance {cs : List Value} : CutN cs 0 [] := ⟨Nat.zero_le _, rfl⟩
instance {a : Value} {cs l : List Value} {n : Nat} [h : CutN cs n l] : CutN (a :: cs) (n + 1) (a :: l) := ⟨Nat.succ_le_succ h.le, by rw [List.take_succ_cons, h.eq]⟩
instance {cs l : List Value} {n : Nat} [h : CutN cs n l] : Cut cs 0 n l := ⟨by rw [Nat.zero_add]; exact h.le, h.eq⟩
instance {a : Value} {cs l : List Value} {off n : Nat} [h : Cut cs off n l] : Cut (a :: cs) (off + 1) n l := ⟨by have := h.le; simp only [List.length_cons]; omega, h.eq⟩
/-- Cells put over others. -/
class SplN (cs l : List Value) (r : outParam (List Value)) : Prop where
  le : l.length ≤ cs.length
  eq : l ++ cs.drop l.length = r
instance {cs : List Value} : SplN cs [] cs := ⟨Nat.zero_le _, rfl⟩
instance {a b : Value} {cs l r : List Value} [h : SplN cs l r] : SplN (a :: cs) (b :: l) (b :: r) := ⟨Nat.succ_le_succ h.le, by rw [List.length_cons, List.drop_succ_cons, List.cons_append, h.eq]⟩
class Spl (cs : List Value) (off : Nat) (l : List Value) (r : outParam (List Value)) : Prop where
  le : off + l.length ≤ cs.length
  eq : spl cs off l = r
instance {cs l r : List Value} [h : SplN cs l r] : Spl cs 0 l r := ⟨by rw [Nat.zero_add]; exact h.le, by unfold spl; rw [List.take_zero, List.nil_append, Nat.zero_add]; exact h.eq⟩
instance {a : Value} {cs l r : List Value} {off : Nat} [h : Spl cs off l r] : Spl (a :: cs) (off + 1) l (a :: r) :=
  ⟨by have := h.le; simp only [List.length_cons]; omega, by have := h.eq; unfold spl at this ⊢; rw [← this, Nat.add_right_comm, List.drop_succ_cons, List.take_succ_cons, List.cons_append]⟩

instance {t : TypeId} {cs : List Value} {off : Nat} {v : Value} [h : AggOf P t false] [k : Nth cs off v] : PrimEq (ldK P t cs off) v := ⟨by unfold ldK; rw [h.eq]; exact k.eq⟩
instance {t : TypeId} {cs l : List Value} {off n : Nat} [h : AggOf P t true] [s : SzOf P t n] [k : Cut cs off n l] : PrimEq (ldK P t cs off) (.agg (List.toArray l)) := ⟨by
  unfold ldK; rw [h.eq, s.eq]; simp only; rw [if_pos k.le, k.eq]⟩
instance {t : TypeId} {cs r : List Value} {off : Nat} {v : Value} [h : AggOf P t false] [s : SzOf P t 1] [c : IsCell v] [k : Spl cs off [v] r] : PrimEq (stK P t cs off v) r := ⟨by
  have hl : off < cs.length := by have := k.le; simp only [List.length_cons, List.length_nil] at this; omega
  unfold stK; rw [h.eq]; simp only; rw [if_pos ⟨s.eq, hl, c.is⟩, ← k.eq]
  unfold spl
  rw [List.set_eq_take_append_cons_drop, if_pos hl]; rfl⟩
instance {t : TypeId} {cs l r : List Value} {off n : Nat} [h : AggOf P t true] [s : SzOf P t n] [c : AllCell l] [k : Spl cs off l r] [hn : CutN l n l] : PrimEq (stK P t cs off (.agg (List.toArray l))) r := ⟨by
  have e : l.length = n := by have h1 := hn.le; have h2 := congrArg List.length hn.eq; rw [List.length_take] at h2; omega
  unfold stK; rw [h.eq]; simp only; rw [if_pos ⟨by rw [s.eq, ← e]; exact k.le, by rw [s.eq, ← e]; rfl, c.all⟩, ← k.eq]⟩
instance {H0 B0 B : AH} {L : List (Nat × Blk)} {H : AH} {b off : Nat} {K : Blk} {v : Value} {t : TypeId} [hS : St H0 B0 B L H] [hm : InL b K L] [hv : PrimEq (ldK P t K.cells off) v] : PrimEq (ld P t H (ptr b off)) v :=
  ⟨(ld_blk (hS.get hm.mem)).trans hv.eq⟩
theorem Ev.stC {H0 B0 B : AH} {L L' : List (Nat × Blk)} {H : AH} {b off : Nat} {cs0 : List Value} {e : TypeId} {v : Value} {cs : List Value} {t : TypeId} {f : Nat → Nat → AH → Option R} {Q : R → Prop} [hS : St H0 B0 B L H] [hm : InL b ⟨cs0, e, .fix⟩ L] [hs : PrimEq (stK P t cs0 off v) cs]
    [hu : UpL b ⟨cs0, e, .fix⟩ ⟨cs, e, .fix⟩ L L'] (h : ∀ H', St H0 B0 B L' H' → Ev (fun k n => f k n H') Q) : Ev (fun k n => (Go.AM.st P t H (ptr b off) v).bind (f k n)) Q :=
  Ev.st hS hm.mem hs.eq rfl hu.upd h
theorem Ev.newC {H0 B0 B : AH} {L : List (Nat × Blk)} {H : AH} {t : TypeId} {z : Value} {l : List Value} {f : Nat → Nat → Value → AH → Option R} {Q : R → Prop} [hz : ZeroOf P t z] [hl : CellsOf z l] [hS : St H0 B0 B L H]
    (h : ∀ b H', St H0 B0 B ((b, ⟨l, t, .fix⟩) :: L) H' → Ev (fun k n => f k n (ptr b 0) H') Q) : Ev (fun k n => Go.AM.b2 (Go.AM.newV P t H) (f k n)) Q := by
  have e : Go.AM.newV P t H = Go.AM.box t H z := by unfold Go.AM.newV; rw [hz.eq]; rfl
  rw [e]
  exact Ev.prim2 (by unfold Go.AM.box; rw [if_pos hl.ok, hl.eq]) (h H.length _ (hS.mkB' l t .fix))
theorem Ev.boxC {H0 B0 B : AH} {L : List (Nat × Blk)} {H : AH} {t : TypeId} {v : Value} {l : List Value} {f : Nat → Nat → Value → AH → Option R} {Q : R → Prop} [hl : CellsOf v l] [hS : St H0 B0 B L H]
    (h : ∀ b H', St H0 B0 B ((b, ⟨l, t, .fix⟩) :: L) H' → Ev (fun k n => f k n (ptr b 0) H') Q) : Ev (fun k n => Go.AM.b2 (Go.AM.box t H v) (f k n)) Q :=
  Ev.prim2 (by unfold Go.AM.box; rw [if_pos hl.ok, hl.eq]) (h H.length _ (hS.mkB' l t .fix))

section
variable {t s d : TypeId} {a b n : Nat} {x y : Int} {k k' : IntKind}
instance (priority := 900) : PrimEq (bin P .lss t (.int k (a : Int)) (.int k (no_index (@OfNat.ofNat Int n instOfNat)))) (.bool (decide (a < @OfNat.ofNat Nat n (instOfNatNat n)))) := ⟨lssL⟩
instance (priority := 900) : PrimEq (bin P .leq t (.int k (a : Int)) (.int k (no_index (@OfNat.ofNat Int n instOfNat)))) (.bool (decide (a ≤ @OfNat.ofNat Nat n (instOfNatNat n)))) := ⟨leqL⟩
instance (priority := 900) : PrimEq (bin P .gtr t (.int k (a : Int)) (.int k (no_index (@OfNat.ofNat Int n instOfNat)))) (.bool (decide (@OfNat.ofNat Nat n (instOfNatNat n) < a))) := ⟨gtrL⟩
instance (priority := 900) : PrimEq (bin P .geq t (.int k (a : Int)) (.int k (no_index (@OfNat.ofNat Int n instOfNat)))) (.bool (decide (@OfNat.ofNat Nat n (instOfNatNat n) ≤ a))) := ⟨geqL⟩
instance (priority := 900) : PrimEq (bin P .eql t (.int k (a : Int)) (.int k (no_index (@OfNat.ofNat Int n instOfNat)))) (.bool (decide (a = @OfNat.ofNat Nat n (instOfNatNat n)))) := ⟨eqlL⟩
instance (priority := 900) : PrimEq (bin P .neq t (.int k (a : Int)) (.int k (no_index (@OfNat.ofNat Int n instOfNat)))) (.bool (decide (a ≠ @OfNat.ofNat Nat n (instOfNatNat n)))) := ⟨neqL⟩
instance (priority := 2000) : PrimEq (bin P .eql t (.int k x) (.int k x)) (.bool true) := ⟨by rw [bin_eql, decide_eq_true rfl]⟩
instance (priority := 2000) : PrimEq (bin P .neq t (.int k x) (.int k x)) (.bool false) := ⟨by rw [bin_neq, decide_eq_false (fun h => h rfl)]⟩
instance : PrimEq (bin P .lss t (.int k (a : Int)) (.int k (b : Int))) (.bool (decide (a < b))) := ⟨lssN⟩
instance : PrimEq (bin P .leq t (.int k (a : Int)) (.int k (b : Int))) (.bool (decide (a ≤ b))) := ⟨leqN⟩
instance : PrimEq (bin P .gtr t (.int k (a : Int)) (.int k (b : Int))) (.bool (decide (b < a))) := ⟨gtrN⟩
instance : PrimEq (bin P .geq t (.int k (a : Int)) (.int k (b : Int))) (.bool (decide (b ≤ a))) := ⟨geqN⟩
instance : PrimEq (bin P .eql t (.int k (a : Int)) (.int k (b : Int))) (.bool (decide (a = b))) := ⟨eqlN⟩
instance : PrimEq (bin P .neq t (.int k (a : Int)) (.int k (b : Int))) (.bool (decide (a ≠ b))) := ⟨neqN⟩
instance (priority := 100) : PrimEq (bin P .lss t (.int k x) (.int k y)) (.bool (decide (x < y))) := ⟨bin_lss⟩
instance (priority := 100) : PrimEq (bin P .leq t (.int k x) (.int k y)) (.bool (decide (x ≤ y))) := ⟨bin_leq⟩
instance (priority := 100) : PrimEq (bin P .gtr t (.int k x) (.int k y)) (.bool (decide (y < x))) := ⟨bin_gtr⟩
instance (priority := 100) : PrimEq (bin P .geq t (.int k x) (.int k y)) (.bool (decide (y ≤ x))) := ⟨bin_geq⟩
instance (priority := 100) : PrimEq (bin P .eql t (.int k x) (.int k y)) (.bool (decide (x = y))) := ⟨bin_eql⟩
instance (priority := 100) : PrimEq (bin P .neq t (.int k x) (.int k y)) (.bool (decide (x ≠ y))) := ⟨bin_neq⟩
instance (priority := low) {b : Bool} : PrimEq (un P .not (.bool b)) (.bool (!b)) := ⟨un_not⟩
instance : PrimEq (un P .not (.bool true)) (.bool false) := ⟨un_not⟩
instance : PrimEq (un P .not (.bool false)) (.bool true) := ⟨un_not⟩
instance : PrimEq (un P .neg (.int k x)) (.int k (k.wrap (0 - x))) := ⟨un_neg⟩
end
instance {x y : Value} : PrimEq (pickV (.bool true) x y) x := ⟨rfl⟩
instance {x y : Value} : PrimEq (pickV (.bool false) x y) y := ⟨rfl⟩
instance {b o : Nat} : PrimEq (nilChk (ptr b o)) (ptr b o) := ⟨rfl⟩
instance {f : FuncId} {a b : Array Value} : PrimEq (nilChk (.func (.func f) a b)) (.func (.func f) a b) := ⟨rfl⟩
instance {a : Value} {l : List Value} : PrimEq (ext (.tuple (List.toArray (a :: l))) 0) a := ⟨rfl⟩
instance {a b : Value} {l : List Value} : PrimEq (ext (.tuple (List.toArray (a :: b :: l))) 1) b := ⟨rfl⟩
instance {a b c : Value} {l : List Value} : PrimEq (ext (.tuple (List.toArray (a :: b :: c :: l))) 2) c := ⟨rfl⟩
instance {t e : TypeId} {b o n c : Nat} [h : Und P t (.slice e)] : PrimEq (lenV P t (sl b o n c)) (i64 n) := ⟨lenV_sl h.eq⟩
instance {t e : TypeId} [h : Und P t (.slice e)] : PrimEq (lenV P t (.slice none 0 0)) (.int .i64 0) := ⟨by unfold lenV; rw [h.eq]; rfl⟩
instance (priority := low) {t e : TypeId} {z : Value} {sz : Nat} {B : AH} {v : Value} {xs : List Nat} [hE : Elt P t e z sz] [h : RdN B v xs] : PrimEq (lenV P t v) (i64 xs.length) := ⟨h.lenN hE⟩
instance {x y : Value} {v : Value} [h : PrimEq (maxV x y) v] : PrimEq (fold1 maxV [x, y]) v := ⟨by show Option.bind _ _ = _; rw [h.eq]; rfl⟩
instance {x y : Value} {v : Value} [h : PrimEq (minV x y) v] : PrimEq (fold1 minV [x, y]) v := ⟨by show Option.bind _ _ = _; rw [h.eq]; rfl⟩
instance {k k' : IntKind} {x y : Int} : PrimEq (maxV (.int k x) (.int k' y)) (.int k (if y > x then y else x)) := ⟨rfl⟩
instance {k k' : IntKind} {x y : Int} : PrimEq (minV (.int k x) (.int k' y)) (.int k (if y < x then y else x)) := ⟨rfl⟩

class Step (g : Nat → Nat → Option R) (g' : outParam (Nat → Nat → Option R)) : Prop where
  step : ∀ {Q : R → Prop}, Ev g' Q → Ev g Q
theorem Ev.s {g g' : Nat → Nat → Option R} {Q : R → Prop} [h : Step g g'] (k : Ev g' Q) : Ev g Q := h.step k
instance {v : Value} {H : AH} {f : Nat → Nat → Value → AH → Option R} : Step (fun k n => Go.AM.b2 (some (v, H)) (f k n)) (fun k n => f k n v H) := ⟨fun h => h⟩
instance {a : α} {f : Nat → Nat → α → Option R} : Step (fun k n => (some a).bind (f k n)) (fun k n => f k n a) := ⟨fun h => h⟩
instance {x y : Nat → Nat → Option R} : Step (fun k n => aIf (.bool true) (x k n) (y k n)) x := ⟨fun h => h⟩
instance {x y : Nat → Nat → Option R} : Step (fun k n => aIf (.bool false) (x k n) (y k n)) y := ⟨fun h => h⟩
instance {x y : Nat → Nat → Option R} : Step (fun k n => aIf (.bool (!true)) (x k n) (y k n)) y := ⟨fun h => h⟩
instance {x y : Nat → Nat → Option R} : Step (fun k n => aIf (.bool (!false)) (x k n) (y k n)) x := ⟨fun h => h⟩
instance (priority := low) {E : Option α} {a : α} {f : Nat → Nat → α → Option R} [h : PrimEq E a] : Step (fun k n => E.bind (f k n)) (fun k n => f k n a) := ⟨fun h2 => Ev.prim h.eq h2⟩
instance {E : Nat → Nat → Option (Value × AH)} {H : AH} {f : Nat → Nat → Value → AH → Option R} : Step (fun k n => Go.AM.b2 (gOp (.bool true) true (E k n) H) (f k n)) (fun k n => Go.AM.b2 (E k n) (f k n)) := ⟨fun h => Ev.gDo h⟩
instance {E : Nat → Nat → Option (Value × AH)} {H : AH} {f : Nat → Nat → Value → AH → Option R} : Step (fun k n => Go.AM.b2 (gOp (.bool false) false (E k n) H) (f k n)) (fun k n => Go.AM.b2 (E k n) (f k n)) := ⟨fun h => Ev.gDo h⟩
instance {E : Nat → Nat → Option (Value × AH)} {H : AH} {f : Nat → Nat → Value → AH → Option R} : Step (fun k n => Go.AM.b2 (gOp (.bool true) false (E k n) H) (f k n)) (fun k n => f k n undef H) := ⟨fun h => Ev.gSkipF h⟩
instance {E : Nat → Nat → Option (Value × AH)} {H : AH} {f : Nat → Nat → Value → AH → Option R} : Step (fun k n => Go.AM.b2 (gOp (.bool false) true (E k n) H) (f k n)) (fun k n => f k n undef H) := ⟨fun h => Ev.gSkipT h⟩
instance {w : Bool} {E : Nat → Nat → Option (Value × AH)} {H : AH} {f : Nat → Nat → Value → AH → Option R} : Step (fun k n => Go.AM.b2 (gOp undef w (E k n) H) (f k n)) (fun k n => f k n undef H) := ⟨fun h => Ev.gUndef h⟩
instance {E : Nat → Nat → Option (Value × AH)} {H : AH} {f : Nat → Nat → Value → AH → Option R} : Step (fun k n => Go.AM.b2 (gOp (.bool (!true)) true (E k n) H) (f k n)) (fun k n => f k n undef H) := ⟨fun h => Ev.gSkipT h⟩
instance {E : Nat → Nat → Option (Value × AH)} {H : AH} {f : Nat → Nat → Value → AH → Option R} : Step (fun k n => Go.AM.b2 (gOp (.bool (!false)) true (E k n) H) (f k n)) (fun k n => Go.AM.b2 (E k n) (f k n)) := ⟨fun h => Ev.gDo h⟩
instance {E : Nat → Nat → Option (Value × AH)} {H : AH} {f : Nat → Nat → Value → AH → Option R} : Step (fun k n => Go.AM.b2 (gOp (.bool (!true)) false (E k n) H) (f k n)) (fun k n => Go.AM.b2 (E k n) (f k n)) := ⟨fun h => Ev.gDo h⟩
instance {E : Nat → Nat → Option (Value × AH)} {H : AH} {f : Nat → Nat → Value → AH → Option R} : Step (fun k n => Go.AM.b2 (gOp (.bool (!false)) false (E k n) H) (f k n)) (fun k n => f k n undef H) := ⟨fun h => Ev.gSkipF h⟩
instance {E : Option Value} {a : Value} {H : AH} {f : Nat → Nat → Value → AH → Option R} [h : PrimEq E a] : Step (fun k n => Go.AM.b2 (E.bind fun v => some (v, H)) (f k n)) (fun k n => f k n a H) := ⟨fun h2 => Ev.gPrim h.eq rfl h2⟩
instance {g : Nat → Nat → Option (Value × AH)} {f : Nat → Nat → Value → AH → Option R} : Step (fun k n => Go.AM.b2 (Go.AM.b2 (g k n) fun v H => some (v, H)) (f k n)) (fun k n => Go.AM.b2 (g k n) (f k n)) := ⟨fun h => Ev.gCall h⟩
instance {g : Nat → Nat → Option α} {f : Nat → Nat → α → Option β} {f2 : Nat → Nat → β → Option R} : Step (fun k n => ((g k n).bind (f k n)).bind (f2 k n)) (fun k n => (g k n).bind fun x => (f k n x).bind (f2 k n)) := ⟨fun h => Ev.assoc h⟩
instance {x : Nat → Nat → Option R} {E : Option α} {a : α} [h : PrimEq E a] : Step (fun k n => aChk (E = some a) (x k n)) x := ⟨fun h2 => Ev.chk h.eq h2⟩
instance {x : Nat → Nat → Option R} {q : Prop} {E : Option α} {a : α} [h : PrimEq E a] : Step (fun k n => aChk (q → E = some a) (x k n)) x := ⟨fun h2 => Ev.chk (fun _ => h.eq) h2⟩
instance (priority := high) {x : Nat → Nat → Option R} {p : Prop} : Step (fun k n => aChk (Value.bool false = .bool true → p) (x k n)) x := ⟨fun h2 => Ev.chk (fun h => by cases h) h2⟩
/-- With a condition. -/
theorem Ev.sc {E : Option α} {p : Prop} {a : α} {f : Nat → Nat → α → Option R} {Q : R → Prop} [h : PrimC E p a] (hp : p) (k : Ev (fun k n => f k n a) Q) : Ev (fun k n => E.bind (f k n)) Q := Ev.prim (h.eq hp) k
theorem Ev.scg {E : Option Value} {p : Prop} {a : Value} {H : AH} {f : Nat → Nat → Value → AH → Option R} {Q : R → Prop} [h : PrimC E p a] (hp : p) (k : Ev (fun k n => f k n a H) Q) : Ev (fun k n => Go.AM.b2 (E.bind fun v => some (v, H)) (f k n)) Q := Ev.gPrim (h.eq hp) rfl k
section
variable {t s d : TypeId} {a b n : Nat} {x y : Int} {k k' : IntKind}
instance (priority := 900) : PrimC (bin P .add t (i64 a) (.int .i64 (no_index (@OfNat.ofNat Int n instOfNat)))) (a + @OfNat.ofNat Nat n (instOfNatNat n) < 9223372036854775808) (i64 (a + @OfNat.ofNat Nat n (instOfNatNat n))) := ⟨addL⟩
instance (priority := 900) : PrimC (bin P .sub t (i64 a) (.int .i64 (no_index (@OfNat.ofNat Int n instOfNat)))) (@OfNat.ofNat Nat n (instOfNatNat n) ≤ a ∧ a < 9223372036854775808) (i64 (a - @OfNat.ofNat Nat n (instOfNatNat n))) := ⟨subL⟩
instance (priority := 900) : PrimC (bin P .mul t (i64 a) (.int .i64 (no_index (@OfNat.ofNat Int n instOfNat)))) (a * @OfNat.ofNat Nat n (instOfNatNat n) < 9223372036854775808) (i64 (a * @OfNat.ofNat Nat n (instOfNatNat n))) := ⟨mulL⟩
instance (priority := 900) : PrimC (bin P .mul t (.int .i64 (no_index (@OfNat.ofNat Int n instOfNat))) (i64 a)) (@OfNat.ofNat Nat n (instOfNatNat n) * a < 9223372036854775808) (i64 (@OfNat.ofNat Nat n (instOfNatNat n) * a)) := ⟨lmul⟩
instance (priority := 900) : PrimC (bin P .quo t (i64 a) (.int .i64 (no_index (@OfNat.ofNat Int n instOfNat)))) (@OfNat.ofNat Nat n (instOfNatNat n) ≠ 0 ∧ a < 9223372036854775808) (i64 (a / @OfNat.ofNat Nat n (instOfNatNat n))) := ⟨quoL⟩
instance (priority := 900) : PrimC (bin P .rem t (.int k (a : Int)) (.int k (no_index (@OfNat.ofNat Int n instOfNat)))) (@OfNat.ofNat Nat n (instOfNatNat n) ≠ 0) (.int k ((a % @OfNat.ofNat Nat n (instOfNatNat n) : Nat) : Int)) := ⟨remL⟩
instance : PrimC (bin P .add t (i64 a) (i64 b)) (a + b < 9223372036854775808) (i64 (a + b)) := ⟨addN⟩
instance : PrimC (bin P .sub t (i64 a) (i64 b)) (b ≤ a ∧ a < 9223372036854775808) (i64 (a - b)) := ⟨subN⟩
instance : PrimC (bin P .mul t (i64 a) (i64 b)) (a * b < 9223372036854775808) (i64 (a * b)) := ⟨mulN⟩
instance : PrimC (bin P .quo t (i64 a) (i64 b)) (b ≠ 0 ∧ a < 9223372036854775808) (i64 (a / b)) := ⟨quoN⟩
instance : PrimC (bin P .rem t (.int k (a : Int)) (.int k (b : Int))) (b ≠ 0) (.int k ((a % b : Nat) : Int)) := ⟨remN⟩
instance : PrimC (bin P .add t (u64 a) (u64 b)) (a + b < 18446744073709551616) (u64 (a + b)) := ⟨addQ⟩
instance : PrimC (bin P .sub t (u64 a) (u64 b)) (b ≤ a ∧ a < 18446744073709551616) (u64 (a - b)) := ⟨subQ⟩
instance : PrimC (bin P .mul t (u64 a) (u64 b)) (a * b < 18446744073709551616) (u64 (a * b)) := ⟨mulQ⟩
instance (priority := 100) : PrimC (bin P .add t (.int .i64 x) (.int .i64 y)) (-9223372036854775808 ≤ x + y ∧ x + y < 9223372036854775808) (.int .i64 (x + y)) := ⟨bin_add64⟩
instance (priority := 100) : PrimC (bin P .sub t (.int .i64 x) (.int .i64 y)) (-9223372036854775808 ≤ x - y ∧ x - y < 9223372036854775808) (.int .i64 (x - y)) := ⟨bin_sub64⟩
instance (priority := 100) : PrimC (bin P .mul t (.int .i64 x) (.int .i64 y)) (-9223372036854775808 ≤ x * y ∧ x * y < 9223372036854775808) (.int .i64 (x * y)) := ⟨bin_mul64⟩
end
end Go.AM
set_option linter.unusedVariables false
set_option linter.unusedSimpArgs false
namespace Go.AM
variable {α β R : Type} {P : Program}
class PlusL (a b : Nat) (r : outParam Nat) : Prop where
  eq : a + b = r
instance (priority := low) {a b : Nat} : PlusL a b (a + b) := ⟨rfl⟩
instance {b : Nat} : PlusL 0 b b := ⟨Nat.zero_add b⟩
instance {a : Nat} : PlusL a 0 a := ⟨rfl⟩
instance : PlusL 1 1 2 := ⟨rfl⟩
instance : PlusL 1 2 3 := ⟨rfl⟩
instance : PlusL 1 3 4 := ⟨rfl⟩
instance : PlusL 1 4 5 := ⟨rfl⟩
instance : PlusL 1 5 6 := ⟨rfl⟩
instance : PlusL 1 6 7 := ⟨rfl⟩
instance : PlusL 1 7 8 := ⟨rfl⟩
instance : PlusL 1 8 9 := ⟨rfl⟩
instance : PlusL 2 1 3 := ⟨rfl⟩
instance : PlusL 2 2 4 := ⟨rfl⟩
instance : PlusL 2 3 5 := ⟨rfl⟩
instance : PlusL 2 4 6 := ⟨rfl⟩
instance : PlusL 2 5 7 := ⟨rfl⟩
instance : PlusL 2 6 8 := ⟨rfl⟩
instance : PlusL 2 7 9 := ⟨rfl⟩
instance : PlusL 2 8 10 := ⟨rfl⟩
instance : PlusL 3 1 4 := ⟨rfl⟩
instance : PlusL 3 2 5 := ⟨rfl⟩
instance : PlusL 3 3 6 := ⟨rfl⟩
instance : PlusL 3 4 7 := ⟨rfl⟩
instance : PlusL 3 5 8 := ⟨rfl⟩
instance : PlusL 3 6 9 := ⟨rfl⟩
instance : PlusL 3 7 10 := ⟨rfl⟩
instance : PlusL 3 8 11 := ⟨rfl⟩
instance : PlusL 4 1 5 := ⟨rfl⟩
instance : PlusL 4 2 6 := ⟨rfl⟩
instance : PlusL 4 3 7 := ⟨rfl⟩
instance : PlusL 4 4 8 := ⟨rfl⟩
instance : PlusL 4 5 9 := ⟨rfl⟩
instance : PlusL 4 6 10 := ⟨rfl⟩
instance : PlusL 4 7 11 := ⟨rfl⟩
instance : PlusL 4 8 12 := ⟨rfl⟩
instance : PlusL 5 1 6 := ⟨rfl⟩
instance : PlusL 5 2 7 := ⟨rfl⟩
instance : PlusL 5 3 8 := ⟨rfl⟩
instance : PlusL 5 4 9 := ⟨rfl⟩
instance : PlusL 5 5 10 := ⟨rfl⟩
instance : PlusL 5 6 11 := ⟨rfl⟩
instance : PlusL 5 7 12 := ⟨rfl⟩
instance : PlusL 5 8 13 := ⟨rfl⟩
instance : PlusL 6 1 7 := ⟨rfl⟩
instance : PlusL 6 2 8 := ⟨rfl⟩
instance : PlusL 6 3 9 := ⟨rfl⟩
instance : PlusL 6 4 10 := ⟨rfl⟩
instance : PlusL 6 5 11 := ⟨rfl⟩
instance : PlusL 6 6 12 := ⟨rfl⟩
instance : PlusL 6 7 13 := ⟨rfl⟩
instance : PlusL 6 8 14 := ⟨rfl⟩
instance : PlusL 7 1 8 := ⟨rfl⟩
instance : PlusL 7 2 9 := ⟨rfl⟩
instance : PlusL 7 3 10 := ⟨rfl⟩
instance : PlusL 7 4 11 := ⟨rfl⟩
instance : PlusL 7 5 12 := ⟨rfl⟩
instance : PlusL 7 6 13 := ⟨rfl⟩
instance : PlusL 7 7 14 := ⟨rfl⟩
instance : PlusL 7 8 15 := ⟨rfl⟩
instance : PlusL 8 1 9 := ⟨rfl⟩
instance : PlusL 8 2 10 := ⟨rfl⟩
instance : PlusL 8 3 11 := ⟨rfl⟩
instance : PlusL 8 4 12 := ⟨rfl⟩
instance : PlusL 8 5 13 := ⟨rfl⟩
instance : PlusL 8 6 14 := ⟨rfl⟩
instance : PlusL 8 7 15 := ⟨rfl⟩
instance : PlusL 8 8 16 := ⟨rfl⟩
class FieldOf (P : Program) (s : TypeId) (i : Nat) (off : outParam Nat) (ft : outParam TypeId) : Prop where
  ex : ∃ fs f, P.underlying s = some (.struct fs) ∧ fs[i]? = some f ∧ f.offset = off ∧ f.type = ft
  nz : szT P ft ≠ 0
class StructOf (P : Program) (s : TypeId) (l : outParam (List Value)) : Prop where
  zero : zeroT P s = some (.agg (List.toArray l))
  ex : ∃ fs, P.underlying s = some (.struct fs) ∧ fs.toList.all (fun f => (P.info? f.type).isSome) = true
instance {s : TypeId} {l : List Value} [h : StructOf P s l] : ZeroOf P s (.agg (List.toArray l)) := ⟨h.zero⟩
instance {s ft : TypeId} {i off b o r : Nat} [h : FieldOf P s i off ft] [p : PlusL o off r] : PrimEq (fldA P s (ptr b o) i) (ptr b r) := ⟨by
  obtain ⟨fs, f, h1, h2, h3, h4⟩ := h.ex
  unfold fldA ptr; rw [h1]; simp only [h2, Option.bind_some]; rw [if_neg (by rw [h4]; exact h.nz), h3, p.eq]⟩
instance {s ft : TypeId} {i off : Nat} {l : List Value} {v : Value} [h : FieldOf P s i off ft] [a : AggOf P ft false] [n : Nth l off v] : PrimEq (fld P s (.agg (List.toArray l)) i) v := ⟨by
  obtain ⟨fs, f, h1, h2, h3, h4⟩ := h.ex
  unfold fld; rw [h1]; simp only [h2, Option.bind_some]; unfold prt; rw [h4, a.eq, h3]; exact n.eq⟩
instance {s ft : TypeId} {i off n : Nat} {l r : List Value} [h : FieldOf P s i off ft] [a : AggOf P ft true] [z : SzOf P ft n] [c : Cut l off n r] : PrimEq (fld P s (.agg (List.toArray l)) i) (.agg (List.toArray r)) := ⟨by
  obtain ⟨fs, f, h1, h2, h3, h4⟩ := h.ex
  unfold fld; rw [h1]; simp only [h2, Option.bind_some]; unfold prt; rw [h4, a.eq, h3, z.eq]; simp only; rw [c.eq]⟩
class FillP (P : Program) (s : TypeId) (cs : List Value) (parts : List (Nat × Value)) (r : outParam (List Value)) : Prop where
  eq : ∀ fs, P.underlying s = some (.struct fs) → fillB (fun i => (fs[i]?).map fun f => (f.offset, szT P f.type)) cs parts = some r
instance {s : TypeId} {cs : List Value} : FillP P s cs [] cs := ⟨fun _ _ => rfl⟩
instance {s ft : TypeId} {i off n : Nat} {v : Value} {l cs cs' r : List Value} {ps : List (Nat × Value)} [h : FieldOf P s i off ft] [z : SzOf P ft n] [c : CellsOf v l] [k : CutN l n l] [sp : Spl cs off l cs'] [f : FillP P s cs' ps r] :
    FillP P s cs ((i, v) :: ps) r := ⟨fun fs hf => by
  obtain ⟨fs', g, h1, h2, h3, h4⟩ := h.ex
  rw [hf] at h1; cases h1
  have e : l.length = n := by have h1 := k.le; have h2 := congrArg List.length k.eq; rw [List.length_take] at h2; omega
  have e2 : v.cells.size = n := by rw [← e, ← c.eq]; rfl
  unfold fillB
  simp only [h2, Option.map_some, h3, h4, z.eq]
  rw [if_pos ⟨e2, by rw [← e]; exact sp.le, c.ok⟩, c.eq, sp.eq]
  exact f.eq fs hf⟩
instance {s : TypeId} {l r : List Value} {parts : List (Nat × Value)} [h : StructOf P s l] [f : FillP P s l parts r] : PrimEq (build P s parts) (.agg (List.toArray r)) := ⟨by
  obtain ⟨fs, h1, h2⟩ := h.ex
  unfold build; rw [h.zero]; simp only [Option.bind_some, h1]
  rw [if_neg (by rw [h2]; simp)]
  have := f.eq fs h1
  simp only [Value.cells]
  rw [this]; rfl⟩
section
variable {s d : TypeId} {D : TypeDesc} {a : Nat} {x : Int} {k k' : IntKind}
instance [hs : Und P s D] [hd : Und P d (.int .u32)] : PrimEq (cv P s d (.int k (a : Int))) (u32 (a % 4294967296)) := ⟨toU32 hs.eq hd.eq⟩
instance [hs : Und P s D] [hd : Und P d (.int .u8)] : PrimEq (cv P s d (.int k (a : Int))) (u8 (a % 256)) := ⟨toU8 hs.eq hd.eq⟩
instance [hs : Und P s D] [hd : Und P d (.int .u64)] : PrimC (cv P s d (.int k (a : Int))) (a < 18446744073709551616) (u64 a) := ⟨fun h => toU64 h hs.eq hd.eq⟩
instance [hs : Und P s D] [hd : Und P d (.int .i64)] : PrimC (cv P s d (.int k (a : Int))) (a < 9223372036854775808) (i64 a) := ⟨fun h => toI64 h hs.eq hd.eq⟩
end
class LdB (P : Program) (e : TypeId) (p : Value) (B : outParam AH) (v : outParam Value) : Prop where
  eq : ∀ H', Mo B H' → ld P e H' p = some v
instance {e : TypeId} {p v : Value} {H0 B0 B H : AH} {L : List (Nat × Blk)} [h : LdB P e p B v] [hS : St H0 B0 B L H] : PrimEq (ld P e H p) v := ⟨h.eq H hS.le⟩
section
variable {t e : TypeId} {z : Value} {sz : Nat} {H0 B0 B H : AH} {L : List (Nat × Blk)} {v : Value} {xs : List Nat} {k : IntKind}
class Rep (n : Nat) (z : Value) (l : outParam (List Value)) : Prop where
  eq : List.replicate n z = l
instance {z : Value} : Rep 0 z [] := ⟨rfl⟩
instance {z : Value} {n : Nat} {l : List Value} [h : Rep n z l] : Rep (n + 1) z (z :: l) := ⟨by rw [List.replicate_succ, h.eq]⟩
class FillL (cs : List Value) (parts : List (Nat × Value)) (r : outParam (List Value)) : Prop where
  eq : fillB (fun i => some (i * 1, 1)) cs parts = some r
instance {cs : List Value} : FillL cs [] cs := ⟨rfl⟩
instance {i : Nat} {v : Value} {cs cs' r : List Value} {ps : List (Nat × Value)} [c : IsCell v] [sp : Spl cs i [v] cs'] [f : FillL cs' ps r] : FillL cs ((i, v) :: ps) r := ⟨by
  have h1 := cells_one c.is
  have h2 := f.eq
  simp only [Nat.mul_one] at h2
  unfold fillB
  simp only [Nat.mul_one]
  rw [if_pos ⟨size_cells h1, by have := sp.le; simpa using this, okCells_of c.is⟩, h1, sp.eq]
  exact h2⟩
theorem Ev.bsC {m : Nat} {parts : List (Nat × Value)} {l cs : List Value} {f : Nat → Nat → Value → AH → Option R} {Q : R → Prop} [hE : Elt P t e z sz] [hS : St H0 B0 B L H] [hr : Rep m z l] [hf : FillL l parts cs] (hm : m ≤ 16777216)
    (h : ∀ b H', St H0 B0 B ((b, ⟨cs, e, .fix⟩) :: L) H' → Ev (fun k n => f k n (sl b 0 m m) H') Q) : Ev (fun k n => Go.AM.b2 (Go.AM.buildS P t H m parts) (f k n)) Q := by
  refine Ev.prim2 ?_ (h H.length _ (hS.mkB' cs e .fix))
  unfold Go.AM.buildS
  rw [hE.U]; simp only [hE.Z, hE.S, hE.zn, Option.bind_some, rep_one]
  rw [if_pos ⟨by omega, size_cells hE.zn⟩, hr.eq, hf.eq]; rfl
end
end Go.AM
