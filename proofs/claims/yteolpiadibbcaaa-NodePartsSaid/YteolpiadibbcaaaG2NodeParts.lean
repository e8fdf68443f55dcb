/-
  Facts of the abstract evaluator and of the functions that the law reaches, part 2. Conditions: none.
-/
import Derived.ProofKit
import Derived.Deep.Slices
import Derived.DataElems
import Derived.DataReads
import Derived.ChangeArms
import Derived.ChangeSame
import Derived.Shelf.Strings.BuilderX
import Derived.Shelf.RegionOpenPlain
import Derived.Lib.Strings
import Derived.Lib.Walk
import Derived.Lib.Builder
import Derived.Lib.MakeNoZero
import Derived.WalkKit
import Derived.Laws.Externs
import Derived.Laws.IdiomCopy
import Derived.Test.YteolpiadibbcaaaG1NodeParts
set_option linter.unusedVariables false
set_option linter.unusedSimpArgs false
set_option linter.unnecessarySimpa false
set_option exponentiation.threshold 200000
set_option maxRecDepth 100000
set_option linter.unusedVariables false
set_option linter.unusedSimpArgs false
namespace Go.AM
open Go.RowKit

section
variable {P : Program} {call : CallF}

/-- The steps from operation j0 on: slots, heap, what is passed over, what is told. -/
structure Tr (P : Program) (call : CallF) (ops : Array Oper) (bs : List Nat) (j0 : Nat) (tT : Nat → List Value) (tH : Nat → AH) (sk : Nat → Bool) (vl : Nat → Value) : Prop where
  step : ∀ j o, j0 ≤ j → ops[j]? = some o → tT (j + 1) = putT (tT j) o.dst (vl j)
  skip : ∀ j o, j0 ≤ j → ops[j]? = some o → sk j = true → (∃ g want, o.guard = some (g, want) ∧ Off (yieldV ops (tT j) g) want) ∧ vl j = undef ∧ tH (j + 1) = tH j
  go : ∀ j o, j0 ≤ j → ops[j]? = some o → sk j = false → o.guard = none ∨ ∃ g want, o.guard = some (g, want) ∧ yieldV ops (tT j) g = .bool want
  read : ∀ j o f, j0 ≤ j → ops[j]? = some o → sk j = false → opRead P (opv (tT j)) o.op = some f → f (tH j) = some (vl j) ∧ tH (j + 1) = tH j
  other : ∀ j o, j0 ≤ j → ops[j]? = some o → sk j = false → opRead P (opv (tT j)) o.op = none → aRes P call (opv (tT j)) o.op (tH j) = some (vl j, tH (j + 1))
  pastR : ∀ j o f e oe, j0 ≤ e → e < j → ops[j]? = some o → ops[e]? = some oe → sk j = false → sk e = false → isEff oe.op = true → opRead P (opv (tT j)) o.op = some f → ordB bs e j = false → f (tH e) = some (vl j)
  futR : ∀ j o f e oe, j0 ≤ j → j < e → ops[j]? = some o → ops[e]? = some oe → sk j = false → sk e = false → isEff oe.op = true → opRead P (opv (tT j)) o.op = some f → ordB bs j e = false → f (tH (e + 1)) = some (vl j)
  futA : ∀ j o e oe, j0 ≤ j → j < e → ops[j]? = some o → ops[e]? = some oe → sk j = false → sk e = false → isEff oe.op = true → opRead P (opv (tT j)) o.op = none → isAlloc o.op = true → ordB bs j e = false → blk (tH (e + 1)) (tH j).length = blk (tH (j + 1)) (tH j).length

theorem aChk_inv {R : Type} {p : Prop} {x : Option R} {r : R} (h : aChk p x = some r) : p ∧ x = some r := by
  unfold aChk at h
  split at h
  · rename_i hp; exact ⟨hp, h⟩
  · cases h
theorem chkReads_inv {R : Type} {bs : List Nat} {j : Nat} {H : AH} {x : Option R} {r : R} : ∀ (rs : List Rd), chkReads bs j H x rs = some r → x = some r ∧ ∀ rd ∈ rs, ordB bs rd.at_ j = false → rd.ok H
  | [], h => ⟨h, fun rd hr => by cases hr⟩
  | rd :: rs, h => by
    unfold chkReads at h
    cases ho : ordB bs rd.at_ j with
    | true =>
      rw [ho] at h
      obtain ⟨h1, h2⟩ := chkReads_inv rs h
      refine ⟨h1, fun rd' hr hf => ?_⟩
      cases hr with
      | head => rw [ho] at hf; cases hf
      | tail _ hr => exact h2 rd' hr hf
    | false =>
      rw [ho] at h
      obtain ⟨h0, h⟩ := aChk_inv h
      obtain ⟨h1, h2⟩ := chkReads_inv rs h
      refine ⟨h1, fun rd' hr hf => ?_⟩
      cases hr with
      | head => exact h0
      | tail _ hr => exact h2 rd' hr hf
theorem chkPast_inv {R : Type} {bs : List Nat} {j : Nat} {ok : AH → Prop} {x : Option R} {r : R} : ∀ (ps : List (Nat × AH)), chkPast bs j ok x ps = some r → x = some r ∧ ∀ p ∈ ps, ordB bs p.1 j = false → ok p.2
  | [], h => ⟨h, fun p hp => by cases hp⟩
  | p :: ps, h => by
    unfold chkPast at h
    cases ho : ordB bs p.1 j with
    | true =>
      rw [ho] at h
      obtain ⟨h1, h2⟩ := chkPast_inv ps h
      refine ⟨h1, fun p' hr hf => ?_⟩
      cases hr with
      | head => rw [ho] at hf; cases hf
      | tail _ hr => exact h2 p' hr hf
    | false =>
      rw [ho] at h
      obtain ⟨h0, h⟩ := aChk_inv h
      obtain ⟨h1, h2⟩ := chkPast_inv ps h
      refine ⟨h1, fun p' hr hf => ?_⟩
      cases hr with
      | head => exact h0
      | tail _ hr => exact h2 p' hr hf
/-- What the steps from j0 on keep of what came ahead. -/
structure TrP (P : Program) (ops : Array Oper) (bs : List Nat) (j0 : Nat) (tT : Nat → List Value) (tH : Nat → AH) (sk : Nat → Bool) (vl : Nat → Value) (past : List (Nat × AH)) (reads : List Rd) : Prop where
  past : ∀ p ∈ past, ∀ j o f, j0 ≤ j → ops[j]? = some o → sk j = false → opRead P (opv (tT j)) o.op = some f → ordB bs p.1 j = false → f p.2 = some (vl j)
  reads : ∀ rd ∈ reads, ∀ e oe, j0 ≤ e → ops[e]? = some oe → sk e = false → isEff oe.op = true → ordB bs rd.at_ e = false → rd.ok (tH (e + 1))
theorem read_not_eff {ρ : Operand → Value} {op : Op} {f : AH → Option Value} (h : opRead P ρ op = some f) : isEff op = false := by
  cases op <;> first | rfl | (simp [opRead] at h; done)
theorem alloc_not_eff {op : Op} (h : isAlloc op = true) : isEff op = false := by
  cases op <;> first | rfl | (simp [isAlloc] at h; done)
theorem tr_cons {ops : Array Oper} {bs : List Nat} {j0 : Nat} {o : Oper} (ho : ops[j0]? = some o) {T : List Value} {H H1 : AH} {v : Value} {s : Bool} {tT : Nat → List Value} {tH : Nat → AH} {sk : Nat → Bool} {vl : Nat → Value}
    (h0 : tT (j0 + 1) = putT T o.dst v) (h1 : tH (j0 + 1) = H1) (X : Tr P call ops bs (j0 + 1) tT tH sk vl)
    (hskip : s = true → (∃ g want, o.guard = some (g, want) ∧ Off (yieldV ops T g) want) ∧ v = undef ∧ H1 = H)
    (hgo : s = false → o.guard = none ∨ ∃ g want, o.guard = some (g, want) ∧ yieldV ops T g = .bool want)
    (hread : ∀ f, s = false → opRead P (opv T) o.op = some f → f H = some v ∧ H1 = H)
    (hother : s = false → opRead P (opv T) o.op = none → aRes P call (opv T) o.op H = some (v, H1))
    (hpast : s = false → isEff o.op = true → ∀ j p f, j0 + 1 ≤ j → ops[j]? = some p → sk j = false → opRead P (opv (tT j)) p.op = some f → ordB bs j0 j = false → f H = some (vl j))
    (hfutR : ∀ f, s = false → opRead P (opv T) o.op = some f → ∀ e oe, j0 + 1 ≤ e → ops[e]? = some oe → sk e = false → isEff oe.op = true → ordB bs j0 e = false → f (tH (e + 1)) = some v)
    (hfutA : s = false → opRead P (opv T) o.op = none → isAlloc o.op = true → ∀ e oe, j0 + 1 ≤ e → ops[e]? = some oe → sk e = false → isEff oe.op = true → ordB bs j0 e = false → blk (tH (e + 1)) H.length = blk H1 H.length) :
    Tr P call ops bs j0 (fun i => if i = j0 then T else tT i) (fun i => if i = j0 then H else tH i) (fun i => if i = j0 then s else sk i) (fun i => if i = j0 then v else vl i) := by
  have hne : ∀ {j}, j0 ≤ j → j ≠ j0 → j0 + 1 ≤ j := fun h1 h2 => by omega
  refine ⟨?_, ?_, ?_, ?_, ?_, ?_, ?_, ?_⟩
  · intro j p hj hp
    rw [if_neg (show j + 1 ≠ j0 by omega)]
    by_cases hjj : j = j0
    · subst hjj; rw [ho] at hp; cases hp; simp only [if_true]; exact h0
    · simp only [if_neg hjj]; exact X.step j p (hne hj hjj) hp
  · intro j p hj hp hs
    rw [if_neg (show j + 1 ≠ j0 by omega)]
    by_cases hjj : j = j0
    · subst hjj; rw [ho] at hp; cases hp; simp only [if_true] at hs ⊢; rw [h1]; exact hskip hs
    · simp only [if_neg hjj] at hs ⊢; exact X.skip j p (hne hj hjj) hp hs
  · intro j p hj hp hs
    by_cases hjj : j = j0
    · subst hjj; rw [ho] at hp; cases hp; simp only [if_true] at hs ⊢; exact hgo hs
    · simp only [if_neg hjj] at hs ⊢; exact X.go j p (hne hj hjj) hp hs
  · intro j p f hj hp hs hf
    rw [if_neg (show j + 1 ≠ j0 by omega)]
    by_cases hjj : j = j0
    · subst hjj; rw [ho] at hp; cases hp; simp only [if_true] at hs hf ⊢; rw [h1]; exact hread f hs hf
    · simp only [if_neg hjj] at hs hf ⊢; exact X.read j p f (hne hj hjj) hp hs hf
  · intro j p hj hp hs hf
    rw [if_neg (show j + 1 ≠ j0 by omega)]
    by_cases hjj : j = j0
    · subst hjj; rw [ho] at hp; cases hp; simp only [if_true] at hs hf ⊢; rw [h1]; exact hother hs hf
    · simp only [if_neg hjj] at hs hf ⊢; exact X.other j p (hne hj hjj) hp hs hf
  · intro j p f e oe he hej hp hoe hs hse hef hf hord
    rw [if_neg (show j ≠ j0 by omega)] at hs hf ⊢
    by_cases hee : e = j0
    · subst hee; rw [ho] at hoe; cases hoe; simp only [if_true] at hse ⊢; exact hpast hse hef j p f (by omega) hp hs hf hord
    · simp only [if_neg hee] at hse ⊢; exact X.pastR j p f e oe (hne he hee) hej hp hoe hs hse hef hf hord
  · intro j p f e oe hj hje hp hoe hs hse hef hf hord
    rw [if_neg (show e ≠ j0 by omega)] at hse
    rw [if_neg (show e + 1 ≠ j0 by omega)]
    by_cases hjj : j = j0
    · subst hjj; rw [ho] at hp; cases hp; simp only [if_true] at hs hf ⊢; exact hfutR f hs hf e oe (by omega) hoe hse hef hord
    · simp only [if_neg hjj] at hs hf ⊢; exact X.futR j p f e oe (hne hj hjj) hje hp hoe hs hse hef hf hord
  · intro j p e oe hj hje hp hoe hs hse hef hf ha hord
    rw [if_neg (show e ≠ j0 by omega)] at hse
    rw [if_neg (show e + 1 ≠ j0 by omega), if_neg (show j + 1 ≠ j0 by omega)]
    by_cases hjj : j = j0
    · subst hjj; rw [ho] at hp; cases hp; simp only [if_true] at hs hf ⊢; rw [h1]; exact hfutA hs hf ha e oe (by omega) hoe hse hef hord
    · simp only [if_neg hjj] at hs hf ⊢; exact X.futA j p e oe (hne hj hjj) hje hp hoe hs hse hef hf ha hord
theorem trp_cons {ops : Array Oper} {bs : List Nat} {j0 : Nat} {o : Oper} (ho : ops[j0]? = some o) {T : List Value} {H H1 : AH} {v : Value} {s : Bool} {tT : Nat → List Value} {tH : Nat → AH} {sk : Nat → Bool} {vl : Nat → Value} {past : List (Nat × AH)} {reads : List Rd}
    (h1 : tH (j0 + 1) = H1)
    (hp : ∀ p ∈ past, (∀ j o f, j0 + 1 ≤ j → ops[j]? = some o → sk j = false → opRead P (opv (tT j)) o.op = some f → ordB bs p.1 j = false → f p.2 = some (vl j)) ∧ (∀ f, s = false → opRead P (opv T) o.op = some f → ordB bs p.1 j0 = false → f p.2 = some v))
    (hr : ∀ rd ∈ reads, (∀ e oe, j0 + 1 ≤ e → ops[e]? = some oe → sk e = false → isEff oe.op = true → ordB bs rd.at_ e = false → rd.ok (tH (e + 1))) ∧ (s = false → isEff o.op = true → ordB bs rd.at_ j0 = false → rd.ok H1)) :
    TrP P ops bs j0 (fun i => if i = j0 then T else tT i) (fun i => if i = j0 then H else tH i) (fun i => if i = j0 then s else sk i) (fun i => if i = j0 then v else vl i) past reads := by
  refine ⟨fun p hpp j q f hj hq hs hf hord => ?_, fun rd hrd e oe he hoe hs hef hord => ?_⟩
  · by_cases hjj : j = j0
    · subst hjj; rw [ho] at hq; cases hq; simp only [if_true] at hs hf ⊢; exact (hp p hpp).2 f hs hf hord
    · simp only [if_neg hjj] at hs hf ⊢; exact (hp p hpp).1 j q f (by omega) hq hs hf hord
  · rw [if_neg (show e + 1 ≠ j0 by omega)]
    by_cases hee : e = j0
    · subst hee; rw [ho] at hoe; cases hoe; simp only [if_true] at hs; rw [h1]; exact (hr rd hrd).2 hs hef hord
    · simp only [if_neg hee] at hs; exact (hr rd hrd).1 e oe (by omega) hoe hs hef hord
theorem evD_inv (ops : Array Oper) (bs : List Nat) {R : Type} {K : List Value → AH → Option R} {r : R} : ∀ (l : List Oper) (j0 : Nat) (T : List Value) (H : AH) (past : List (Nat × AH)) (reads : List Rd), (∀ j, l[j]? = ops[j0 + j]?) → evD P call ops bs l j0 T H past reads K = some r →
    ∃ tT tH sk vl, tT j0 = T ∧ tH j0 = H ∧ Tr P call ops bs j0 tT tH sk vl ∧ TrP P ops bs j0 tT tH sk vl past reads ∧ K (tT (j0 + l.length)) (tH (j0 + l.length)) = some r
  | [], j0, T, H, past, reads, hl, h => by
    have none_ : ∀ j, j0 ≤ j → ops[j]? = none := fun j hj => by have := hl (j - j0); rw [show j0 + (j - j0) = j by omega] at this; rw [← this]; rfl
    have no : ∀ {j : Nat} {o : Oper}, j0 ≤ j → ops[j]? = some o → False := fun hj ho => by rw [none_ _ hj] at ho; cases ho
    exact ⟨fun _ => T, fun _ => H, fun _ => false, fun _ => undef, rfl, rfl, ⟨fun j o hj ho => (no hj ho).elim, fun j o hj ho => (no hj ho).elim, fun j o hj ho => (no hj ho).elim, fun j o f hj ho => (no hj ho).elim, fun j o hj ho => (no hj ho).elim,
      fun j o f e oe he hej ho => (no (by omega) ho).elim, fun j o f e oe hj hje ho => (no hj ho).elim, fun j o e oe hj hje ho => (no hj ho).elim⟩, ⟨fun p _ j o f hj ho => (no hj ho).elim, fun rd _ e oe he hoe => (no he hoe).elim⟩, h⟩
  | o :: l, j0, T, H, past, reads, hl, h => by
    have ho : ops[j0]? = some o := by have := hl 0; simpa using this.symm
    have hl' : ∀ j, l[j]? = ops[j0 + 1 + j]? := fun j => by have := hl (j + 1); rw [show j0 + 1 + j = j0 + (j + 1) by omega]; simpa using this
    have hlen : j0 + (o :: l).length = j0 + 1 + l.length := by simp; omega
    -- passed over
    have fin_skip : ∀ (past' : List (Nat × AH)) (reads' : List Rd), (∀ p ∈ past, p ∈ past') → (∀ rd ∈ reads, rd ∈ reads') → evD P call ops bs l (j0 + 1) (putT T o.dst undef) H past' reads' K = some r → (∃ g want, o.guard = some (g, want) ∧ Off (yieldV ops T g) want) →
        ∃ tT tH sk vl, tT j0 = T ∧ tH j0 = H ∧ Tr P call ops bs j0 tT tH sk vl ∧ TrP P ops bs j0 tT tH sk vl past reads ∧ K (tT (j0 + (o :: l).length)) (tH (j0 + (o :: l).length)) = some r := by
      intro past' reads' hp' hr' hh hg
      obtain ⟨tT, tH, sk, vl, h0, h1, X, Y, hK⟩ := evD_inv ops bs l (j0 + 1) _ _ _ _ hl' hh
      refine ⟨_, _, _, _, if_pos rfl, if_pos rfl, tr_cons (s := true) (v := undef) ho h0 h1 X (fun _ => ⟨hg, rfl, rfl⟩) (fun hx => by cases hx) (fun f hx => by cases hx) (fun hx => by cases hx) (fun hx => by cases hx) (fun f hx => by cases hx) (fun hx => by cases hx),
        trp_cons ho h1 (fun p hp => ⟨Y.past p (hp' p hp), fun f hx => by cases hx⟩) (fun rd hrd => ⟨Y.reads rd (hr' rd hrd), fun hx => by cases hx⟩), ?_⟩
      rw [hlen]
      simp only [if_neg (show j0 + 1 + l.length ≠ j0 by omega)]
      exact hK
    have fin_read : ∀ (v : Value) (ok : AH → Prop) (f : AH → Option Value), opRead P (opv T) o.op = some f → f H = some v → (∀ X, ok X → f X = some v) → (o.guard = none ∨ ∃ g want, o.guard = some (g, want) ∧ yieldV ops T g = .bool want) → evD P call ops bs l (j0 + 1) (putT T o.dst v) H past (⟨j0, ok⟩ :: reads) K = some r →
        (∀ p ∈ past, ordB bs p.1 j0 = false → f p.2 = some v) → ∃ tT tH sk vl, tT j0 = T ∧ tH j0 = H ∧ Tr P call ops bs j0 tT tH sk vl ∧ TrP P ops bs j0 tT tH sk vl past reads ∧ K (tT (j0 + (o :: l).length)) (tH (j0 + (o :: l).length)) = some r := by
      intro v ok f hf hv hok hg hh hc
      obtain ⟨tT, tH, sk, vl, h0, h1, X, Y, hK⟩ := evD_inv ops bs l (j0 + 1) _ _ _ _ hl' hh
      have hne := read_not_eff hf
      refine ⟨_, _, _, _, if_pos rfl, if_pos rfl, tr_cons (s := false) (v := v) ho h0 h1 X (fun hx => by cases hx) (fun _ => hg) (fun f' _ hf' => ?_) (fun _ hx => by rw [hf] at hx; cases hx) (fun _ hx => by rw [hne] at hx; cases hx) (fun f' _ hf' e oe he hoe hse hef hord => ?_) (fun _ hx => by rw [hf] at hx; cases hx),
        trp_cons ho h1 (fun p hp => ⟨Y.past p hp, fun f' _ hf' hord => ?_⟩) (fun rd hrd => ⟨Y.reads rd (by simp [hrd]), fun _ hx => by rw [hne] at hx; cases hx⟩), ?_⟩
      · rw [hf] at hf'; cases hf'; exact ⟨hv, rfl⟩
      · rw [hf] at hf'; cases hf'; exact hok _ (Y.reads ⟨j0, ok⟩ (by simp) e oe he hoe hse hef hord)
      · rw [hf] at hf'; cases hf'; exact hc p hp hord
      · rw [hlen]
        simp only [if_neg (show j0 + 1 + l.length ≠ j0 by omega)]
        exact hK
    have fin_eff : ∀ (v : Value) (H1 : AH), opRead P (opv T) o.op = none → aRes P call (opv T) o.op H = some (v, H1) → isEff o.op = true → (o.guard = none ∨ ∃ g want, o.guard = some (g, want) ∧ yieldV ops T g = .bool want) → evD P call ops bs l (j0 + 1) (putT T o.dst v) H1 ((j0, H) :: past) reads K = some r →
        (∀ rd ∈ reads, ordB bs rd.at_ j0 = false → rd.ok H1) → ∃ tT tH sk vl, tT j0 = T ∧ tH j0 = H ∧ Tr P call ops bs j0 tT tH sk vl ∧ TrP P ops bs j0 tT tH sk vl past reads ∧ K (tT (j0 + (o :: l).length)) (tH (j0 + (o :: l).length)) = some r := by
      intro v H1 hf hv he hg hh hc
      obtain ⟨tT, tH, sk, vl, h0, h1, X, Y, hK⟩ := evD_inv ops bs l (j0 + 1) _ _ _ _ hl' hh
      refine ⟨_, _, _, _, if_pos rfl, if_pos rfl, tr_cons (s := false) (v := v) ho h0 h1 X (fun hx => by cases hx) (fun _ => hg) (fun f' _ hf' => by rw [hf] at hf'; cases hf') (fun _ _ => hv) (fun _ _ j p f hj hp hs hf hord => Y.past (j0, H) (by simp) j p f hj hp hs hf hord) (fun f' _ hf' => by rw [hf] at hf'; cases hf') (fun _ _ hx => by rw [alloc_not_eff hx] at he; cases he),
        trp_cons ho h1 (fun p hp => ⟨Y.past p (by simp [hp]), fun f' _ hf' => by rw [hf] at hf'; cases hf'⟩) (fun rd hrd => ⟨Y.reads rd hrd, fun _ _ hord => hc rd hrd hord⟩), ?_⟩
      rw [hlen]
      simp only [if_neg (show j0 + 1 + l.length ≠ j0 by omega)]
      exact hK
    have fin_alloc : ∀ (v : Value) (H1 : AH) (ok : AH → Prop), (∀ X, ok X → blk X H.length = blk H1 H.length) → opRead P (opv T) o.op = none → aRes P call (opv T) o.op H = some (v, H1) → isEff o.op = false → (o.guard = none ∨ ∃ g want, o.guard = some (g, want) ∧ yieldV ops T g = .bool want) → evD P call ops bs l (j0 + 1) (putT T o.dst v) H1 past (⟨j0, ok⟩ :: reads) K = some r → ∃ tT tH sk vl, tT j0 = T ∧ tH j0 = H ∧ Tr P call ops bs j0 tT tH sk vl ∧ TrP P ops bs j0 tT tH sk vl past reads ∧ K (tT (j0 + (o :: l).length)) (tH (j0 + (o :: l).length)) = some r := by
      intro v H1 ok hok hf hv he hg hh
      obtain ⟨tT, tH, sk, vl, h0, h1, X, Y, hK⟩ := evD_inv ops bs l (j0 + 1) _ _ _ _ hl' hh
      refine ⟨_, _, _, _, if_pos rfl, if_pos rfl, tr_cons (s := false) (v := v) ho h0 h1 X (fun hx => by cases hx) (fun _ => hg) (fun f' _ hf' => by rw [hf] at hf'; cases hf') (fun _ _ => hv) (fun _ hx => by rw [he] at hx; cases hx) (fun f' _ hf' => by rw [hf] at hf'; cases hf') (fun _ _ _ e oe hee hoe hse hef hord => hok _ (Y.reads ⟨j0, ok⟩ (by simp) e oe hee hoe hse hef hord)),
        trp_cons ho h1 (fun p hp => ⟨Y.past p hp, fun f' _ hf' => by rw [hf] at hf'; cases hf'⟩) (fun rd hrd => ⟨Y.reads rd (by simp [hrd]), fun _ hx => by rw [he] at hx; cases hx⟩), ?_⟩
      rw [hlen]
      simp only [if_neg (show j0 + 1 + l.length ≠ j0 by omega)]
      exact hK
    have fin_pure : ∀ (v : Value) (H1 : AH), opRead P (opv T) o.op = none → aRes P call (opv T) o.op H = some (v, H1) → isEff o.op = false → isAlloc o.op = false → (o.guard = none ∨ ∃ g want, o.guard = some (g, want) ∧ yieldV ops T g = .bool want) → evD P call ops bs l (j0 + 1) (putT T o.dst v) H1 past reads K = some r → ∃ tT tH sk vl, tT j0 = T ∧ tH j0 = H ∧ Tr P call ops bs j0 tT tH sk vl ∧ TrP P ops bs j0 tT tH sk vl past reads ∧ K (tT (j0 + (o :: l).length)) (tH (j0 + (o :: l).length)) = some r := by
      intro v H1 hf hv he ha hg hh
      obtain ⟨tT, tH, sk, vl, h0, h1, X, Y, hK⟩ := evD_inv ops bs l (j0 + 1) _ _ _ _ hl' hh
      refine ⟨_, _, _, _, if_pos rfl, if_pos rfl, tr_cons (s := false) (v := v) ho h0 h1 X (fun hx => by cases hx) (fun _ => hg) (fun f' _ hf' => by rw [hf] at hf'; cases hf') (fun _ _ => hv) (fun _ hx => by rw [he] at hx; cases hx) (fun f' _ hf' => by rw [hf] at hf'; cases hf') (fun _ _ hx => by rw [ha] at hx; cases hx),
        trp_cons ho h1 (fun p hp => ⟨Y.past p hp, fun f' _ hf' => by rw [hf] at hf'; cases hf'⟩) (fun rd hrd => ⟨Y.reads rd hrd, fun _ hx => by rw [he] at hx; cases hx⟩), ?_⟩
      rw [hlen]
      simp only [if_neg (show j0 + 1 + l.length ≠ j0 by omega)]
      exact hK
    unfold evD at h
    cases hg : o.guard with
    | none =>
      rw [hg] at h
      simp only at h
      split at h
      · rename_i f hf
        obtain ⟨v, hv, hh⟩ := bind_some h
        obtain ⟨hh, hc⟩ := chkPast_inv past hh
        exact fin_read v _ f hf hv (fun X hX => hX) (.inl hg) hh hc
      · rename_i hf
        rw [aOp_res] at h
        obtain ⟨⟨v, H1⟩, hv, hh⟩ := bind_some h
        simp only at hh
        cases he : isEff o.op with
        | true =>
          rw [he] at hh
          obtain ⟨hh, hc⟩ := chkReads_inv reads hh
          exact fin_eff v H1 hf hv he (.inl hg) hh hc
        | false =>
          rw [he] at hh
          cases ha : isAlloc o.op with
          | true => rw [ha] at hh; exact fin_alloc v H1 _ (fun X hX => hX) hf hv he (.inl hg) hh
          | false => rw [ha] at hh; exact fin_pure v H1 hf hv he ha (.inl hg) hh
    | some q =>
      obtain ⟨g, want⟩ := q
      rw [hg] at h
      simp only at h
      split at h
      · rename_i f hf
        obtain ⟨p, hp, hh⟩ := bind_some h
        obtain ⟨hh, hc⟩ := chkPast_inv past hh
        rcases gOp_inv hp with ⟨hu, h5⟩ | ⟨hu, rfl⟩
        · obtain ⟨v, hv, h6⟩ := bind_some h5
          cases h6
          exact fin_read v _ f hf hv (fun X hX => hX hu) (.inr ⟨g, want, hg, hu⟩) hh (fun p hp hord => hc p hp hord hu)
        · exact fin_skip _ _ (fun p hp => hp) (fun rd hrd => by simp [hrd]) hh ⟨g, want, hg, hu⟩
      · rename_i hf
        obtain ⟨⟨v, H1⟩, hp, hh⟩ := bind_some h
        simp only at hh
        rcases gOp_inv hp with ⟨hu, h5⟩ | ⟨hu, h5⟩
        · cases he : isEff o.op with
          | true =>
            rw [he] at hh
            obtain ⟨hh, hc⟩ := chkReads_inv reads hh
            exact fin_eff v H1 hf h5 he (.inr ⟨g, want, hg, hu⟩) hh hc
          | false =>
            rw [he] at hh
            cases ha : isAlloc o.op with
            | true => rw [ha] at hh; exact fin_alloc v H1 _ (fun X hX => hX hu) hf h5 he (.inr ⟨g, want, hg, hu⟩) hh
            | false => rw [ha] at hh; exact fin_pure v H1 hf h5 he ha (.inr ⟨g, want, hg, hu⟩) hh
        · cases h5
          cases he : isEff o.op with
          | true =>
            rw [he] at hh
            obtain ⟨hh, hc⟩ := chkReads_inv reads hh
            exact fin_skip _ _ (fun p hp => by simp [hp]) (fun rd hrd => hrd) hh ⟨g, want, hg, hu⟩
          | false =>
            rw [he] at hh
            cases ha : isAlloc o.op with
            | true => rw [ha] at hh; exact fin_skip _ _ (fun p hp => hp) (fun rd hrd => by simp [hrd]) hh ⟨g, want, hg, hu⟩
            | false => rw [ha] at hh; exact fin_skip _ _ (fun p hp => hp) (fun rd hrd => hrd) hh ⟨g, want, hg, hu⟩
end
end Go.AM
set_option linter.unusedVariables false
set_option linter.unusedSimpArgs false
namespace Go.AM
open Go.RowKit

section
variable {P : Program} {call : CallF}

def cutM (m : Mp) (l : Nat) : Mp := fun b => if b < l then m b else none
theorem cutM_some {m : Mp} {l b : Nat} {L : Loc} (h : cutM m l b = some L) : b < l ∧ m b = some L := by
  unfold cutM at h
  split at h
  · rename_i hb; exact ⟨hb, h⟩
  · cases h
theorem cutM_of {m : Mp} {l b : Nat} {L : Loc} (h : b < l) (hm : m b = some L) : cutM m l b = some L := by rw [cutM, if_pos h, hm]
/-- All that a value leads to lies below l. -/
def Bel (l : Nat) (x : Value) : Prop := ∃ (mm : Mp) (y : Value), VRel mm x y ∧ ∀ b L, mm b = some L → b < l
theorem Bel.list {l : Nat} {mm : Mp} {xs ys : List Value} (h : LRel mm xs ys) (hb : ∀ b L, mm b = some L → b < l) : ∀ (i : Nat) (x : Value), xs[i]? = some x → Bel l x := by
  intro i x hx
  have hlt := (List.getElem?_eq_some_iff.1 hx).1
  have hy := List.getElem?_eq_getElem (show i < ys.length by rw [← h.1]; exact hlt)
  exact ⟨mm, _, h.2 i x _ hx hy, hb⟩
theorem VRel.cutB {m : Mp} {l : Nat} {x y : Value} (h : VRel m x y) : Bel l x → VRel (cutM m l) x y := by
  induction h with
  | unk v => intro _; exact .unk v
  | flat v hf => intro _; exact .flat v hf
  | ptr b off L hm =>
    intro hb
    obtain ⟨mm, y, hr, hl⟩ := hb
    obtain ⟨L', h1, _⟩ := hr.ptr_inv
    exact .ptr b off L (cutM_of (hl _ _ h1) hm)
  | slice b off off' len cap cap' L hm h1 h2 h3 h4 h5 h7 =>
    intro hb
    obtain ⟨mm, y, hr, hl⟩ := hb
    obtain ⟨L', _, _, h6, _⟩ := hr.slice_inv
    exact .slice b off off' len cap cap' L (cutM_of (hl _ _ h6) hm) h1 h2 h3 h4 h5 h7
  | agg xs ys hs _ ih =>
    intro hb
    obtain ⟨mm, y, hr, hl⟩ := hb
    obtain ⟨zs, rfl, hlr⟩ := hr.agg_inv
    exact .agg xs ys hs fun i x y hx hy => ih i x y hx hy (Bel.list hlr hl i x (by simpa using hx))
  | tuple xs ys hs _ ih =>
    intro hb
    obtain ⟨mm, y, hr, hl⟩ := hb
    obtain ⟨zs, rfl, hlr⟩ := hr.tuple_inv
    exact .tuple xs ys hs fun i x y hx hy => ih i x y hx hy (Bel.list hlr hl i x (by simpa using hx))
  | func f a b a' b' h1 _ h2 _ ih1 ih2 =>
    intro hb
    obtain ⟨mm, y, hr, hl⟩ := hb
    have hsp : LRel mm a.toList (match y with | .func _ u _ => u.toList | _ => []) ∧ LRel mm b.toList (match y with | .func _ _ u => u.toList | _ => []) := by
      cases hr with
      | flat v hf => simp [flat1] at hf
      | func f a b a' b' h1 h2 h3 h4 => exact ⟨⟨by simpa using h1, fun i x y hx hy => h2 i x y (by simpa using hx) (by simpa using hy)⟩, ⟨by simpa using h3, fun i x y hx hy => h4 i x y (by simpa using hx) (by simpa using hy)⟩⟩
    exact .func f a b a' b' h1 (fun i x y hx hy => ih1 i x y hx hy (Bel.list hsp.1 hl i x (by simpa using hx))) h2 (fun i x y hx hy => ih2 i x y hx hy (Bel.list hsp.2 hl i x (by simpa using hx)))
/-- What holds behind an operation whatever it comes to, holds. -/
theorem wp_const {o : Oper} {a : Act} {w : World} {C : Prop} (h : o.wp P a w (fun _ _ => C) (fun _ _ _ => C)) : C := by
  unfold Oper.wp at h
  generalize (execOp a.eval o).run P w = res at h
  cases res with
  | halt hh w' => cases hh <;> simp only [Oper.upon] at h <;> exact h
  | ok n w' =>
    cases n <;> simp only [Oper.upon] at h
    case enter f args =>
      obtain ⟨e, w'', fr, hR, _⟩ := h []
      cases e with
      | returned v => exact hR
      | panicked c => exact hR
      | outgrown => obtain ⟨_, _, hc⟩ := hR; exact hc
    case row row args =>
      obtain ⟨v, w'', hR, _⟩ := h default []
      exact hR
    all_goals exact h
theorem read_res {ρ : Operand → Value} {op : Op} {f : AH → Option Value} (hf : opRead P ρ op = some f) (H : AH) : aRes P call ρ op H = (f H).bind fun v => some (v, H) := by
  unfold opRead at hf
  split at hf
  · cases hf; rfl
  · rename_i s d x
    cases hb : isBytesToString P s d with
    | true => rw [hb] at hf; cases hf; unfold aRes; simp only [aOp, hb, cond_true]
    | false => rw [hb] at hf; cases hf
  · cases hf
section
variable {ops : Array Oper} {bs : List Nat} {tT : Nat → List Value} {tH : Nat → AH} {sk : Nat → Bool} {vl : Nat → Value}
theorem Tr.res (X : Tr P call ops bs 0 tT tH sk vl) {j : Nat} {o : Oper} (ho : ops[j]? = some o) (hs : sk j = false) : aRes P call (opv (tT j)) o.op (tH j) = some (vl j, tH (j + 1)) := by
  cases hf : opRead P (opv (tT j)) o.op with
  | none => exact X.other j o (Nat.zero_le _) ho hs hf
  | some f =>
    obtain ⟨h1, h2⟩ := X.read j o f (Nat.zero_le _) ho hs hf
    rw [read_res hf, h1, h2]
    rfl
/-- The text's own order can be walked. -/
theorem Tr.walk (hcall : CallOK P call) (X : Tr P call ops bs 0 tT tH sk vl) {B0 : Nat} {w0 : World} {m : Mp} {a : Act} {w : World} (R0 : Rel P B0 w0 m (tH 0) w) (hT : LRel m (tT 0) a.tmps.toList) :
    ∀ j, j ≤ ops.size → ∃ (m' : Mp) (a' : Act) (w' : World), Ext m (tH 0) w m' (tH j) w' ∧ Rel P B0 w0 m' (tH j) w' ∧ LRel m' (tT j) a'.tmps.toList
  | 0, _ => ⟨m, a, w, Ext.refl _ _ _, R0, hT⟩
  | j + 1, hj => by
    obtain ⟨m1, a1, w1, E1, R1, T1⟩ := Tr.walk hcall X R0 hT j (by omega)
    have ho : ops[j]? = some ops[j] := Array.getElem?_eq_getElem (by omega)
    cases hs : sk j with
    | true =>
      obtain ⟨_, h2, h3⟩ := X.skip j _ (Nat.zero_le _) ho hs
      rw [X.step j _ (Nat.zero_le _) ho, h2, h3]
      exact ⟨m1, a1.put ops[j].dst undef, w1, E1, R1, put_rel T1 _ (VRel.undef _)⟩
    | false =>
      have h1 := res_sound hcall (X.res ho hs) R1 T1
      refine wp_const (h1 (fun _ _ => _) (fun _ _ _ => _) fun m' v' w' E R' hv => ?_)
      rw [X.step j _ (Nat.zero_le _) ho]
      exact ⟨m', a1.put ops[j].dst v', w', Ext.trans (fun b L hb => (R0.dom b L hb).1) E1 E, R', put_rel (T1.mono E.mono) _ hv⟩
/-- From one step to the next. -/
theorem Tr.next (hcall : CallOK P call) (X : Tr P call ops bs 0 tT tH sk vl) {B0 : Nat} {w0 : World} {m : Mp} {a : Act} {w : World} (R0 : Rel P B0 w0 m (tH 0) w) (hT : LRel m (tT 0) a.tmps.toList) {j : Nat} (hj : j < ops.size) :
    (tH j).length ≤ (tH (j + 1)).length ∧ ∀ b k', b < (tH j).length → blk (tH (j + 1)) b = some k' → ∃ k, blk (tH j) b = some k ∧ k.kind = k'.kind := by
  obtain ⟨m1, a1, w1, E1, R1, T1⟩ := X.walk hcall R0 hT j (by omega)
  have ho : ops[j]? = some ops[j] := Array.getElem?_eq_getElem (by omega)
  cases hs : sk j with
  | true =>
    obtain ⟨_, _, h3⟩ := X.skip j _ (Nat.zero_le _) ho hs
    rw [h3]
    exact ⟨Nat.le_refl _, fun b k' _ hk => ⟨k', hk, rfl⟩⟩
  | false =>
    have h1 := res_sound hcall (X.res ho hs) R1 T1
    exact wp_const (h1 (fun _ _ => _) (fun _ _ _ => _) fun m' v' w' E R' hv => ⟨E.len, E.alive⟩)
theorem Tr.bel (hcall : CallOK P call) (X : Tr P call ops bs 0 tT tH sk vl) {B0 : Nat} {w0 : World} {m : Mp} {a : Act} {w : World} (R0 : Rel P B0 w0 m (tH 0) w) (hT : LRel m (tT 0) a.tmps.toList) {j : Nat} (hj : j ≤ ops.size) (s : Nat) (x : Value) (hx : (tT j)[s]? = some x) :
    Bel (tH j).length x := by
  obtain ⟨m1, a1, w1, E1, R1, T1⟩ := X.walk hcall R0 hT j hj
  exact Bel.list T1 (fun b L hb => (R1.dom b L hb).1) s x hx
theorem Tr.lens (hcall : CallOK P call) (X : Tr P call ops bs 0 tT tH sk vl) {B0 : Nat} {w0 : World} {m : Mp} {a : Act} {w : World} (R0 : Rel P B0 w0 m (tH 0) w) (hT : LRel m (tT 0) a.tmps.toList) (i : Nat) : ∀ d, i + d ≤ ops.size → (tH i).length ≤ (tH (i + d)).length ∧ ∀ b k', b < (tH i).length → blk (tH (i + d)) b = some k' → ∃ k, blk (tH i) b = some k ∧ k.kind = k'.kind
  | 0, _ => ⟨Nat.le_refl _, fun b k' _ hk => ⟨k', hk, rfl⟩⟩
  | d + 1, hd => by
    obtain ⟨h1, h2⟩ := Tr.lens hcall X R0 hT i d (by omega)
    obtain ⟨h3, h4⟩ := X.next hcall R0 hT (j := i + d) (by omega)
    refine ⟨Nat.le_trans h1 h3, fun b k' hb hk => ?_⟩
    obtain ⟨k1, h5, h6⟩ := h4 b k' (Nat.lt_of_lt_of_le hb h1) hk
    obtain ⟨k2, h7, h8⟩ := h2 b k1 hb h5
    exact ⟨k2, h7, h8.trans h6⟩
/-- An acting operation that is done. -/
def eE (ops : Array Oper) (sk : Nat → Bool) (j : Nat) : Bool := (ops[j]?).any (fun o => isEff o.op) && !sk j
/-- An operation that doesn't act leaves the blocks that there are; if it makes one, it is told which. -/
theorem Tr.noeff (X : Tr P call ops bs 0 tT tH sk vl) {j : Nat} (hj : j < ops.size) (he : eE ops sk j = false) : (tH (j + 1) = tH j) ∨ ∃ k : Blk, k.kind = .fix ∧ tH (j + 1) = tH j ++ [some k] := by
  have ho : ops[j]? = some ops[j] := Array.getElem?_eq_getElem (by omega)
  cases hs : sk j with
  | true => exact .inl (X.skip j _ (Nat.zero_le _) ho hs).2.2
  | false =>
    have heff : isEff ops[j].op = false := by simpa [eE, ho, hs] using he
    cases hf : opRead P (opv (tT j)) ops[j].op with
    | some f => exact .inl (X.read j _ f (Nat.zero_le _) ho hs hf).2
    | none =>
      have h1 := X.other j _ (Nat.zero_le _) ho hs hf
      cases ha : isAlloc ops[j].op with
      | true => obtain ⟨k, h2, h3, _⟩ := alloc_res ha h1; exact .inr ⟨k, h2.1, h3⟩
      | false => exact .inl (pure_res heff hf ha h1).1
theorem blk_app_old {H : AH} {b : Nat} (k : Option Blk) (h : b < H.length) : blk (H ++ [k]) b = blk H b := by
  unfold blk
  rw [List.getElem?_append_left h]
theorem Tr.same (X : Tr P call ops bs 0 tT tH sk vl) (i : Nat) : ∀ d, i + d ≤ ops.size → (∀ e, i ≤ e → e < i + d → eE ops sk e = false) → (tH i).length ≤ (tH (i + d)).length ∧ ∀ b, b < (tH i).length → blk (tH (i + d)) b = blk (tH i) b
  | 0, _, _ => ⟨Nat.le_refl _, fun b _ => rfl⟩
  | d + 1, hd, he => by
    obtain ⟨h1, h2⟩ := Tr.same X i d (by omega) fun e h1 h2 => he e h1 (by omega)
    rcases X.noeff (j := i + d) (by omega) (he (i + d) (by omega) (by omega)) with h3 | ⟨k, _, h3⟩
    · rw [show i + (d + 1) = i + d + 1 by omega, h3]; exact ⟨h1, h2⟩
    · rw [show i + (d + 1) = i + d + 1 by omega, h3]
      exact ⟨by simp; omega, fun b hb => by rw [blk_app_old _ (Nat.lt_of_lt_of_le hb h1)]; exact h2 b hb⟩
end
end
end Go.AM
set_option linter.unusedVariables false
set_option linter.unusedSimpArgs false
namespace Go.AM
open Go.RowKit

theorem BRel.world {P : Program} {B0 : Nat} {m : Mp} {L : Loc} {k : Blk} {w w1 : World} (h : BRel P B0 m L k w) (e : w1.heap[L.blk]? = w.heap[L.blk]?) : BRel P B0 m L k w1 := by
  obtain ⟨h1, ⟨c, e', fr, h2, h3⟩, h4, h5⟩ := h
  exact ⟨h1, ⟨c, e', fr, by rw [e]; exact h2, h3⟩, h4, h5⟩
theorem BRel.mono {P : Program} {B0 : Nat} {m m' : Mp} {L : Loc} {k : Blk} {w : World} (hm : ∀ b L, m b = some L → m' b = some L) (h : BRel P B0 m L k w) : BRel P B0 m' L k w := by
  obtain ⟨h1, ⟨c, e', fr, h2, h3, h3'⟩, h4, h5⟩ := h
  exact ⟨h1, ⟨c, e', fr, h2, h3.mono hm, h3'⟩, h4, h5⟩
section
variable (tH : Nat → AH) (n : Nat)
open Classical in
/-- A block's content where it is made. -/
noncomputable def ini (b : Nat) : Option Blk := if h : ∃ j, j < n ∧ (tH j).length ≤ b ∧ b < (tH (j + 1)).length then blk (tH (Classical.choose h + 1)) b else none
noncomputable def kb (q b : Nat) : Option Blk := if b < (tH q).length then blk (tH q) b else ini tH n b
variable {tH n}
theorem ini_eq (hmono : ∀ i d, i + d ≤ n → (tH i).length ≤ (tH (i + d)).length) {j b : Nat} (hj : j < n) (h1 : (tH j).length ≤ b) (h2 : b < (tH (j + 1)).length) : ini tH n b = blk (tH (j + 1)) b := by
  have h : ∃ j, j < n ∧ (tH j).length ≤ b ∧ b < (tH (j + 1)).length := ⟨j, hj, h1, h2⟩
  unfold ini
  rw [dif_pos h]
  obtain ⟨g1, g2, g3⟩ := Classical.choose_spec h
  have : Classical.choose h = j := by
    rcases Nat.lt_trichotomy (Classical.choose h) j with hlt | heq | hgt
    · have := hmono (Classical.choose h + 1) (j - (Classical.choose h + 1)) (by omega)
      rw [show Classical.choose h + 1 + (j - (Classical.choose h + 1)) = j by omega] at this
      omega
    · exact heq
    · have := hmono (j + 1) (Classical.choose h - (j + 1)) (by omega)
      rw [show j + 1 + (Classical.choose h - (j + 1)) = Classical.choose h by omega] at this
      omega
  rw [this]
end
structure VR (P : Program) (B0 : Nat) (w0 : World) (tH : Nat → AH) (n q : Nat) (m : Mp) (w : World) : Prop where
  below : Below B0 w0 w
  hB : B0 ≤ w.heap.size
  dom : ∀ b L, m b = some L → b < (tH n).length ∧ L.blk < w.heap.size
  blks : ∀ b L k, m b = some L → kb tH n q b = some k → BRel P B0 (cutM m (max (tH q).length (b + 1))) L k w
  inj : ∀ b1 b2 L1 L2 k1 k2, m b1 = some L1 → m b2 = some L2 → kb tH n q b1 = some k1 → kb tH n q b2 = some k2 → k1.kind ≠ .ro → b1 ≠ b2 → L1.blk ≠ L2.blk
section
variable {P : Program} {B0 : Nat} {w0 : World} {tH : Nat → AH} {n q : Nat} {m : Mp} {w : World}
theorem kb_lt {b : Nat} (h : b < (tH q).length) : kb tH n q b = blk (tH q) b := if_pos h
theorem kb_ge {b : Nat} (h : (tH q).length ≤ b) : kb tH n q b = ini tH n b := if_neg (by omega)
theorem VR.rel (h : VR P B0 w0 tH n q m w) : Rel P B0 w0 (cutM m (tH q).length) (tH q) w := by
  refine ⟨h.below, h.hB, fun b L hm => ?_, fun b L k hm hk => ?_, fun b1 b2 L1 L2 k1 k2 hm1 hm2 hk1 hk2 hne hbb => ?_⟩
  · obtain ⟨h1, h2⟩ := cutM_some hm
    exact ⟨h1, (h.dom b L h2).2⟩
  · obtain ⟨h1, h2⟩ := cutM_some hm
    have := h.blks b L k h2 (by rw [kb_lt h1]; exact hk)
    rwa [Nat.max_eq_left (by omega)] at this
  · obtain ⟨h1, h2⟩ := cutM_some hm1
    obtain ⟨h3, h4⟩ := cutM_some hm2
    exact h.inj b1 b2 L1 L2 k1 k2 h2 h4 (by rw [kb_lt h1]; exact hk1) (by rw [kb_lt h3]; exact hk2) hne hbb
def padH (tH : Nat → AH) (n q : Nat) : AH := tH q ++ List.replicate ((tH n).length - (tH q).length) none
theorem blk_pad {b : Nat} {k : Blk} (h : blk (padH tH n q) b = some k) : b < (tH q).length ∧ blk (tH q) b = some k := by
  unfold padH at h
  rcases Nat.lt_or_ge b (tH q).length with h1 | h1
  · refine ⟨h1, ?_⟩
    unfold blk at h ⊢
    rwa [List.getElem?_append_left h1] at h
  · unfold blk at h
    rw [List.getElem?_append_right h1] at h
    rw [List.getElem?_replicate] at h
    split at h <;> cases h
theorem VR.pad (h : VR P B0 w0 tH n q m w) (hl : (tH q).length ≤ (tH n).length) : Rel P B0 w0 m (padH tH n q) w := by
  refine ⟨h.below, h.hB, fun b L hm => ?_, fun b L k hm hk => ?_, fun b1 b2 L1 L2 k1 k2 hm1 hm2 hk1 hk2 hne hbb => ?_⟩
  · have := h.dom b L hm
    refine ⟨?_, this.2⟩
    unfold padH
    rw [List.length_append, List.length_replicate]
    omega
  · obtain ⟨h1, h2⟩ := blk_pad hk
    exact (h.blks b L k hm (by rw [kb_lt h1]; exact h2)).mono fun b L hb => (cutM_some hb).2
  · obtain ⟨h1, h2⟩ := blk_pad hk1
    obtain ⟨h3, h4⟩ := blk_pad hk2
    exact h.inj b1 b2 L1 L2 k1 k2 hm1 hm2 (by rw [kb_lt h1]; exact h2) (by rw [kb_lt h3]; exact h4) hne hbb
theorem blk_dead (l b : Nat) : blk (List.replicate l none) b = none := by
  unfold blk
  rw [List.getElem?_replicate]
  split <;> rfl
theorem VR.dead (h : VR P B0 w0 tH n q m w) (l : Nat) : Rel P B0 w0 (cutM m l) (List.replicate l none) w := by
  refine ⟨h.below, h.hB, fun b L hm => ?_, fun b L k hm hk => (by rw [blk_dead] at hk; cases hk), fun b1 b2 L1 L2 k1 k2 hm1 hm2 hk1 hk2 hne hbb => (by rw [blk_dead] at hk1; cases hk1)⟩
  obtain ⟨h1, h2⟩ := cutM_some hm
  exact ⟨by rw [List.length_replicate]; exact h1, (h.dom b L h2).2⟩
/-- The world has moved on, its blocks are as they were. -/
theorem VR.still (h : VR P B0 w0 tH n q m w) {w1 : World} (hb : Below B0 w0 w1) (hs : w.heap.size ≤ w1.heap.size) (hw : ∀ B, B < w.heap.size → w1.heap[B]? = w.heap[B]?) : VR P B0 w0 tH n q m w1 :=
  ⟨hb, Nat.le_trans h.hB hs, fun b L hm => ⟨(h.dom b L hm).1, Nat.lt_of_lt_of_le (h.dom b L hm).2 hs⟩, fun b L k hm hk => (h.blks b L k hm hk).world (hw _ (h.dom b L hm).2), h.inj⟩
/-- A block more. -/
theorem VR.alloc (h : VR P B0 w0 tH n q m w) {w1 : World} (hb : Below B0 w0 w1) (hs : w.heap.size ≤ w1.heap.size) (hw : ∀ B, B < w.heap.size → w1.heap[B]? = w.heap[B]?) {l : Nat} {L : Loc} {k : Blk} (hl : l < (tH n).length) (hm : m l = none) (hk : kb tH n q l = some k)
    (hL : w.heap.size ≤ L.blk) (hL1 : L.blk < w1.heap.size) (hB : BRel P B0 (cutM (upd m l L) (l + 1)) L k w1) : VR P B0 w0 tH n q (upd m l L) w1 := by
  have hmono : ∀ b L', m b = some L' → upd m l L b = some L' := fun b L' h1 => by
    unfold upd
    split
    · rename_i he; subst he; rw [hm] at h1; cases h1
    · exact h1
  have old : ∀ b2 L2, upd m l L b2 = some L2 → (b2 = l ∧ L2 = L) ∨ (b2 ≠ l ∧ m b2 = some L2) := by
    intro b2 L2 h2
    unfold upd at h2
    split at h2
    · rename_i hb; cases h2; exact .inl ⟨hb, rfl⟩
    · rename_i hb; exact .inr ⟨hb, h2⟩
  have h1 := h.still hb hs hw
  refine ⟨hb, h1.hB, fun b L' hb' => ?_, fun b L' k' hb' hk' => ?_, fun b1 b2 L1 L2 k1 k2 hm1 hm2 hk1 hk2 hne hbb => ?_⟩
  · rcases old b L' hb' with ⟨rfl, rfl⟩ | ⟨_, h2⟩
    · exact ⟨hl, hL1⟩
    · exact h1.dom b L' h2
  · rcases old b L' hb' with ⟨rfl, rfl⟩ | ⟨_, h2⟩
    · rw [hk] at hk'
      cases hk'
      exact hB.mono fun b' L'' h3 => by obtain ⟨h4, h5⟩ := cutM_some h3; exact cutM_of (by omega) h5
    · exact (h1.blks b L' k' h2 hk').mono fun b' L'' h3 => by obtain ⟨h4, h5⟩ := cutM_some h3; exact cutM_of h4 (hmono _ _ h5)
  · rcases old b1 L1 hm1 with ⟨rfl, rfl⟩ | ⟨_, h2⟩
    · rcases old b2 L2 hm2 with ⟨rfl, rfl⟩ | ⟨_, h3⟩
      · exact (hbb rfl).elim
      · have := (h.dom b2 L2 h3).2; omega
    · rcases old b2 L2 hm2 with ⟨rfl, rfl⟩ | ⟨_, h3⟩
      · have := (h.dom b1 L1 h2).2; omega
      · exact h.inj b1 b2 L1 L2 k1 k2 h2 h3 hk1 hk2 hne hbb
/-- What acts is done. -/
def mrg (m1 m : Mp) (l1 : Nat) : Mp := fun b => if b < l1 then m1 b else m b
theorem VR.eff (h : VR P B0 w0 tH n q m w) {q' : Nat} {m1 : Mp} {w1 : World} (hq : q < q') (hq' : q' ≤ n) (hlen : (tH q).length ≤ (tH (q + 1)).length) (hsame : (tH (q + 1)).length ≤ (tH q').length ∧ ∀ b, b < (tH (q + 1)).length → blk (tH q') b = blk (tH (q + 1)) b)
    (hini : ∀ b, (tH (q + 1)).length ≤ b → b < (tH q').length → blk (tH q') b = ini tH n b) (hle : (tH q').length ≤ (tH n).length)
    (R1 : Rel P B0 w0 m1 (tH (q + 1)) w1) (E : Ext (cutM m (tH q).length) (tH q) w m1 (tH (q + 1)) w1) (hnew : ∀ b, (tH q).length ≤ b → b < (tH (q + 1)).length → m b = none) :
    VR P B0 w0 tH n q' (mrg m1 m (tH (q + 1)).length) w1 ∧ (∀ b L, m b = some L → mrg m1 m (tH (q + 1)).length b = some L) := by
  have hmono : ∀ b L, m b = some L → mrg m1 m (tH (q + 1)).length b = some L := by
    intro b L hb
    unfold mrg
    split
    · rename_i hlt
      rcases Nat.lt_or_ge b (tH q).length with h1 | h1
      · exact E.mono b L (cutM_of h1 hb)
      · rw [hnew b h1 hlt] at hb; cases hb
    · exact hb
  have hmono1 : ∀ b L, m1 b = some L → mrg m1 m (tH (q + 1)).length b = some L := by
    intro b L hb
    unfold mrg
    rw [if_pos (R1.dom b L hb).1]
    exact hb
  have old : ∀ b L, mrg m1 m (tH (q + 1)).length b = some L → (b < (tH (q + 1)).length ∧ m1 b = some L) ∨ ((tH (q + 1)).length ≤ b ∧ m b = some L) := by
    intro b L hb
    unfold mrg at hb
    split at hb
    · rename_i h1; exact .inl ⟨h1, hb⟩
    · rename_i h1; exact .inr ⟨by omega, hb⟩
  -- what lies beyond is as it was
  have kbeyond : ∀ b, (tH (q + 1)).length ≤ b → kb tH n q' b = kb tH n q b := by
    intro b hb
    rw [kb_ge (q := q) (by omega)]
    rcases Nat.lt_or_ge b (tH q').length with h1 | h1
    · rw [kb_lt h1]; exact hini b hb h1
    · exact kb_ge h1
  have wbeyond : ∀ b L k, (tH (q + 1)).length ≤ b → m b = some L → kb tH n q b = some k → w1.heap[L.blk]? = w.heap[L.blk]? := by
    intro b L k hb hm hk
    refine E.frame _ (h.dom b L hm).2 fun b2 L2 k2 hm2 hk2 hne => ?_
    obtain ⟨h1, h2⟩ := cutM_some hm2
    exact h.inj b2 b L2 L k2 k h2 hm (by rw [kb_lt h1]; exact hk2) hk hne (by omega)
  -- where a block of the lesser heap may lie
  have place : ∀ b L k, m1 b = some L → blk (tH (q + 1)) b = some k → ∀ b2 L2 k2, (tH (q + 1)).length ≤ b2 → m b2 = some L2 → kb tH n q b2 = some k2 → (k.kind ≠ .ro ∨ k2.kind ≠ .ro) → L.blk ≠ L2.blk := by
    intro b L k hm hk b2 L2 k2 hb2 hm2 hk2 hor
    rcases E.new b L hm with h1 | ⟨h1, h3 | ⟨b0, L0, k0, h3, h4, h5, h6⟩⟩
    · obtain ⟨h3, h4⟩ := cutM_some h1
      obtain ⟨k', h5, h6⟩ := E.alive b k h3 hk
      rcases hor with hor | hor
      · exact h.inj b b2 L L2 k' k2 h4 hm2 (by rw [kb_lt h3]; exact h5) hk2 (by rw [h6]; exact hor) (by omega)
      · exact Ne.symm (h.inj b2 b L2 L k2 k' hm2 h4 hk2 (by rw [kb_lt h3]; exact h5) hor (by omega))
    · have := (h.dom b2 L2 hm2).2; omega
    · obtain ⟨h7, h8⟩ := cutM_some h3
      rw [← h6]
      exact h.inj b0 b2 L0 L2 k0 k2 h8 hm2 (by rw [kb_lt h7]; exact h4) hk2 h5 (by omega)
  refine ⟨⟨R1.below, R1.hB, fun b L hb => ?_, fun b L k hb hk => ?_, fun b1 b2 L1 L2 k1 k2 hm1 hm2 hk1 hk2 hne hbb => ?_⟩, hmono⟩
  · rcases old b L hb with ⟨h1, h2⟩ | ⟨h1, h2⟩
    · exact ⟨by omega, (R1.dom b L h2).2⟩
    · exact ⟨(h.dom b L h2).1, Nat.lt_of_lt_of_le (h.dom b L h2).2 E.size⟩
  · rcases old b L hb with ⟨h1, h2⟩ | ⟨h1, h2⟩
    · rw [kb_lt (by omega), hsame.2 b h1] at hk
      exact (R1.blks b L k h2 hk).mono fun b' L' h3 => cutM_of (by have := (R1.dom b' L' h3).1; omega) (hmono1 b' L' h3)
    · rw [kbeyond b h1] at hk
      refine ((h.blks b L k h2 hk).world (wbeyond b L k h1 h2 hk)).mono fun b' L' h3 => ?_
      obtain ⟨h4, h5⟩ := cutM_some h3
      exact cutM_of (by omega) (hmono b' L' h5)
  · rcases old b1 L1 hm1 with ⟨h1, h2⟩ | ⟨h1, h2⟩
    · rw [kb_lt (by omega), hsame.2 b1 h1] at hk1
      rcases old b2 L2 hm2 with ⟨h3, h4⟩ | ⟨h3, h4⟩
      · rw [kb_lt (by omega), hsame.2 b2 h3] at hk2
        exact R1.inj b1 b2 L1 L2 k1 k2 h2 h4 hk1 hk2 hne hbb
      · rw [kbeyond b2 h3] at hk2
        exact place b1 L1 k1 h2 hk1 b2 L2 k2 h3 h4 hk2 (.inl hne)
    · rw [kbeyond b1 h1] at hk1
      rcases old b2 L2 hm2 with ⟨h3, h4⟩ | ⟨h3, h4⟩
      · rw [kb_lt (by omega), hsame.2 b2 h3] at hk2
        exact Ne.symm (place b2 L2 k2 h4 hk2 b1 L1 k1 h1 h2 hk1 (.inr hne))
      · rw [kbeyond b2 h3] at hk2
        exact h.inj b1 b2 L1 L2 k1 k2 h2 h4 hk1 hk2 hne hbb
end
end Go.AM
set_option linter.unusedVariables false
set_option linter.unusedSimpArgs false
namespace Go.AM
open Go.RowKit

section
variable {P : Program} {call : CallF} {ops : Array Oper}
def dstAt (ops : Array Oper) (i : Nat) : Option Tmp := (ops[i]?).bind (·.dst)
def sv (ops : Array Oper) (vl : Nat → Value) (T0 : List Value) (D : Nat → Bool) : Nat → Nat → Value
  | 0, s => T0.getD s undef
  | i + 1, s => if D i = true ∧ dstAt ops i = some s then vl i else sv ops vl T0 D i s
def svL (ops : Array Oper) (vl : Nat → Value) (T0 : List Value) (D : Nat → Bool) : List Value := (List.range T0.length).map (sv ops vl T0 D ops.size)
variable {vl : Nat → Value} {T0 : List Value}
theorem svL_length (D : Nat → Bool) : (svL ops vl T0 D).length = T0.length := by simp [svL]
theorem svL_getD (D : Nat → Bool) {s : Nat} (hs : s < T0.length) : (svL ops vl T0 D).getD s undef = sv ops vl T0 D ops.size s := by
  unfold svL
  rw [List.getD_eq_getElem?_getD, List.getElem?_map, List.getElem?_range hs]
  rfl
theorem sv_congr {D D' : Nat → Bool} {s : Nat} : ∀ i, (∀ j, j < i → dstAt ops j = some s → D j = D' j) → sv ops vl T0 D i s = sv ops vl T0 D' i s
  | 0, _ => rfl
  | i + 1, h => by
    have ih := sv_congr (D := D) (D' := D') i fun j hj => h j (by omega)
    unfold sv
    rw [ih]
    by_cases hd : dstAt ops i = some s
    · rw [h i (by omega) hd]
    · rw [if_neg (fun hh => hd hh.2), if_neg (fun hh => hd hh.2)]
theorem sv_cut {D : Nat → Bool} {s i : Nat} : ∀ d, (∀ j, i ≤ j → j < i + d → dstAt ops j = some s → D j = false) → sv ops vl T0 D (i + d) s = sv ops vl T0 D i s
  | 0, _ => rfl
  | d + 1, h => by
    have ih := sv_cut (D := D) (s := s) (i := i) d fun j h1 h2 => h j h1 (by omega)
    have e : sv ops vl T0 D (i + (d + 1)) s = if D (i + d) = true ∧ dstAt ops (i + d) = some s then vl (i + d) else sv ops vl T0 D (i + d) s := rfl
    rw [e, if_neg]
    · exact ih
    · intro hh
      have := h (i + d) (by omega) (by omega) hh.2
      rw [hh.1] at this
      cases this
theorem tT_sv {tT : Nat → List Value} (h0 : tT 0 = T0) (hstep : ∀ j o, ops[j]? = some o → tT (j + 1) = putT (tT j) o.dst (vl j)) : ∀ j, j ≤ ops.size → (tT j).length = T0.length ∧ ∀ s, s < T0.length → (tT j).getD s undef = sv ops vl T0 (fun _ => true) j s
  | 0, _ => by rw [h0]; exact ⟨rfl, fun s _ => rfl⟩
  | j + 1, hj => by
    obtain ⟨h1, h2⟩ := tT_sv h0 hstep j (by omega)
    have ho : ops[j]? = some ops[j] := Array.getElem?_eq_getElem (by omega)
    rw [hstep j _ ho]
    have hd : dstAt ops j = ops[j].dst := by simp [dstAt, ho]
    cases hdst : ops[j].dst with
    | none =>
      refine ⟨h1, fun s hs => ?_⟩
      unfold sv
      rw [if_neg (by rw [hd, hdst]; simp)]
      exact h2 s hs
    | some d =>
      refine ⟨by simp [putT, h1], fun s hs => ?_⟩
      unfold sv
      rw [hd, hdst]
      by_cases he : d = s
      · subst he
        rw [if_pos ⟨rfl, rfl⟩]
        simp only [putT]
        rw [List.getD_eq_getElem?_getD, List.getElem?_set_self (by omega)]
        rfl
      · rw [if_neg (by simp [he])]
        simp only [putT]
        rw [List.getD_eq_getElem?_getD, List.getElem?_set_ne he, ← List.getD_eq_getElem?_getD]
        exact h2 s hs
/-- What the region's own test says of two operations. -/
theorem regOK_pair (hreg : regOK ops = true) {i j : Nat} (hij : i < j) {oi oj : Oper} (hi : ops[i]? = some oi) (hj : ops[j]? = some oj) : ordB (befL [] ops.toList) i j = true ∨ ((isEff oi.op = true → isEff oj.op = true → False) ∧ oi.apart ops oj = true ∧ oj.apart ops oi = true) := by
  unfold regOK at hreg
  rw [Bool.and_eq_true] at hreg
  have h1 := List.all_eq_true.1 hreg.2 j (List.mem_range.2 (Array.getElem?_eq_some_iff.1 hj).1)
  have h2 := List.all_eq_true.1 h1 i (List.mem_range.2 hij)
  rw [Bool.or_eq_true] at h2
  rcases h2 with h2 | h2
  · exact .inl h2
  · right
    simp only [hi, hj, Option.any_some, Bool.and_eq_true, Bool.not_eq_true', Bool.and_eq_false_iff] at h2
    refine ⟨fun h3 h4 => ?_, h2.1.2, h2.2⟩
    rcases h2.1.1 with h5 | h5
    · rw [h3] at h5; cases h5
    · rw [h4] at h5; cases h5
theorem regOK_edge (hreg : regOK ops = true) {j : Nat} {o : Oper} (ho : ops[j]? = some o) {e : Edge} (he : e ∈ o.after) (hb : Region.binds .any e = true) : e.on < j := by
  unfold regOK at hreg
  rw [Bool.and_eq_true] at hreg
  have h1 := List.all_eq_true.1 hreg.1 j (List.mem_range.2 (Array.getElem?_eq_some_iff.1 ho).1)
  simp only [ho, Option.any_some] at h1
  have h2 := Array.all_eq_true'.1 h1 e he
  simpa [hb] using h2
/-- The operation is ready: what it comes behind is done, it is not. -/
structure Ready (ops : Array Oper) (D : Nat → Bool) (j : Nat) (o : Oper) : Prop where
  op : ops[j]? = some o
  down : Down ops (fun i => D i = true)
  edges : ∀ e ∈ o.after, Region.binds .any e = true → D e.on = true
  not : D j = false
variable {D : Nat → Bool} {j : Nat} {o : Oper}
theorem Ready.before (h : Ready ops D j o) {i : Nat} (ho : ordB (befL [] ops.toList) i j = true) : D i = true := ordB_down h.down j o h.op h.edges i ho
theorem Ready.behind (h : Ready ops D j o) {i : Nat} {oi : Oper} (hi : ops[i]? = some oi) (ho : ordB (befL [] ops.toList) j i = true) : D i = false := by
  cases hD : D i with
  | false => rfl
  | true =>
    have := ordB_down h.down i oi hi (fun e he hb => h.down i oi hi hD e he hb) j ho
    have h2 := h.not
    rw [this] at h2
    cases h2
theorem Ready.slots (hreg : regOK ops = true) (h : Ready ops D j o) {s : Tmp} (hs : s ∈ o.looksAt ops) : sv ops vl T0 D ops.size s = sv ops vl T0 (fun _ => true) j s := by
  have hj : j < ops.size := (Array.getElem?_eq_some_iff.1 h.op).1
  have e1 : sv ops vl T0 D ops.size s = sv ops vl T0 D j s := by
    have := sv_cut (ops := ops) (vl := vl) (T0 := T0) (D := D) (s := s) (i := j) (ops.size - j) fun i h1 h2 hd => ?_
    · rwa [show j + (ops.size - j) = ops.size by omega] at this
    · by_cases hij : i = j
      · subst hij; exact h.not
      · have hi : ops[i]? = some ops[i] := Array.getElem?_eq_getElem (by omega)
        rcases regOK_pair hreg (show j < i by omega) h.op hi with h3 | ⟨_, h3, _⟩
        · exact h.behind hi h3
        · obtain ⟨_, _, h5⟩ := Oper.apart_spec h3
          exact absurd hs (h5 s (by simpa [dstAt, hi] using hd))
  rw [e1]
  refine sv_congr j fun i hij hd => ?_
  have hi : ops[i]? = some ops[i] := Array.getElem?_eq_getElem (by omega)
  rcases regOK_pair hreg hij hi h.op with h3 | ⟨_, h3, _⟩
  · exact h.before h3
  · obtain ⟨h4, _, _⟩ := Oper.apart_spec h3
    exact absurd hs (h4 s (by simpa [dstAt, hi] using hd))
theorem Ready.put (hreg : regOK ops = true) (h : Ready ops D j o) : svL ops vl T0 (fun i => if i = j then true else D i) = putT (svL ops vl T0 D) o.dst (vl j) := by
  have hj : j < ops.size := (Array.getElem?_eq_some_iff.1 h.op).1
  have hdj : dstAt ops j = o.dst := by simp [dstAt, h.op]
  apply List.ext_getElem?
  intro s
  rcases Nat.lt_or_ge s T0.length with hs | hs
  · have hl : (svL ops vl T0 (fun i => if i = j then true else D i))[s]? = some (sv ops vl T0 (fun i => if i = j then true else D i) ops.size s) := by
      unfold svL; rw [List.getElem?_map, List.getElem?_range hs]; rfl
    have hl2 : (svL ops vl T0 D)[s]? = some (sv ops vl T0 D ops.size s) := by
      unfold svL; rw [List.getElem?_map, List.getElem?_range hs]; rfl
    rw [hl]
    by_cases hd : o.dst = some s
    · rw [hd]
      simp only [putT]
      rw [List.getElem?_set_self (by rw [svL_length]; exact hs)]
      congr 1
      have := sv_cut (ops := ops) (vl := vl) (T0 := T0) (D := fun i => if i = j then true else D i) (s := s) (i := j + 1) (ops.size - (j + 1)) fun i h1 h2 hdi => ?_
      · rw [show j + 1 + (ops.size - (j + 1)) = ops.size by omega] at this
        rw [this]
        unfold sv
        rw [if_pos ⟨by simp, by rw [hdj]; exact hd⟩]
      · simp only [if_neg (show i ≠ j by omega)]
        have hi : ops[i]? = some ops[i] := Array.getElem?_eq_getElem (by omega)
        rcases regOK_pair hreg (show j < i by omega) h.op hi with h3 | ⟨_, h3, _⟩
        · exact h.behind hi h3
        · obtain ⟨_, h5, _⟩ := Oper.apart_spec h3
          exact absurd (show ops[i].dst = some s by simpa [dstAt, hi] using hdi) (h5 s hd)
    · have e1 : sv ops vl T0 (fun i => if i = j then true else D i) ops.size s = sv ops vl T0 D ops.size s := sv_congr _ fun i hi hdi => by
        have : i ≠ j := fun he => hd (by rw [← hdj, ← he]; exact hdi)
        simp only [if_neg this]
      rw [e1]
      cases hdst : o.dst with
      | none => exact hl2.symm
      | some d =>
        simp only [putT]
        rw [List.getElem?_set_ne (fun he => hd (by rw [hdst, he]))]
        exact hl2.symm
  · have hl : (svL ops vl T0 (fun i => if i = j then true else D i))[s]? = none := List.getElem?_eq_none (by rw [svL_length]; exact hs)
    rw [hl]
    cases o.dst with
    | none => exact (List.getElem?_eq_none (by simp only [putT]; rw [svL_length]; exact hs)).symm
    | some d => exact (List.getElem?_eq_none (by simp only [putT, List.length_set]; rw [svL_length]; exact hs)).symm
theorem opv_slots {T T' : List Value} (hl : T.length = T'.length) {o : Oper} (h : ∀ s ∈ o.looksAt ops, s < T.length → T.getD s undef = T'.getD s undef) : (∀ x ∈ o.op.operands, opv T x = opv T' x) ∧ ∀ g want, o.guard = some (g, want) → yieldV ops T g = yieldV ops T' g := by
  have one : ∀ s ∈ o.looksAt ops, T.getD s undef = T'.getD s undef := by
    intro s hs
    rcases Nat.lt_or_ge s T.length with h1 | h1
    · exact h s hs h1
    · rw [List.getD_eq_getElem?_getD, List.getD_eq_getElem?_getD, List.getElem?_eq_none h1, List.getElem?_eq_none (by omega)]
  refine ⟨fun x hx => ?_, fun g want hg => ?_⟩
  · cases x with
    | tmp s => exact one s (List.mem_append_left _ (List.mem_filterMap.2 ⟨.tmp s, by simpa using hx, rfl⟩))
    | _ => rfl
  · unfold yieldV
    cases hd : (ops[g]?).bind (·.dst) with
    | none => rfl
    | some s => exact one s (by simp [Oper.looksAt, hg, hd])
end
end Go.AM
set_option linter.unusedVariables false
set_option linter.unusedSimpArgs false
namespace Go.AM
open Go.RowKit

section
variable {P : Program} {call : CallF} {ops : Array Oper} {tT : Nat → List Value} {tH : Nat → AH} {sk : Nat → Bool} {vl : Nat → Value}

theorem read_sound {B0 : Nat} {w0 : World} {m : Mp} {X : AH} {w : World} (R0 : Rel P B0 w0 m X w) {T : List Value} {a : Act} (hT : LRel m T a.tmps.toList) {o : Oper} {f : AH → Option Value} (hf : opRead P (opv T) o.op = some f) {v : Value} (h : f X = some v) :
    ∃ v', (execOp a.eval o).run P w = .ok (.value v') w ∧ VRel m v v' := by
  obtain ⟨dst, op, ty, ps, af, g⟩ := o
  unfold opRead at hf
  split at hf
  · rename_i t x hop
    simp only at hop
    subst hop
    cases hf
    obtain ⟨v', q1, q2⟩ := ld_sound R0 (opv_rel hT x) h
    exact ⟨v', by simp [execOp, q1], q2⟩
  · rename_i s d x hop
    simp only at hop
    subst hop
    cases hb : isBytesToString P s d with
    | true =>
      rw [hb] at hf
      cases hf
      obtain ⟨v', q1, q2⟩ := cvS_sound R0 (opv_rel hT x) h
      exact ⟨v', by simp [execOp, q1], q2⟩
    | false => rw [hb] at hf; cases hf
  · cases hf
theorem nextE (s : Nat) : ∀ d, s + d = ops.size → ∃ q, s ≤ q ∧ q ≤ ops.size ∧ (∀ e, s ≤ e → e < q → eE ops sk e = false) ∧ (q < ops.size → eE ops sk q = true)
  | 0, h => ⟨s, Nat.le_refl _, by omega, fun e h1 h2 => by omega, fun h1 => by omega⟩
  | d + 1, h => by
    cases he : eE ops sk s with
    | true => exact ⟨s, Nat.le_refl _, by omega, fun e h1 h2 => by omega, fun _ => he⟩
    | false =>
      obtain ⟨q, h1, h2, h3, h4⟩ := nextE (s + 1) d (by omega)
      exact ⟨q, by omega, h2, fun e h5 h6 => by
        by_cases hes : e = s
        · subst hes; exact he
        · exact h3 e (by omega) h6, h4⟩
theorem eE_inv {j : Nat} (h : eE ops sk j = true) : ∃ o, ops[j]? = some o ∧ isEff o.op = true ∧ sk j = false := by
  unfold eE at h
  rw [Bool.and_eq_true] at h
  cases ho : ops[j]? with
  | none => rw [ho] at h; cases h.1
  | some o => rw [ho] at h; exact ⟨o, rfl, by simpa using h.1, by simpa using h.2⟩
theorem crossing (f : Nat → Nat) (i : Nat) (b : Nat) (h0 : f i ≤ b) : ∀ d, b < f (i + d) → ∃ j, i ≤ j ∧ j < i + d ∧ f j ≤ b ∧ b < f (j + 1)
  | 0, h => by simp at h; omega
  | d + 1, h => by
    rcases Nat.lt_or_ge b (f (i + d)) with h1 | h1
    · obtain ⟨j, h2, h3, h4⟩ := crossing f i b h0 d h1
      exact ⟨j, h2, by omega, h4⟩
    · exact ⟨i + d, by omega, by omega, h1, h⟩

structure Inv (P : Program) (ops : Array Oper) (tT : Nat → List Value) (tH : Nat → AH) (sk : Nat → Bool) (vl : Nat → Value) (B0 : Nat) (w0 : World) (m0 : Mp) (wI : World) (listed : Array Bool) (q : Nat) (m : Mp) (a : Act) (w : World) : Prop where
  lsize : listed.size = ops.size
  down : Down ops (fun i => listed.getD i false = true)
  hq : q ≤ ops.size
  hq1 : q < ops.size → eE ops sk q = true ∧ listed.getD q false = false
  hq2 : ∀ e, e < q → eE ops sk e = true → listed.getD e false = true
  slots : LRel m (svL ops vl (tT 0) (fun i => listed.getD i false)) a.tmps.toList
  defers : a.defers = []
  vr : VR P B0 w0 tH ops.size q m w
  dm : ∀ b L, m b = some L → b < (tH 0).length ∨ ∃ i, i < ops.size ∧ listed.getD i false = true ∧ (tH i).length ≤ b ∧ b < (tH (i + 1)).length
  mono0 : ∀ b L, m0 b = some L → m b = some L
  size : wI.heap.size ≤ w.heap.size
  new : ∀ b L, m b = some L → m0 b = some L ∨ ((tH 0).length ≤ b ∧ (wI.heap.size ≤ L.blk ∨ ∃ b0 L0 k0, m0 b0 = some L0 ∧ blk (tH 0) b0 = some k0 ∧ k0.kind ≠ .ro ∧ L0.blk = L.blk))
  frame : ∀ B, B < wI.heap.size → (∀ b L k, m0 b = some L → blk (tH 0) b = some k → k.kind ≠ .ro → L.blk ≠ B) → w.heap[B]? = wI.heap[B]?

/-- The lengths and kinds along the text's own order. -/
structure Along (ops : Array Oper) (tT : Nat → List Value) (tH : Nat → AH) (m0 : Mp) : Prop where
  lens : ∀ i d, i + d ≤ ops.size → (tH i).length ≤ (tH (i + d)).length
  alive : ∀ d, d ≤ ops.size → ∀ b k', b < (tH 0).length → blk (tH d) b = some k' → ∃ k, blk (tH 0) b = some k ∧ k.kind = k'.kind
  bel : ∀ (j s : Nat) (x : Value), j ≤ ops.size → (tT j)[s]? = some x → Bel (tH j).length x
  dom0 : ∀ b L, m0 b = some L → b < (tH 0).length
theorem Along.le {m0 : Mp} (A : Along ops tT tH m0) {i j : Nat} (h : i ≤ j) (hj : j ≤ ops.size) : (tH i).length ≤ (tH j).length := by
  have := A.lens i (j - i) (by omega)
  rwa [show i + (j - i) = j by omega] at this
theorem getD_set {listed : Array Bool} {j : Nat} (hj : j < listed.size) (i : Nat) : (listed.setIfInBounds j true).getD i false = if i = j then true else listed.getD i false := by
  by_cases h : i = j
  · subst h
    rw [if_pos rfl]
    simp [Array.getD, hj]
  · rw [if_neg h]
    exact getD_set_ne false (Ne.symm h)
section
variable {B0 : Nat} {w0 : World} {m0 : Mp} {wI : World} {listed : Array Bool} {q : Nat} {m : Mp} {a : Act} {w : World}
theorem Inv.rdy (I : Inv P ops tT tH sk vl B0 w0 m0 wI listed q m a w) {j : Nat} (hr : j ∈ Region.ready .any ops listed) : ∃ o, Ready ops (fun i => listed.getD i false) j o := by
  unfold Region.ready at hr
  rw [List.mem_filter] at hr
  obtain ⟨h1, h2⟩ := hr
  have hj : j < ops.size := List.mem_range.1 h1
  have ho : ops[j]? = some ops[j] := Array.getElem?_eq_getElem hj
  rw [Bool.and_eq_true, ho] at h2
  simp only [Option.map_some, Option.getD_some] at h2
  refine ⟨ops[j], ho, I.down, fun e he hb => ?_, ?_⟩
  · have := Array.all_eq_true'.1 h2.2 e he
    simpa [hb] using this
  · have hlt : j < listed.size := by rw [I.lsize]; exact hj
    have := h2.1
    simp [Array.getD, hlt] at this ⊢
    exact this
theorem Inv.down' (I : Inv P ops tT tH sk vl B0 w0 m0 wI listed q m a w) {j : Nat} {o : Oper} (hr : Ready ops (fun i => listed.getD i false) j o) : Down ops (fun i => (listed.setIfInBounds j true).getD i false = true) := by
  have hlt : j < listed.size := by rw [I.lsize]; exact (Array.getElem?_eq_some_iff.1 hr.op).1
  intro i oi hi hD e he hb
  simp only [getD_set hlt] at hD ⊢
  by_cases hij : i = j
  · subst hij
    rw [hr.op] at hi
    cases hi
    have := hr.edges e he hb
    split
    · rfl
    · exact this
  · rw [if_neg hij] at hD
    have := I.down i oi hi hD e he hb
    split
    · rfl
    · exact this
/-- An operation that doesn't act is done: slots and marks. -/
theorem Inv.mark (hreg : regOK ops = true) (I : Inv P ops tT tH sk vl B0 w0 m0 wI listed q m a w) {j : Nat} {o : Oper} (hr : Ready ops (fun i => listed.getD i false) j o) (hne : eE ops sk j = false) {m2 : Mp} {w2 : World} {v' : Value}
    (hmono : ∀ b L, m b = some L → m2 b = some L) (hv : VRel m2 (vl j) v') (hvr : VR P B0 w0 tH ops.size q m2 w2) (hdm : ∀ b L, m2 b = some L → m b = some L ∨ ((tH j).length ≤ b ∧ b < (tH (j + 1)).length ∧ w.heap.size ≤ L.blk)) (h0 : (tH 0).length ≤ (tH j).length)
    (hs : w.heap.size ≤ w2.heap.size) (hw : ∀ B, B < w.heap.size → w2.heap[B]? = w.heap[B]?) :
    Inv P ops tT tH sk vl B0 w0 m0 wI (listed.setIfInBounds j true) q m2 (a.put o.dst v') w2 := by
  have hj : j < ops.size := (Array.getElem?_eq_some_iff.1 hr.op).1
  have hlt : j < listed.size := by rw [I.lsize]; exact hj
  refine ⟨by simp [I.lsize], I.down' hr, I.hq, fun h => ?_, fun e he hE => ?_, ?_, by rw [AM.put_defers]; exact I.defers, hvr, fun b L hb => ?_, fun b L hb => hmono b L (I.mono0 b L hb), Nat.le_trans I.size hs, fun b L hb => ?_, fun B hB hr' => ?_⟩
  · obtain ⟨h1, h2⟩ := I.hq1 h
    refine ⟨h1, ?_⟩
    rw [getD_set hlt, if_neg]
    · exact h2
    · intro he
      subst he
      rw [h1] at hne
      cases hne
  · rw [getD_set hlt]
    split
    · rfl
    · exact I.hq2 e he hE
  · have e1 : (fun i => (listed.setIfInBounds j true).getD i false) = fun i => if i = j then true else listed.getD i false := by funext i; exact getD_set hlt i
    rw [e1, hr.put hreg]
    exact put_rel (I.slots.mono hmono) _ hv
  · rcases hdm b L hb with h1 | ⟨h1, h2, h3⟩
    · rcases I.dm b L h1 with h4 | ⟨i, h4, h5, h6⟩
      · exact .inl h4
      · refine .inr ⟨i, h4, ?_, h6⟩
        rw [getD_set hlt]
        split
        · rfl
        · exact h5
    · exact .inr ⟨j, hj, by rw [getD_set hlt, if_pos rfl], h1, h2⟩
  · rcases hdm b L hb with h1 | ⟨h1, h2, h3⟩
    · exact I.new b L h1
    · exact .inr ⟨by omega, .inl (Nat.le_trans I.size h3)⟩
  · rw [hw B (Nat.lt_of_lt_of_le hB I.size)]
    exact I.frame B hB hr'
/-- A read tells the same now. -/
theorem Inv.readNow (X : Tr P call ops (befL [] ops.toList) 0 tT tH sk vl) (A : Along ops tT tH m0) (I : Inv P ops tT tH sk vl B0 w0 m0 wI listed q m a w) {j : Nat} {o : Oper} (hr : Ready ops (fun i => listed.getD i false) j o) (hs : sk j = false) {f : AH → Option Value}
    (hf : opRead P (opv (tT j)) o.op = some f) : f (tH q) = some (vl j) := by
  have hj : j < ops.size := (Array.getElem?_eq_some_iff.1 hr.op).1
  have hnj : eE ops sk j = false := by simp [eE, hr.op, read_not_eff hf]
  rcases Nat.lt_or_ge j q with hlt | hge
  · have key : ∀ d, j + 1 + d ≤ q → f (tH (j + 1 + d)) = some (vl j) := by
      intro d
      induction d with
      | zero =>
        intro _
        obtain ⟨h1, h2⟩ := X.read j o f (Nat.zero_le _) hr.op hs hf
        rw [Nat.add_zero, h2]
        exact h1
      | succ d ih =>
        intro hd
        have hprev := ih (by omega)
        have hq := I.hq
        cases hE : eE ops sk (j + 1 + d) with
        | true =>
          obtain ⟨oe, he1, he2, he3⟩ := eE_inv hE
          have hl := I.hq2 (j + 1 + d) (by omega) hE
          have hord : ordB (befL [] ops.toList) j (j + 1 + d) = false := by
            cases hc : ordB (befL [] ops.toList) j (j + 1 + d) with
            | false => rfl
            | true => have := hr.behind he1 hc; rw [hl] at this; cases this
          exact X.futR j o f (j + 1 + d) oe (Nat.zero_le _) (by omega) hr.op he1 hs he3 he2 hf hord
        | false =>
          rcases X.noeff (j := j + 1 + d) (by omega) hE with h3 | ⟨k, _, h3⟩
          · rw [show j + 1 + (d + 1) = j + 1 + d + 1 by omega, h3]; exact hprev
          · rw [show j + 1 + (d + 1) = j + 1 + d + 1 by omega, h3]
            exact opRead_keep hf (fun b k' hk => by rw [blk_app_old _ (blk_lt' hk)]; exact hk) hprev
    have := key (q - (j + 1)) (by omega)
    rwa [show j + 1 + (q - (j + 1)) = q by omega] at this
  · have hne : q ≠ j := by
      intro he
      subst he
      have := (I.hq1 hj).1
      rw [hnj] at this
      cases this
    obtain ⟨h1, h2⟩ := I.hq1 (by omega)
    obtain ⟨oe, he1, he2, he3⟩ := eE_inv h1
    refine X.pastR j o f q oe (Nat.zero_le _) (by omega) hr.op he1 hs he3 he2 hf ?_
    cases hc : ordB (befL [] ops.toList) q j with
    | false => rfl
    | true => have := hr.before hc; rw [h2] at this; cases this
/-- A block that is yet to be made stands as it will be made. -/
theorem Inv.makeNow (X : Tr P call ops (befL [] ops.toList) 0 tT tH sk vl) (A : Along ops tT tH m0) (I : Inv P ops tT tH sk vl B0 w0 m0 wI listed q m a w) {j : Nat} {o : Oper} (hr : Ready ops (fun i => listed.getD i false) j o) (hs : sk j = false)
    (hf : opRead P (opv (tT j)) o.op = none) (ha : isAlloc o.op = true) {k : Blk} (hk : tH (j + 1) = tH j ++ [some k]) : kb tH ops.size q (tH j).length = some k := by
  have hj : j < ops.size := (Array.getElem?_eq_some_iff.1 hr.op).1
  have hnew : blk (tH (j + 1)) (tH j).length = some k := by rw [hk]; unfold blk; simp
  have hlen : (tH (j + 1)).length = (tH j).length + 1 := by rw [hk]; simp
  have hnj : eE ops sk j = false := by simp [eE, hr.op, alloc_not_eff ha]
  rcases Nat.lt_or_ge j q with hlt | hge
  · have key : ∀ d, j + 1 + d ≤ q → blk (tH (j + 1 + d)) (tH j).length = some k := by
      intro d
      induction d with
      | zero => intro _; exact hnew
      | succ d ih =>
        intro hd
        have hprev := ih (by omega)
        have hq := I.hq
        cases hE : eE ops sk (j + 1 + d) with
        | true =>
          obtain ⟨oe, he1, he2, he3⟩ := eE_inv hE
          have hl := I.hq2 (j + 1 + d) (by omega) hE
          have hord : ordB (befL [] ops.toList) j (j + 1 + d) = false := by
            cases hc : ordB (befL [] ops.toList) j (j + 1 + d) with
            | false => rfl
            | true => have := hr.behind he1 hc; rw [hl] at this; cases this
          have := X.futA j o (j + 1 + d) oe (Nat.zero_le _) (by omega) hr.op he1 hs he3 he2 hf ha hord
          rw [show j + 1 + (d + 1) = j + 1 + d + 1 by omega, this]
          exact hnew
        | false =>
          rcases X.noeff (j := j + 1 + d) (by omega) hE with h3 | ⟨k', _, h3⟩
          · rw [show j + 1 + (d + 1) = j + 1 + d + 1 by omega, h3]; exact hprev
          · rw [show j + 1 + (d + 1) = j + 1 + d + 1 by omega, h3, blk_app_old _ (blk_lt' hprev)]
            exact hprev
    have := key (q - (j + 1)) (by omega)
    rw [show j + 1 + (q - (j + 1)) = q by omega] at this
    rw [kb_lt (blk_lt' this)]
    exact this
  · have hle := A.le hge (by omega)
    rw [kb_ge hle, ini_eq A.lens hj (Nat.le_refl _) (by omega)]
    exact hnew
end
end
end Go.AM
set_option linter.unusedVariables false
set_option linter.unusedSimpArgs false
namespace Go.AM
open Go.RowKit

section
variable {P : Program} {call : CallF} {ops : Array Oper} {tT : Nat → List Value} {tH : Nat → AH} {sk : Nat → Bool} {vl : Nat → Value} {B0 : Nat} {w0 : World} {m0 : Mp} {wI : World} {listed : Array Bool} {q : Nat} {m : Mp} {a : Act} {w : World}

theorem Tr.sv (X : Tr P call ops (befL [] ops.toList) 0 tT tH sk vl) {j : Nat} (hj : j ≤ ops.size) : (tT j).length = (tT 0).length ∧ ∀ s, s < (tT 0).length → (tT j).getD s undef = AM.sv ops vl (tT 0) (fun _ => true) j s :=
  tT_sv rfl (fun j o ho => X.step j o (Nat.zero_le _) ho) j hj
/-- What the operation looks at holds what it held in the text's own order. -/
theorem Inv.looks (hreg : regOK ops = true) (X : Tr P call ops (befL [] ops.toList) 0 tT tH sk vl) (I : Inv P ops tT tH sk vl B0 w0 m0 wI listed q m a w) {j : Nat} {o : Oper} (hr : Ready ops (fun i => listed.getD i false) j o) :
    ∀ s ∈ o.looksAt ops, s < (svL ops vl (tT 0) (fun i => listed.getD i false)).length → (svL ops vl (tT 0) (fun i => listed.getD i false)).getD s undef = (tT j).getD s undef := by
  intro s hs hlt
  rw [svL_length] at hlt
  rw [svL_getD _ hlt, hr.slots hreg hs, ((X.sv (Nat.le_of_lt (Array.getElem?_eq_some_iff.1 hr.op).1)).2 s hlt)]
theorem Inv.opv (hreg : regOK ops = true) (X : Tr P call ops (befL [] ops.toList) 0 tT tH sk vl) (I : Inv P ops tT tH sk vl B0 w0 m0 wI listed q m a w) {j : Nat} {o : Oper} (hr : Ready ops (fun i => listed.getD i false) j o) :
    (∀ x ∈ o.op.operands, AM.opv (svL ops vl (tT 0) (fun i => listed.getD i false)) x = AM.opv (tT j) x) ∧ ∀ g want, o.guard = some (g, want) → yieldV ops (svL ops vl (tT 0) (fun i => listed.getD i false)) g = yieldV ops (tT j) g := by
  have hj := Nat.le_of_lt (Array.getElem?_eq_some_iff.1 hr.op).1
  exact opv_slots (by rw [svL_length, (X.sv hj).1]) (I.looks hreg X hr)
theorem Inv.wanted (hreg : regOK ops = true) (X : Tr P call ops (befL [] ops.toList) 0 tT tH sk vl) (I : Inv P ops tT tH sk vl B0 w0 m0 wI listed q m a w) {j : Nat} {o : Oper} (hr : Ready ops (fun i => listed.getD i false) j o) :
    Region.wanted o (yielded ops a.tmps) = !sk j := by
  obtain ⟨_, hy⟩ := I.opv hreg X hr
  cases hs : sk j with
  | true =>
    obtain ⟨⟨g, want, hg, hu⟩, _⟩ := X.skip j o (Nat.zero_le _) hr.op hs
    rcases hu with ⟨b, hu, hb⟩ | ⟨vs, hu, _⟩
    · rw [wanted_of hg ((yield_rel I.slots g).1 b (by rw [hy g want hg]; exact hu))]
      simp [hb]
    · rw [wanted_of hg ((yield_rel I.slots g).2 vs (by rw [hy g want hg]; exact hu))]
      rfl
  | false =>
    rcases X.go j o (Nat.zero_le _) hr.op hs with hg | ⟨g, want, hg, hu⟩
    · unfold Region.wanted; rw [hg]; rfl
    · rw [wanted_of hg ((yield_rel I.slots g).1 want (by rw [hy g want hg]; exact hu))]
      simp
/-- What acts next is the one. -/
theorem Inv.isq (hreg : regOK ops = true) (I : Inv P ops tT tH sk vl B0 w0 m0 wI listed q m a w) {j : Nat} {o : Oper} (hr : Ready ops (fun i => listed.getD i false) j o) (hE : eE ops sk j = true) : j = q := by
  have hj : j < ops.size := (Array.getElem?_eq_some_iff.1 hr.op).1
  rcases Nat.lt_trichotomy j q with h | h | h
  · have := I.hq2 j h hE
    have h2 := hr.not
    rw [this] at h2
    cases h2
  · exact h
  · obtain ⟨h1, h2⟩ := I.hq1 (by omega)
    obtain ⟨oq, hq1, hq2, _⟩ := eE_inv h1
    obtain ⟨oj, hj1, hj2, _⟩ := eE_inv hE
    rcases regOK_pair hreg h hq1 hj1 with h3 | ⟨h3, _⟩
    · have := hr.before h3; rw [h2] at this; cases this
    · exact (h3 hq2 hj2).elim
/-- The slots that an operation looks at, under the lesser map. -/
theorem Inv.masked (hreg : regOK ops = true) (X : Tr P call ops (befL [] ops.toList) 0 tT tH sk vl) (A : Along ops tT tH m0) (I : Inv P ops tT tH sk vl B0 w0 m0 wI listed q m a w) {j : Nat} {o : Oper} (hr : Ready ops (fun i => listed.getD i false) j o) :
    ∃ T, LRel (cutM m (tH j).length) T a.tmps.toList ∧ ∀ x ∈ o.op.operands, AM.opv T x = AM.opv (tT j) x := by
  have hj : j ≤ ops.size := Nat.le_of_lt (Array.getElem?_eq_some_iff.1 hr.op).1
  refine ⟨(List.range (tT 0).length).map fun s => if s ∈ o.looksAt ops then (tT j).getD s undef else unk, ⟨?_, ?_⟩, ?_⟩
  · rw [List.length_map, List.length_range, ← I.slots.1, svL_length]
  · intro s x y hx hy
    rw [List.getElem?_map] at hx
    have hlt : s < (tT 0).length := by
      rcases Nat.lt_or_ge s (tT 0).length with h1 | h1
      · exact h1
      · rw [List.getElem?_eq_none (by simpa using h1)] at hx; cases hx
    rw [List.getElem?_range hlt, Option.map_some] at hx
    cases hx
    split
    · rename_i hs
      have h1 := I.looks hreg X hr s hs (by rw [svL_length]; exact hlt)
      have h2 : (svL ops vl (tT 0) (fun i => listed.getD i false))[s]? = some ((tT j).getD s undef) := by
        rw [← h1, List.getD_eq_getElem?_getD, List.getElem?_eq_getElem (by rw [svL_length]; exact hlt)]
        rfl
      have h3 := I.slots.2 s _ y h2 hy
      have h4 : (tT j)[s]? = some ((tT j).getD s undef) := by
        rw [List.getD_eq_getElem?_getD, List.getElem?_eq_getElem (by rw [(X.sv hj).1]; exact hlt)]
        rfl
      exact h3.cutB (A.bel j s _ hj h4)
    · exact .unk _
  · refine (opv_slots (ops := ops) (by rw [List.length_map, List.length_range, (X.sv hj).1]) fun s hs hlt => ?_).1
    rw [List.length_map, List.length_range] at hlt
    rw [List.getD_eq_getElem?_getD, List.getElem?_map, List.getElem?_range hlt, Option.map_some, Option.getD_some, if_pos hs]
theorem Inv.act (hreg : regOK ops = true) (X : Tr P call ops (befL [] ops.toList) 0 tT tH sk vl) (A : Along ops tT tH m0) (I : Inv P ops tT tH sk vl B0 w0 m0 wI listed q m a w) {o : Oper} (hr : Ready ops (fun i => listed.getD i false) q o) (hE : eE ops sk q = true)
    {m1 : Mp} {w1 : World} {v' : Value} (E : Ext (cutM m (tH q).length) (tH q) w m1 (tH (q + 1)) w1) (R1 : Rel P B0 w0 m1 (tH (q + 1)) w1) (hv : VRel m1 (vl q) v') :
    ∃ q' m2, Inv P ops tT tH sk vl B0 w0 m0 wI (listed.setIfInBounds q true) q' m2 (a.put o.dst v') w1 := by
  have hq : q < ops.size := (Array.getElem?_eq_some_iff.1 hr.op).1
  have hlt : q < listed.size := by rw [I.lsize]; exact hq
  obtain ⟨q', hq1, hq2, hq3, hq4⟩ := nextE (ops := ops) (sk := sk) (q + 1) (ops.size - (q + 1)) (by omega)
  have hlen := A.le (i := q) (j := q + 1) (by omega) (by omega)
  have hsame := X.same (q + 1) (q' - (q + 1)) (by omega) (fun e h1 h2 => hq3 e h1 (by omega))
  rw [show q + 1 + (q' - (q + 1)) = q' by omega] at hsame
  have hini : ∀ b, (tH (q + 1)).length ≤ b → b < (tH q').length → blk (tH q') b = ini tH ops.size b := by
    intro b h1 h2
    obtain ⟨j, h3, h4, h5, h6⟩ := crossing (fun i => (tH i).length) (q + 1) b h1 (q' - (q + 1)) (by rw [show q + 1 + (q' - (q + 1)) = q' by omega]; exact h2)
    rw [ini_eq A.lens (show j < ops.size by omega) h5 h6]
    have h7 := X.same (j + 1) (q' - (j + 1)) (by omega) (fun e h7 h8 => hq3 e (by omega) (by omega))
    rw [show j + 1 + (q' - (j + 1)) = q' by omega] at h7
    exact h7.2 b h6
  have hnew : ∀ b, (tH q).length ≤ b → b < (tH (q + 1)).length → m b = none := by
    intro b h1 h2
    cases hb : m b with
    | none => rfl
    | some L =>
      exfalso
      rcases I.dm b L hb with h3 | ⟨i, h3, h4, h5, h6⟩
      · have := A.le (i := 0) (j := q) (by omega) (by omega); omega
      · rcases Nat.lt_trichotomy i q with h7 | h7 | h7
        · have := A.le (i := i + 1) (j := q) (by omega) (by omega); omega
        · subst h7
          have := hr.not
          rw [h4] at this
          cases this
        · have := A.le (i := q + 1) (j := i) (by omega) (by omega); omega
  obtain ⟨V, hmono⟩ := I.vr.eff (by omega) hq2 hlen hsame hini (A.le hq2 (Nat.le_refl _)) R1 E hnew
  have hmono1 : ∀ b L, m1 b = some L → mrg m1 m (tH (q + 1)).length b = some L := by
    intro b L hb
    unfold mrg
    rw [if_pos (R1.dom b L hb).1]
    exact hb
  have split_ : ∀ b L, mrg m1 m (tH (q + 1)).length b = some L → m b = some L ∨ ((tH q).length ≤ b ∧ b < (tH (q + 1)).length ∧ (w.heap.size ≤ L.blk ∨ ∃ b0 L0 k0, m b0 = some L0 ∧ blk (tH q) b0 = some k0 ∧ b0 < (tH q).length ∧ k0.kind ≠ .ro ∧ L0.blk = L.blk)) := by
    intro b L hb
    unfold mrg at hb
    split at hb
    · rename_i h1
      rcases E.new b L hb with h2 | ⟨h2, h3 | ⟨b0, L0, k0, h3, h4, h5, h6⟩⟩
      · exact .inl (cutM_some h2).2
      · exact .inr ⟨h2, h1, .inl h3⟩
      · obtain ⟨h7, h8⟩ := cutM_some h3
        exact .inr ⟨h2, h1, .inr ⟨b0, L0, k0, h8, h4, h7, h5, h6⟩⟩
    · exact .inl hb
  -- an own block that there was
  have own0 : ∀ b L k, m b = some L → blk (tH q) b = some k → k.kind ≠ .ro → (wI.heap.size ≤ L.blk ∨ ∃ b0 L0 k0, m0 b0 = some L0 ∧ blk (tH 0) b0 = some k0 ∧ k0.kind ≠ .ro ∧ L0.blk = L.blk) := by
    intro b L k h1 h2 h3
    rcases I.new b L h1 with h4 | ⟨_, h4⟩
    · obtain ⟨k0, h5, h6⟩ := A.alive q (by omega) b k (A.dom0 b L h4) h2
      exact .inr ⟨b, L, k0, h4, h5, by rw [h6]; exact h3, rfl⟩
    · exact h4
  refine ⟨q', mrg m1 m (tH (q + 1)).length, ⟨by simp [I.lsize], I.down' hr, hq2, fun h => ⟨hq4 h, ?_⟩, fun e he hEe => ?_, ?_, by rw [AM.put_defers]; exact I.defers, V, fun b L hb => ?_, fun b L hb => hmono b L (I.mono0 b L hb), Nat.le_trans I.size E.size, fun b L hb => ?_, fun B hB hr' => ?_⟩⟩
  · rw [getD_set hlt, if_neg (by omega)]
    cases hc : listed.getD q' false with
    | false => rfl
    | true =>
      exfalso
      obtain ⟨oq', h1, h2, _⟩ := eE_inv (hq4 h)
      obtain ⟨oq, h3, h4, _⟩ := eE_inv hE
      rcases regOK_pair hreg (show q < q' by omega) h3 h1 with h5 | ⟨h5, _⟩
      · have := hr.behind h1 h5
        rw [hc] at this
        cases this
      · exact h5 h4 h2
  · rw [getD_set hlt]
    split
    · rfl
    · rename_i hne
      rcases Nat.lt_or_ge e q with h1 | h1
      · exact I.hq2 e h1 hEe
      · have := hq3 e (by omega) he
        rw [hEe] at this
        cases this
  · have e1 : (fun i => (listed.setIfInBounds q true).getD i false) = fun i => if i = q then true else listed.getD i false := by funext i; exact getD_set hlt i
    rw [e1, hr.put hreg]
    exact put_rel (I.slots.mono hmono) _ (hv.mono hmono1)
  · rcases split_ b L hb with h1 | ⟨h1, h2, _⟩
    · rcases I.dm b L h1 with h4 | ⟨i, h4, h5, h6⟩
      · exact .inl h4
      · refine .inr ⟨i, h4, ?_, h6⟩
        rw [getD_set hlt]
        split
        · rfl
        · exact h5
    · exact .inr ⟨q, hq, by rw [getD_set hlt, if_pos rfl], h1, h2⟩
  · rcases split_ b L hb with h1 | ⟨h1, h2, h3⟩
    · exact I.new b L h1
    · have := A.le (i := 0) (j := q) (by omega) (by omega)
      refine .inr ⟨by omega, ?_⟩
      rcases h3 with h3 | ⟨b0, L0, k0, h3, h4, _, h5, h6⟩
      · exact .inl (Nat.le_trans I.size h3)
      · have := own0 b0 L0 k0 h3 h4 h5
        rw [h6] at this
        exact this
  · rw [E.frame B (Nat.lt_of_lt_of_le hB I.size), I.frame B hB hr']
    intro b L k hb hk hne
    obtain ⟨h1, h2⟩ := cutM_some hb
    rcases own0 b L k h2 hk hne with h3 | ⟨b0, L0, k0, h3, h4, h5, h6⟩
    · omega
    · rw [← h6]; exact hr' b0 L0 k0 h3 h4 h5
def left (ops : Array Oper) (listed : Array Bool) : List Nat := (List.range ops.size).filter fun i => !listed.getD i false
theorem filter_less {f g : Nat → Bool} : ∀ (l : List Nat) (j : Nat), j ∈ l → f j = true → g j = false → (∀ i, g i = true → f i = true) → (l.filter g).length < (l.filter f).length
  | [], j, hj, _, _, _ => by cases hj
  | i :: l, j, hj, hf, hg, hgf => by
    have hle : (l.filter g).length ≤ (l.filter f).length := by
      clear hj
      induction l with
      | nil => simp
      | cons i l ih =>
        simp only [List.filter_cons]
        cases hgi : g i with
        | true => rw [hgf i hgi]; simp; exact ih
        | false => cases f i <;> simp <;> omega
    by_cases hij : i = j
    · subst hij
      simp only [List.filter_cons, hf, hg, if_true]
      simp
      omega
    · have hjl : j ∈ l := by cases hj with | head => exact (hij rfl).elim | tail _ h => exact h
      have := filter_less l j hjl hf hg hgf
      simp only [List.filter_cons]
      cases hgi : g i with
      | true => rw [hgf i hgi]; simp; exact this
      | false => cases f i <;> simp <;> omega
theorem Inv.any (hcall : CallOK P call) (hreg : regOK ops = true) (X : Tr P call ops (befL [] ops.toList) 0 tT tH sk vl) (A : Along ops tT tH m0) {Q : Exit → Act → World → Prop}
    (hq : ∀ (m' : Mp) (a' : Act) (w' : World), After P B0 w0 m0 (tH 0) wI (tT ops.size) (tH ops.size) m' a' w' → Q .normal a' w') :
    ∀ (fuel : Nat) (listed : Array Bool) (q : Nat) (m : Mp) (a : Act) (w : World), Inv P ops tT tH sk vl B0 w0 m0 wI listed q m a w → (left ops listed).length ≤ fuel → wpAny P .any ops Q fuel listed a w := by
  -- when nothing is ready, all is done
  have fin : ∀ (listed : Array Bool) (q : Nat) (m : Mp) (a : Act) (w : World), Inv P ops tT tH sk vl B0 w0 m0 wI listed q m a w → (∀ j, j < ops.size → listed.getD j false = true) → Q .normal a w := by
    intro listed q m a w I hall
    have hqn : q = ops.size := by
      rcases Nat.lt_or_ge q ops.size with h | h
      · have := (I.hq1 h).2
        rw [hall q h] at this
        cases this
      · have := I.hq; omega
    subst hqn
    have hN : ∀ b L, m b = some L → cutM m (tH ops.size).length b = some L := fun b L hb => cutM_of (I.vr.dom b L hb).1 hb
    have hT : svL ops vl (tT 0) (fun i => listed.getD i false) = tT ops.size := by
      obtain ⟨h1, h2⟩ := X.sv (Nat.le_refl ops.size)
      apply List.ext_getElem?
      intro s
      rcases Nat.lt_or_ge s (tT 0).length with hs | hs
      · have e1 : (svL ops vl (tT 0) (fun i => listed.getD i false))[s]? = some (AM.sv ops vl (tT 0) (fun i => listed.getD i false) ops.size s) := by
          unfold svL; rw [List.getElem?_map, List.getElem?_range hs]; rfl
        rw [e1, AM.sv_congr (D' := fun _ => true) _ (fun j hj _ => hall j hj), ← h2 s hs, List.getD_eq_getElem?_getD, List.getElem?_eq_getElem (by omega)]
        rfl
      · rw [List.getElem?_eq_none (by rw [svL_length]; exact hs), List.getElem?_eq_none (by omega)]
    refine hq (cutM m (tH ops.size).length) a w ⟨⟨fun b L hb => hN b L (I.mono0 b L hb), A.le (Nat.zero_le _) (Nat.le_refl _), I.size, fun b k' hb hk => A.alive ops.size (Nat.le_refl _) b k' hb hk, fun b L hb => I.new b L (cutM_some hb).2, I.frame⟩, I.vr.rel, ?_, I.defers⟩
    rw [← hT]
    exact I.slots.mono hN
  have ready_nil : ∀ (listed : Array Bool), Region.ready .any ops listed = [] → listed.size = ops.size → ∀ j, j < ops.size → listed.getD j false = true := by
    intro listed hnil hsz j
    induction j using Nat.strongRecOn with
    | _ j ih =>
      intro hj
      cases hl : listed.getD j false with
      | true => rfl
      | false =>
        exfalso
        have ho : ops[j]? = some ops[j] := Array.getElem?_eq_getElem hj
        have hmem : j ∈ Region.ready .any ops listed := by
          unfold Region.ready
          rw [List.mem_filter]
          refine ⟨List.mem_range.2 hj, ?_⟩
          rw [Bool.and_eq_true, ho]
          have hlt : j < listed.size := by omega
          refine ⟨by simp [Array.getD, hlt] at hl ⊢; exact hl, ?_⟩
          simp only [Option.map_some, Option.getD_some]
          refine Array.all_eq_true'.2 fun e he => ?_
          cases hb : Region.binds .any e with
          | false => rfl
          | true =>
            have hlte := regOK_edge hreg ho he hb
            simp [ih e.on hlte (by omega)]
        rw [hnil] at hmem
        cases hmem
  intro fuel
  induction fuel with
  | zero =>
    intro listed q m a w I hf
    have hall : ∀ j, j < ops.size → listed.getD j false = true := by
      intro j hj
      cases hl : listed.getD j false with
      | true => rfl
      | false =>
        exfalso
        have : j ∈ left ops listed := List.mem_filter.2 ⟨List.mem_range.2 hj, by simp [hl]⟩
        have hnil : left ops listed = [] := List.eq_nil_of_length_eq_zero (by omega)
        rw [hnil] at this
        cases this
    refine ⟨?_, fin listed q m a w I hall⟩
    cases hr : Region.ready .any ops listed with
    | nil => rfl
    | cons j rest =>
      exfalso
      obtain ⟨o, hrd⟩ := I.rdy (j := j) (by rw [hr]; simp)
      have := hrd.not
      rw [hall j (Array.getElem?_eq_some_iff.1 hrd.op).1] at this
      cases this
  | succ fuel ih =>
    intro listed q m a w I hf
    refine ⟨fun hnil => fin listed q m a w I (ready_nil listed hnil I.lsize), fun j hjr => ?_⟩
    obtain ⟨o, hr⟩ := I.rdy hjr
    have hj : j < ops.size := (Array.getElem?_eq_some_iff.1 hr.op).1
    have hlt : j < listed.size := by rw [I.lsize]; exact hj
    have hfuel : (left ops (listed.setIfInBounds j true)).length ≤ fuel := by
      have : (left ops (listed.setIfInBounds j true)).length < (left ops listed).length := by
        refine filter_less _ j (List.mem_range.2 hj) (by have := hr.not; simpa using this) (by rw [getD_set hlt]; simp) fun i hi => ?_
        rw [getD_set hlt] at hi
        split at hi
        · cases hi
        · exact hi
      omega
    have h0 : (tH 0).length ≤ (tH j).length := A.le (Nat.zero_le _) (by omega)
    unfold wpOp
    rw [hr.op]
    simp only
    rw [I.wanted hreg X hr]
    cases hs : sk j with
    | true =>
      simp only [Bool.not_true, Bool.false_eq_true, if_false]
      obtain ⟨_, h2, _⟩ := X.skip j o (Nat.zero_le _) hr.op hs
      refine ih _ q m _ w (I.mark hreg hr (by simp [eE, hs]) (fun _ _ h => h) (by rw [h2]; exact VRel.undef _) I.vr (fun b L h => .inl h) h0 (Nat.le_refl _) fun _ _ => rfl) hfuel
    | false =>
      simp only [Bool.not_false, if_true]
      refine .inl ?_
      obtain ⟨hop, _⟩ := I.opv hreg X hr
      cases hE : eE ops sk j with
      | true =>
        have hjq := I.isq hreg hr hE
        subst hjq
        obtain ⟨T, hT, hTo⟩ := I.masked hreg X A hr
        have hres := X.res hr.op hs
        rw [← aRes_congr o.op hTo] at hres
        refine res_sound hcall hres I.vr.rel hT _ _ fun m1 v' w1 E R1 hv => ?_
        obtain ⟨q', m2, I2⟩ := I.act hreg X A hr hE E R1 hv
        exact ih _ q' m2 _ w1 I2 hfuel
      | false =>
        have heff : isEff o.op = false := by simpa [eE, hr.op, hs] using hE
        cases hf' : opRead P (AM.opv (tT j)) o.op with
        | some f =>
          have hnow := I.readNow X A hr hs hf'
          have hpad : f (padH tH ops.size q) = some (vl j) := opRead_keep hf' (fun b k hk => by
            unfold padH blk
            rw [List.getElem?_append_left (blk_lt' hk)]
            exact hk) hnow
          rw [← opRead_congr o.op hop] at hf'
          obtain ⟨v', q1, q2⟩ := read_sound (I.vr.pad (A.le I.hq (Nat.le_refl _))) I.slots hf' hpad
          unfold Oper.wp
          rw [q1]
          exact ih _ q m _ w (I.mark hreg hr hE (fun _ _ h => h) q2 I.vr (fun b L h => .inl h) h0 (Nat.le_refl _) fun _ _ => rfl) hfuel
        | none =>
          have hres := X.other j o (Nat.zero_le _) hr.op hs hf'
          cases ha : isAlloc o.op with
          | false =>
            obtain ⟨_, hpure⟩ := pure_res heff hf' ha hres
            have hp2 := hpure (List.replicate (tH ops.size).length none)
            rw [← aRes_congr o.op hop] at hp2
            have hN : ∀ b L, m b = some L → cutM m (tH ops.size).length b = some L := fun b L hb => cutM_of (I.vr.dom b L hb).1 hb
            refine res_sound hcall hp2 (I.vr.dead _) (I.slots.mono hN) _ _ fun m1 v' w1 E R1 hv => ?_
            have hback : ∀ b L, m1 b = some L → m b = some L := by
              intro b L hb
              rcases E.new b L hb with h1 | ⟨h1, _⟩
              · exact (cutM_some h1).2
              · have := (R1.dom b L hb).1; omega
            have hw : ∀ B, B < w.heap.size → w1.heap[B]? = w.heap[B]? := fun B hB => E.frame B hB fun b L k _ hk => by rw [blk_dead] at hk; cases hk
            exact ih _ q m _ w1 (I.mark hreg hr hE (fun _ _ h => h) (hv.mono hback) (I.vr.still R1.below E.size hw) (fun b L h => .inl h) h0 E.size hw) hfuel
          | true =>
            obtain ⟨k, hk1, hk2, hall⟩ := alloc_res ha hres
            have hp2 := hall (List.replicate (tH j).length none) (by simp)
            have hkb := I.makeNow X A hr hs hf' ha hk2
            have hlen : (tH (j + 1)).length = (tH j).length + 1 := by rw [hk2]; simp
            have hnone : m (tH j).length = none := by
              cases hb : m (tH j).length with
              | none => rfl
              | some L =>
                exfalso
                rcases I.dm _ L hb with h3 | ⟨i, h3, h4, h5, h6⟩
                · omega
                · rcases Nat.lt_trichotomy i j with h7 | h7 | h7
                  · have := A.le (i := i + 1) (j := j) (by omega) (by omega); omega
                  · subst h7
                    have := hr.not
                    rw [h4] at this
                    cases this
                  · have := A.le (i := j + 1) (j := i) (by omega) (by omega); omega
            obtain ⟨T, hT, hTo⟩ := I.masked hreg X A hr
            rw [← aRes_congr o.op hTo] at hp2
            refine res_sound hcall hp2 (I.vr.dead _) hT _ _ fun m1 v' w1 E R1 hv => ?_
            have hmap : ∃ L, m1 (tH j).length = some L := by
              rcases hk1.2 with h1 | ⟨n, c, h1⟩
              · rw [h1] at hv; obtain ⟨L, h2, _⟩ := VRel.ptr_inv hv; exact ⟨L, h2⟩
              · rw [h1] at hv; obtain ⟨L, _, _, h2, _⟩ := VRel.slice_inv hv; exact ⟨L, h2⟩
            obtain ⟨L, hL⟩ := hmap
            have hup : ∀ b L', m1 b = some L' → upd m (tH j).length L b = some L' ∧ b < (tH j).length + 1 := by
              intro b L' hb
              have h2 := (R1.dom b L' hb).1
              rw [List.length_append, List.length_replicate, List.length_singleton] at h2
              refine ⟨?_, h2⟩
              unfold upd
              by_cases hbl : b = (tH j).length
              · subst hbl; rw [if_pos rfl, ← hL]; exact hb
              · rw [if_neg hbl]
                rcases E.new b L' hb with h1 | ⟨h1, _⟩
                · exact (cutM_some h1).2
                · rw [List.length_replicate] at h1; omega
            have hblk : blk (List.replicate (tH j).length none ++ [some k]) (tH j).length = some k := by
              unfold blk
              rw [List.getElem?_append_right (by simp)]
              simp
            have hfresh : w.heap.size ≤ L.blk := by
              rcases E.new _ L hL with h1 | ⟨_, h1 | ⟨b0, L0, k0, _, h1, _⟩⟩
              · have := (cutM_some h1).1; omega
              · exact h1
              · rw [blk_dead] at h1; cases h1
            have hw : ∀ B, B < w.heap.size → w1.heap[B]? = w.heap[B]? := fun B hB => E.frame B hB fun b L k _ hk => by rw [blk_dead] at hk; cases hk
            have hmono : ∀ b L', m b = some L' → upd m (tH j).length L b = some L' := by
              intro b L' hb
              unfold upd
              rw [if_neg]
              · exact hb
              · intro he; rw [he, hnone] at hb; cases hb
            have hV := I.vr.alloc R1.below E.size hw (l := (tH j).length) (L := L) (k := k) (by have := A.le (i := j + 1) (j := ops.size) (by omega) (Nat.le_refl _); omega) hnone hkb hfresh (R1.dom _ L hL).2
              ((R1.blks _ L k hL hblk).mono fun b L' hb => cutM_of (hup b L' hb).2 (hup b L' hb).1)
            refine ih _ q _ _ w1 (I.mark hreg hr hE hmono (hv.mono fun b L' hb => (hup b L' hb).1) hV (fun b L' hb => ?_) h0 E.size hw) hfuel
            unfold upd at hb
            split at hb
            · rename_i he
              cases hb
              exact .inr ⟨by omega, by omega, hfresh⟩
            · exact .inl hb
theorem getD_replicate (n i : Nat) : (Array.replicate n false).getD i false = false := by
  unfold Array.getD
  split
  · simp
  · rfl
theorem draw_ok {P : Program} {call : CallF} (hcall : CallOK P call) : DrawOK P call := by
  intro ops hreg R T H K r h
  obtain ⟨tT, tH, sk, vl, h0, h1, X, _, hK⟩ := evD_inv ops (befL [] ops.toList) ops.toList 0 T H [] [] (fun j => by simp) h
  simp only [Array.length_toList, Nat.zero_add] at hK
  subst h0 h1
  refine ⟨_, _, hK, fun B0 w0 m a w Q R0 hT hd hq => ?_⟩
  have A : Along ops tT tH m := ⟨fun i d hd => (X.lens hcall R0 hT i d hd).1, fun d hd b k' hb hk => by
      have := (X.lens hcall R0 hT 0 d (by omega)).2 b k' hb (by rw [Nat.zero_add]; exact hk)
      exact this, fun j s x hj hx => X.bel hcall R0 hT hj s x hx, fun b L hb => (R0.dom b L hb).1⟩
  obtain ⟨q, _, hq1, hq2, hq3⟩ := nextE (ops := ops) (sk := sk) 0 ops.size (by omega)
  have hsame := X.same 0 q (by omega) (fun e h1 h2 => hq2 e h1 (by omega))
  rw [Nat.zero_add] at hsame
  have hle := A.le hq1 (Nat.le_refl _)
  refine Inv.any hcall hreg X A hq ops.size _ q m a w ⟨by simp, fun j o ho hD => (by have hD' : (Array.replicate ops.size false).getD j false = true := hD; rw [getD_replicate] at hD'; cases hD'), hq1, fun hlt => ⟨hq3 hlt, getD_replicate _ _⟩, fun e he hE => ?_, ?_, hd, ?_, fun b L hb => .inl (R0.dom b L hb).1, fun _ _ h => h, Nat.le_refl _, fun b L hb => .inl hb, fun _ _ _ => rfl⟩ ?_
  · have := hq2 e (Nat.zero_le _) he
    rw [hE] at this
    cases this
  · have e1 : svL ops vl (tT 0) (fun i => (Array.replicate ops.size false).getD i false) = tT 0 := by
      apply List.ext_getElem?
      intro s
      rcases Nat.lt_or_ge s (tT 0).length with hs | hs
      · have e2 : (svL ops vl (tT 0) (fun i => (Array.replicate ops.size false).getD i false))[s]? = some (AM.sv ops vl (tT 0) (fun i => (Array.replicate ops.size false).getD i false) ops.size s) := by
          unfold svL; rw [List.getElem?_map, List.getElem?_range hs]; rfl
        have e3 := sv_cut (ops := ops) (vl := vl) (T0 := tT 0) (D := fun i => (Array.replicate ops.size false).getD i false) (s := s) (i := 0) ops.size fun j _ _ _ => getD_replicate _ _
        rw [Nat.zero_add] at e3
        rw [e2, e3]
        unfold AM.sv
        rw [List.getD_eq_getElem?_getD, List.getElem?_eq_getElem hs]
        rfl
      · rw [List.getElem?_eq_none (by rw [svL_length]; exact hs), List.getElem?_eq_none hs]
    rw [e1]
    exact hT
  · have kb0 : ∀ b, b < (tH 0).length → kb tH ops.size q b = blk (tH 0) b := fun b hb => by rw [kb_lt (by omega)]; exact hsame.2 b hb
    have hcut : ∀ l, (tH 0).length ≤ l → ∀ b L, m b = some L → cutM m l b = some L := fun l hl b L hb => cutM_of (by have := (R0.dom b L hb).1; omega) hb
    refine ⟨R0.below, R0.hB, fun b L hb => ⟨by have := (R0.dom b L hb).1; omega, (R0.dom b L hb).2⟩, fun b L k hb hk => ?_, fun b1 b2 L1 L2 k1 k2 hm1 hm2 hk1 hk2 hne hbb => ?_⟩
    · rw [kb0 b (R0.dom b L hb).1] at hk
      exact (R0.blks b L k hb hk).mono (hcut _ (by omega))
    · rw [kb0 b1 (R0.dom b1 L1 hm1).1] at hk1
      rw [kb0 b2 (R0.dom b2 L2 hm2).1] at hk2
      exact R0.inj b1 b2 L1 L2 k1 k2 hm1 hm2 hk1 hk2 hne hbb
  · unfold left
    exact Nat.le_trans (List.length_filter_le _ _) (by simp)
end
/-- What the evaluator tells of a call, the machine comes to. -/
theorem run_ok {P : Program} (hmix : P.follows .mixedOrders = true) {tbs : FuncId → Tbl} {gv : Given} (hgv : GivenOK P gv) (k : Nat) : CallOK P (run P tbs gv k) := run_sound (fun _ h => draw_ok h) hmix hgv k
end Go.AM
set_option linter.unusedVariables false
set_option linter.unusedSimpArgs false
namespace Go.AM
open Go.ChangeShapes Go.WideShapes Go.Deep Go.RowKit
variable {P : Program}

structure Ro (P : Program) (W : World) (m : Mp) (H : AH) : Prop where
  rel : Rel P W.heap.size W m H W
  ro : ∀ b k, blk H b = some k → k.kind = .ro
def Sub (m m' : Mp) : Prop := ∀ b L, m b = some L → m' b = some L
theorem Sub.refl (m : Mp) : Sub m m := fun _ _ h => h
theorem Sub.trans {a b c : Mp} (h : Sub a b) (k : Sub b c) : Sub a c := fun x L hx => k x L (h x L hx)
theorem Ro.empty (W : World) : Ro P W (fun _ => none) [] :=
  ⟨⟨Below.refl _ _, Nat.le_refl _, fun _ _ h => (by cases h), fun _ _ _ h => (by cases h), fun _ _ _ _ _ _ h => (by cases h)⟩, fun b k h => (by simp [blk] at h)⟩
def SlOK (W : World) (cs : List Value) : Prop := ∀ a len cap, Value.slice (some a) len cap ∈ cs → a.spot = none ∧ ∃ c e fr, W.heap[a.block]? = some (.cells c e fr)

/-- One more that came in. -/
theorem Ro.add {W : World} {m : Mp} {H : AH} {ks : List Value} {e : TypeId} {bl base : Nat} {c : Array Value} {te : TypeId} {fr : Nat × Nat} (R : Ro P W m H) (hb : W.heap[bl]? = some (.cells c te fr))
    (hl : LRel m ks ((c.toList.drop base).take ks.length)) :
    ∃ m' : Mp, Sub m m' ∧ m' H.length = some ⟨bl, base, .ro, 0, 0⟩ ∧ Ro P W m' (mkB H ks e .ro) := by
  refine ⟨fun b => if b = H.length then some ⟨bl, base, .ro, 0, 0⟩ else m b, ?_, if_pos rfl, ?_⟩
  · intro b L h
    have := (R.rel.dom b L h).1
    show (if b = H.length then _ else m b) = _
    rw [if_neg (by omega)]; exact h
  have hsub : Sub m (fun b => if b = H.length then some ⟨bl, base, .ro, 0, 0⟩ else m b) := by
    intro b L h
    have := (R.rel.dom b L h).1
    show (if b = H.length then _ else m b) = _
    rw [if_neg (by omega)]; exact h
  have hro : ∀ b k, blk (mkB H ks e .ro) b = some k → k.kind = .ro := by
    intro b k h
    by_cases hbn : b < H.length
    · rw [blk_mkB_old hbn] at h; exact R.ro b k h
    · have := blk_lt h
      rw [length_mkB] at this
      have : b = H.length := by omega
      subst this
      rw [blk_mkB_new] at h; cases h; rfl
  refine ⟨⟨R.rel.below, R.rel.hB, ?_, ?_, ?_⟩, hro⟩
  · intro b L h
    replace h : (if b = H.length then some _ else m b) = some L := h
    rw [length_mkB]
    by_cases hb2 : b = H.length
    · rw [if_pos hb2] at h; cases h
      exact ⟨by omega, (Array.getElem?_eq_some_iff.1 hb).1⟩
    · rw [if_neg hb2] at h
      have := R.rel.dom b L h
      exact ⟨by omega, this.2⟩
  · intro b L k h hk
    replace h : (if b = H.length then some _ else m b) = some L := h
    by_cases hb2 : b = H.length
    · rw [if_pos hb2] at h; cases h
      subst hb2
      rw [blk_mkB_new] at hk; cases hk
      exact ⟨rfl, ⟨c, te, fr, hb, hl.mono hsub, fun hh => absurd rfl hh, fun hh => (by cases hh), fun hh => (by cases hh)⟩, fun hh => absurd rfl hh, fun hh => (by cases hh)⟩
    · rw [if_neg hb2] at h
      have hlt := (R.rel.dom b L h).1
      rw [blk_mkB_old hlt] at hk
      have h1 := R.rel.blks b L k h hk
      obtain ⟨c', e', fr', q1, q2, q3, q4, q5⟩ := h1.there
      exact ⟨h1.kind, ⟨c', e', fr', q1, q2.mono hsub, q3, q4, q5⟩, h1.own, h1.esz⟩
  · intro b1 b2 L1 L2 k1 k2 _ _ h1 _ hne _
    exact absurd (hro b1 k1 h1) hne

/-- A kind of datum over the abstract heap. -/
structure Kn (α : Type) where
  K : AH → α → List Value → Prop
  mono : ∀ {H H' : AH} {a : α} {cs : List Value}, Mo H H' → K H a cs → K H' a cs
def Kn.int (k : IntKind) : Kn Int := ⟨fun _ n cs => cs = [.int k n], fun _ h => h⟩
def Kn.bool : Kn Bool := ⟨fun _ n cs => cs = [.bool n], fun _ h => h⟩
def Kn.string : Kn ByteArray := ⟨fun _ n cs => cs = [.string n], fun _ h => h⟩
def Kn.pair {α β : Type} (a : Kn α) (b : Kn β) : Kn (α × β) :=
  ⟨fun H x cs => ∃ c d, cs = c ++ d ∧ a.K H x.1 c ∧ b.K H x.2 d, fun hm ⟨c, d, h, h1, h2⟩ => ⟨c, d, h, a.mono hm h1, b.mono hm h2⟩⟩
def Kn.unit : Kn Unit := ⟨fun _ _ cs => cs = [], fun _ h => h⟩
/-- A slice that came in. -/
def Kn.slice {α : Type} (e : TypeId) (sz : Nat) (d : Kn α) : Kn (List α) :=
  ⟨fun H l cs => (cs = [.slice none 0 0] ∧ l = []) ∨ ∃ (b : Nat) (css : List (List Value)), cs = [sl b 0 l.length (l.length + 1)] ∧ blk H b = some ⟨css.flatten, e, .ro⟩ ∧ css.length = l.length ∧ ∀ (i : Nat) (a : α) (c : List Value), l[i]? = some a → css[i]? = some c → c.length = sz ∧ d.K H a c,
   by
    intro H H' l cs hm h
    rcases h with h | ⟨b, css, h1, h2, h3, h4⟩
    · exact .inl h
    · exact .inr ⟨b, css, h1, hm _ _ h2, h3, fun i a c h5 h6 => ⟨(h4 i a c h5 h6).1, d.mono hm (h4 i a c h5 h6).2⟩⟩⟩
/-- What follows from a cells' list: each is one. -/
def OpA (P : Program) (t : TypeId) {α : Type} (d : Kn α) (G : α → Prop) : Prop :=
  ∀ (Hh : Type) (enc : TypeId × Value → Hh) (W : World) (spare : Nat → Bool) (held : Bool) (fuel : Nat) (cs : List Value) (x : DataW Hh × List MemPlace),
    DataW.trod enc P W 0 spare held fuel t cs = some x → SlOK W cs → ∀ (m : Mp) (H : AH), Ro P W m H →
    ∃ m' H' cs' a, Ro P W m' H' ∧ Sub m m' ∧ Fr H H' ∧ LRel m' cs' cs ∧ d.K H' a cs' ∧ G a
theorem LRel.one {m : Mp} {x y : Value} (h : VRel m x y) : LRel m [x] [y] := LRel.cons h (LRel.nil m)
theorem opA_int {t : TypeId} {k : IntKind} (ht : P.underlying t = some (.int k)) : OpA P t (Kn.int k) (fun n => (Lit.int k n).wf = true) := by
  intro Hh enc W spare held fuel cs x h _ m H R
  obtain ⟨n, rfl, _, hw⟩ := DataW.trod_int ht h
  exact ⟨m, H, _, n, R, Sub.refl m, Fr.refl H, LRel.one (.flat _ rfl), rfl, hw⟩
theorem opA_bool {t : TypeId} (ht : P.underlying t = some .bool) : OpA P t Kn.bool (fun _ => True) := by
  intro Hh enc W spare held fuel cs x h _ m H R
  obtain ⟨n, rfl, _⟩ := DataW.trod_bool ht h
  exact ⟨m, H, _, n, R, Sub.refl m, Fr.refl H, LRel.one (.flat _ rfl), rfl, trivial⟩
theorem opA_string {t : TypeId} (ht : P.underlying t = some .string) : OpA P t Kn.string (fun s => s.size ≤ maxLen) := by
  intro Hh enc W spare held fuel cs x h _ m H R
  obtain ⟨n, rfl, _, hw⟩ := DataW.trod_string ht h
  exact ⟨m, H, _, n, R, Sub.refl m, Fr.refl H, LRel.one (.flat _ rfl), rfl, hw⟩
/-- No slice among a type's cells. -/
def NoSl (P : Program) (t : TypeId) : Prop :=
  ∀ (Hh : Type) (enc : TypeId × Value → Hh) (W : World) (spare : Nat → Bool) (held : Bool) (fuel : Nat) (cs : List Value) (x : DataW Hh × List MemPlace), DataW.trod enc P W 0 spare held fuel t cs = some x → SlOK W cs
theorem noSl_int {t : TypeId} {k : IntKind} (ht : P.underlying t = some (.int k)) : NoSl P t := by
  intro Hh enc W spare held fuel cs x h
  obtain ⟨n, rfl, _, hw⟩ := DataW.trod_int ht h
  intro a l c hm; simp at hm
theorem noSl_string {t : TypeId} (ht : P.underlying t = some .string) : NoSl P t := by
  intro Hh enc W spare held fuel cs x h
  obtain ⟨n, rfl, _, hw⟩ := DataW.trod_string ht h
  intro a l c hm; simp at hm

theorem flatten_snoc {α : Type} (l : List (List α)) (x : List α) : (l ++ [x]).flatten = l.flatten ++ x := by simp
theorem opA_slice {t e : TypeId} {α : Type} {d : Kn α} {G : α → Prop} {sz : Nat} (ht : P.underlying t = some (.slice e)) (hsz : P.cellsOf e = sz) (he : OpA P e d G) (hn : NoSl P e) :
    OpA P t (Kn.slice e sz d) (fun l => l.length ≤ maxLen ∧ ∀ x ∈ l, G x) := by
  intro Hh enc W spare held fuel cs x h hs m H R
  rcases open_slice ht h with ⟨rfl, _⟩ | ⟨a, len, cap, mm, n, D, Pl, rfl, _, hlc, hcm, hm, _, hel⟩
  · exact ⟨m, H, [.slice none 0 0], [], R, Sub.refl m, Fr.refl H, LRel.one (.flat _ rfl), Or.inl ⟨rfl, rfl⟩, by simp, fun x hx => by simp at hx⟩
  · have hlm : len ≤ mm := by rw [hm]; split <;> omega
    obtain ⟨hsp, c, te, fr, hb⟩ := hs a len cap (by simp)
    have hcell : ∀ i, i < mm → ∃ cs', cs' = (c.toList.drop (a.off + i * sz)).take sz ∧ cs'.length = sz ∧ DataW.trod enc P W 0 spare held n e cs' = some (D i, Pl i) := by
      intro i hi
      obtain ⟨cs', h1, h2⟩ := hel i hi
      obtain ⟨_, h3, h4⟩ := World.cells?_some h1
      rw [hsz] at h3 h4
      refine ⟨cs', ?_, h3, h2⟩
      apply List.ext_getElem?
      intro j
      by_cases hj : j < sz
      · rw [List.getElem?_take_of_lt hj, List.getElem?_drop, ← h4 j hj]
        have e1 : (a.add (i * sz)).add j = a.add (i * sz + j) := add_add _ _ _
        have e2 : (a.add (i * sz + j)).block = a.block ∧ (a.add (i * sz + j)).spot = none ∧ (a.add (i * sz + j)).off = a.off + (i * sz + j) := by
          unfold Addr.add
          by_cases h0 : i * sz + j = 0
          · rw [if_pos h0, h0]; exact ⟨rfl, hsp, rfl⟩
          · rw [if_neg h0]; exact ⟨rfl, rfl, rfl⟩
        rw [e1]
        unfold World.cell?
        rw [e2.1, hb]
        simp only [e2.2.1, e2.2.2]
        simp [Nat.add_assoc]
      · rw [List.getElem?_eq_none (by omega), List.getElem?_eq_none (by rw [List.length_take]; omega)]
    have key : ∀ q, q ≤ len → ∃ (m' : Mp) (H' : AH) (l : List α) (css : List (List Value)), Ro P W m' H' ∧ Sub m m' ∧ Fr H H' ∧ l.length = q ∧ css.length = q ∧ (∀ x ∈ l, G x) ∧ css.flatten.length = q * sz ∧ LRel m' css.flatten ((c.toList.drop a.off).take (q * sz)) ∧
        ∀ (i : Nat) (y : α) (c : List Value), l[i]? = some y → css[i]? = some c → c.length = sz ∧ d.K H' y c := by
      intro q
      induction q with
      | zero => exact fun _ => ⟨m, H, [], [], R, Sub.refl m, Fr.refl H, rfl, rfl, fun x hx => by simp at hx, by simp, by simpa using LRel.nil m, fun i y c h => by simp at h⟩
      | succ q ih =>
        intro hq
        obtain ⟨m1, H1, l, css, R1, s1, f1, hl, hcs, hG, hfl, hLR, hK⟩ := ih (by omega)
        obtain ⟨cs', e1, e2, e3⟩ := hcell q (by omega)
        obtain ⟨m2, H2, ds, y, R2, s2, f2, hLR2, hK2, hG2⟩ := he Hh enc W spare held n cs' _ e3 (hn Hh enc W spare held n cs' _ e3) m1 H1 R1
        refine ⟨m2, H2, l ++ [y], css ++ [ds], R2, s1.trans s2, f1.trans f2, by simp [hl], by simp [hcs], ?_, ?_, ?_, ?_⟩
        · intro x hx
          rcases List.mem_append.1 hx with hx | hx
          · exact hG x hx
          · simp at hx; subst hx; exact hG2
        · rw [flatten_snoc, List.length_append, hfl, hLR2.1, e2, Nat.succ_mul]
        · rw [flatten_snoc, Nat.succ_mul, List.take_add, List.drop_drop, ← e1]
          exact (hLR.mono s2).append hLR2
        · intro i y' c' h1 h2
          by_cases hi : i < q
          · rw [List.getElem?_append_left (by omega)] at h1 h2
            exact ⟨(hK i y' c' h1 h2).1, d.mono f2.mo (hK i y' c' h1 h2).2⟩
          · have hi2 := (List.getElem?_eq_some_iff.1 h1).1
            have : i = q := by simp [hl] at hi2; omega
            subst this
            rw [List.getElem?_append_right (by omega), hl, Nat.sub_self] at h1
            rw [List.getElem?_append_right (by omega), hcs, Nat.sub_self] at h2
            simp at h1 h2
            subst h1 h2
            exact ⟨by rw [hLR2.1, e2], hK2⟩
    obtain ⟨m1, H1, l, css, R1, s1, f1, hl, hcs, hG, hfl, hLR, hK⟩ := key len (Nat.le_refl _)
    obtain ⟨m2, s2, hm2, R2⟩ := R1.add (ks := css.flatten) (e := e) (base := a.off) hb (by rw [hfl]; exact hLR)
    have fnew : Fr H1 (mkB H1 css.flatten e .ro) := ⟨by rw [length_mkB]; omega, fun b hb => blk_mkB_old hb⟩
    refine ⟨m2, mkB H1 css.flatten e .ro, [sl H1.length 0 l.length (l.length + 1)], l, R2, s1.trans s2, f1.trans fnew, ?_, Or.inr ⟨H1.length, css, rfl, blk_mkB_new, by omega, fun i y c h1 h2 => ⟨(hK i y c h1 h2).1, d.mono fnew.mo (hK i y c h1 h2).2⟩⟩, by omega, hG⟩
    refine LRel.one ?_
    rw [hl]
    have ea : a = ⟨a.block, a.off, none⟩ := by rw [← hsp]
    rw [ea]
    exact .slice H1.length 0 a.off len (len + 1) cap ⟨a.block, a.off, .ro, 0, 0⟩ hm2 (by omega) hlc (.inl (by simp)) (fun h => (by cases h)) (fun h => (by cases h)) (fun _ => .inl (by omega))

/-- The fields of a struct from one on. -/
def OpFs (P : Program) (fs : List Field) (off tot : Nat) {α : Type} (d : Kn α) (G : α → Prop) : Prop :=
  ∀ (Hh : Type) (enc : TypeId × Value → Hh) (W : World) (spare : Nat → Bool) (held : Bool) (fuel : Nat) (cs : List Value),
    (∀ f ∈ fs, ∃ x, DataW.trod enc P W 0 spare held fuel f.type ((cs.drop f.offset).take (P.cellsOf f.type)) = some x) → cs.length = tot → SlOK W cs → ∀ (m : Mp) (H : AH), Ro P W m H →
    ∃ m' H' cs' a, Ro P W m' H' ∧ Sub m m' ∧ Fr H H' ∧ LRel m' cs' (cs.drop off) ∧ d.K H' a cs' ∧ G a
theorem opFs_nil {off : Nat} : OpFs P [] off off Kn.unit (fun _ => True) := by
  intro Hh enc W spare held fuel cs _ hl hs m H R
  refine ⟨m, H, [], (), R, Sub.refl m, Fr.refl H, ?_, rfl, trivial⟩
  rw [List.drop_eq_nil_of_le (by omega)]; exact LRel.nil m
theorem opFs_cons {f : Field} {fs : List Field} {off tot sz : Nat} {α β : Type} {a : Kn α} {b : Kn β} {G0 : α → Prop} {G1 : β → Prop} (ho : f.offset = off) (hc : P.cellsOf f.type = sz) (A : OpA P f.type a G0)
    (B : OpFs P fs (off + sz) tot b G1) : OpFs P (f :: fs) off tot (Kn.pair a b) (fun x => G0 x.1 ∧ G1 x.2) := by
  intro Hh enc W spare held fuel cs hf hl hs m H R
  obtain ⟨x, hx⟩ := hf f (by simp)
  rw [ho, hc] at hx
  obtain ⟨m1, H1, c1, y1, R1, s1, f1, l1, k1, g1⟩ := A Hh enc W spare held fuel _ x hx (fun a l c h => hs a l c (List.mem_of_mem_drop (List.mem_of_mem_take h))) m H R
  obtain ⟨m2, H2, c2, y2, R2, s2, f2, l2, k2, g2⟩ := B Hh enc W spare held fuel cs (fun g hg => hf g (by simp [hg])) hl hs m1 H1 R1
  refine ⟨m2, H2, c1 ++ c2, (y1, y2), R2, s1.trans s2, f1.trans f2, ?_, ⟨c1, c2, rfl, a.mono f2.mo k1, k2⟩, g1, g2⟩
  have := (l1.mono s2).append l2
  rw [← List.drop_drop, List.take_append_drop] at this
  exact this
theorem opA_struct {t : TypeId} {fs : List Field} {tot : Nat} {α : Type} {d : Kn α} {G : α → Prop} (ht : P.underlying t = some (.struct ⟨fs⟩)) (hc : P.cellsOf t = tot) (A : OpFs P fs 0 tot d G) : OpA P t d G := by
  intro Hh enc W spare held fuel cs x h hs m H R
  obtain ⟨xs, n, _, rfl, hl, hlen, hf⟩ := DataW.trod_struct ht h
  refine A Hh enc W spare held n cs (fun f hfm => ?_) (by rw [hl, hc]) hs m H R
  obtain ⟨i, hi, he⟩ := List.mem_iff_getElem.1 hfm
  have h1 := hf i f (by simp [← he, hi])
  rw [h1]
  have : i < xs.length := by rw [hlen]; simpa using hi
  exact ⟨_, List.getElem?_eq_getElem this⟩
theorem slOK_cell {W : World} {base : Nat} {u : TypeId} {a : Addr} {len cap : Nat} (h : Cell.okWide P W .any base u (.slice (some a) len cap)) : a.spot = none ∧ ∃ c e fr, W.heap[a.block]? = some (.cells c e fr) := by
  have hc : ∃ e n, W.has P .any base a e n := by
    unfold Cell.okWide at h
    cases hu : P.underlying u with
    | none => rw [hu] at h; simp [Cell.ok, hu] at h
    | some D =>
      rw [hu] at h
      cases D <;> simp [Cell.ok, hu] at h
      exact ⟨_, _, h.2.2⟩
  obtain ⟨e, n, hh⟩ := hc
  obtain ⟨_, h1, row, cells, h2, _⟩ := hh
  refine ⟨h1, ?_⟩
  unfold World.shape? at h2
  split at h2
  · rename_i c' e' fr' hb; exact ⟨c', e', fr', hb⟩
  · cases h2
theorem slOK_of {W : World} {base : Nat} {t : TypeId} {v : Value} (h : Value.okWide P W .any base t v) : SlOK W v.cells.toList := by
  intro a len cap hm
  have key : (∃ u, Cell.okWide P W .any base u (.slice (some a) len cap)) := by
    unfold Value.okWide at h
    split at h
    · obtain ⟨cs, rfl, _, ts, _, _, hr⟩ := h
      obtain ⟨i, hi⟩ := List.getElem?_of_mem hm
      obtain ⟨u, _, hu⟩ := hr i _ (by simpa [Value.cells] using hi)
      exact ⟨u, hu⟩
    · obtain ⟨cs, rfl, _, ts, _, _, hr⟩ := h
      obtain ⟨i, hi⟩ := List.getElem?_of_mem hm
      obtain ⟨u, _, hu⟩ := hr i _ (by simpa [Value.cells] using hi)
      exact ⟨u, hu⟩
    · cases v with
      | agg cs =>
        exfalso
        unfold Cell.okWide at h
        cases hu : P.underlying t with
        | none => rw [hu] at h; simp [Cell.ok, hu] at h
        | some D => rw [hu] at h; cases D <;> simp [Cell.ok, hu] at h
      | slice p l c =>
        simp [Value.cells] at hm
        obtain ⟨rfl, rfl, rfl⟩ := hm
        exact ⟨t, h⟩
      | _ => simp [Value.cells] at hm
  obtain ⟨u, hu⟩ := key
  exact slOK_cell hu
/-- An argument. -/
structure OpV (P : Program) (t : TypeId) {α : Type} (d : Kn α) (G : α → Prop) (KV : AH → α → Value → Prop) : Prop where
  op : OpA P t d G
  val : ∀ (W : World) (base : Nat) (v : Value), Value.okWide P W .any base t v → (∃ cs, v = .agg cs) ∧ (∀ H a cs, d.K H a cs → KV H a (.agg cs.toArray)) ∨ v.cells = #[v] ∧ (∀ H a v, d.K H a [v] → KV H a v)
  mono : ∀ {H H' : AH} {a : α} {v : Value}, Mo H H' → KV H a v → KV H' a v
def KvS {α : Type} (d : Kn α) (H : AH) (a : α) (v : Value) : Prop := ∃ cs, v = .agg cs.toArray ∧ d.K H a cs
def KvC {α : Type} (d : Kn α) (H : AH) (a : α) (v : Value) : Prop := d.K H a [v]
theorem opV_struct {t : TypeId} {fs : Array Field} {α : Type} {d : Kn α} {G : α → Prop} (ht : P.underlying t = some (.struct fs)) (A : OpA P t d G) : OpV P t d G (KvS d) := by
  refine ⟨A, fun W base v h => .inl ⟨?_, fun H a cs h => ⟨cs, rfl, h⟩⟩, fun hm ⟨cs, h1, h2⟩ => ⟨cs, h1, d.mono hm h2⟩⟩
  unfold Value.okWide at h
  rw [ht] at h
  obtain ⟨cs, rfl, _⟩ := h
  exact ⟨cs, rfl⟩
theorem opV_cell {t : TypeId} {D : TypeDesc} {α : Type} {d : Kn α} {G : α → Prop} (ht : P.underlying t = some D) (hD : (∀ fs, D ≠ .struct fs) ∧ ∀ n e, D ≠ .array n e) (A : OpA P t d G) : OpV P t d G (KvC d) := by
  refine ⟨A, fun W base v h => .inr ⟨?_, fun H a v h => h⟩, fun hm h => d.mono hm h⟩
  unfold Value.okWide at h
  rw [ht] at h
  have h' : Cell.okWide P W .any base t v := by
    cases D with
    | struct fs => exact absurd rfl (hD.1 fs)
    | array n e => exact absurd rfl (hD.2 n e)
    | _ => exact h
  cases v with
  | agg cs =>
    exfalso
    unfold Cell.okWide at h'
    rw [ht] at h'
    cases D <;> simp [Cell.ok, ht] at h'
  | _ => rfl
/-- All arguments. -/
structure OpAs (P : Program) (ts : List TypeId) {α : Type} (G : α → Prop) (KV : AH → α → List Value → Prop) : Prop where
  op : ∀ (Hh : Type) (enc : TypeId × Value → Hh) (W : World) (base : Nat) (spare : Nat → Bool) (held : Bool) (vs : List Value) (ds : List (DataW Hh)) (ps : List MemPlace),
    DataW.TrodAll enc P W 0 spare held ts vs ds ps → (∀ (j : Nat) t v, ts[j]? = some t → vs[j]? = some v → Value.okWide P W .any base t v) → ∀ (m : Mp) (H : AH), Ro P W m H →
    ∃ m' H' vs' a, Ro P W m' H' ∧ Sub m m' ∧ Fr H H' ∧ LRel m' vs' vs ∧ KV H' a vs' ∧ G a
  mono : ∀ {H H' : AH} {a : α} {vs : List Value}, Mo H H' → KV H a vs → KV H' a vs
theorem opAs_nil : OpAs P [] (fun _ : Unit => True) (fun _ _ vs => vs = []) := by
  refine ⟨?_, fun _ h => h⟩
  intro Hh enc W base spare held vs ds ps h _ m H R
  obtain ⟨rfl, rfl, rfl⟩ := trodAll_nil h
  exact ⟨m, H, [], (), R, Sub.refl m, Fr.refl H, LRel.nil m, rfl, trivial⟩
theorem opAs_cons {t : TypeId} {ts : List TypeId} {α β : Type} {d : Kn α} {G : α → Prop} {KV : AH → α → Value → Prop} {G' : β → Prop} {KV' : AH → β → List Value → Prop} (A : OpV P t d G KV) (B : OpAs P ts G' KV') :
    OpAs P (t :: ts) (fun x : α × β => G x.1 ∧ G' x.2) (fun H x vs => ∃ v vs', vs = v :: vs' ∧ KV H x.1 v ∧ KV' H x.2 vs') := by
  refine ⟨?_, fun hm ⟨v, vs', h1, h2, h3⟩ => ⟨v, vs', h1, A.mono hm h2, B.mono hm h3⟩⟩
  intro Hh enc W base spare held vs ds ps h hv m H R
  obtain ⟨v, vs', d0, ds', p, q, rfl, rfl, rfl, ⟨fuel, h0⟩, hr⟩ := trodAll_cons h
  have hok := hv 0 t v rfl rfl
  obtain ⟨m2, H2, us, y2, R2, s2, f2, l2, k2, g2⟩ := B.op Hh enc W base spare held vs' ds' q hr (fun j t' v' h1 h2 => hv (j + 1) t' v' h1 h2) m H R
  obtain ⟨m1, H1, cs', y1, R1, s1, f1, l1, k1, g1⟩ := A.op Hh enc W spare held fuel _ _ h0 (slOK_of hok) m2 H2 R2
  rcases A.val W base v hok with ⟨⟨cs, rfl⟩, hk⟩ | ⟨hc, hk⟩
  · exact ⟨m1, H1, .agg cs'.toArray :: us, (y1, y2), R1, s2.trans s1, f2.trans f1, LRel.cons (VRel.aggL (by simpa [Value.cells] using l1)) (l2.mono s1), ⟨_, _, rfl, hk _ _ _ k1, B.mono f1.mo k2⟩, g1, g2⟩
  · rw [hc] at l1
    obtain ⟨x, rfl⟩ : ∃ x, cs' = [x] := List.length_eq_one_iff.1 l1.1
    exact ⟨m1, H1, x :: us, (y1, y2), R1, s2.trans s1, f2.trans f1, LRel.cons (l1.2 0 x v rfl rfl) (l2.mono s1), ⟨_, _, rfl, hk _ _ _ k1, B.mono f1.mo k2⟩, g1, g2⟩
/-- Behind a call: nothing that was there is another. -/
theorem walk_of {W : World} {f : FuncId} {args vs : List Value} {m : Mp} {H H' : AH} {v : Value} {call : CallF} (hc : CallOK P call) (R : Ro P W m H) (hl : LRel m args vs) (h : call f args H = some (v, H')) (hf : flat1 v = true) :
    Calls P f vs.toArray W fun e W' => e = .returned v ∧ Below W.heap.size W W' := by
  refine ((hc f args H v H' h).2 W.heap.size W m W vs R.rel hl).mono fun e w' ⟨m', v', he, hv, hr, _⟩ => ?_
  rw [VRel.flat_inv hf hv] at he
  exact ⟨he, hr.below⟩
end Go.AM
set_option linter.unusedVariables false
set_option linter.unusedSimpArgs false
set_option maxRecDepth 100000
namespace Go.AM.N
open Go Go.AM Go.Proofs
attribute [local irreducible] run bin un ld st box newV mkS fldA fld ixA ix slc slc3 build buildS cv cvS ap cpy lenV gOp pickV b2 aIf aChk evalK resume iterD Option.bind

abbrev KStrs := Kn.slice 9 1 Kn.string
theorem strs_open {H : AH} {l : List ByteArray} {m : Value} (h : KStrs.K H l [m]) : FL H m str (l.map fun s => s.data.toList) := by
  rcases h with ⟨h1, rfl⟩ | ⟨b, css, h1, h2, h3, h4⟩
  · cases h1; exact FL.nil
  · cases h1
    have hl : (l.map fun s => s.data.toList).length = l.length := List.length_map ..
    refine ⟨.inr ⟨b, 0, l.length + 1, by rw [hl], by omega, by simp, ?_⟩⟩
    right
    refine ⟨_, h2, ?_⟩
    have e : css.flatten = (l.map fun s => s.data.toList).map str := by
      have : css = l.map fun s => [Value.string s] := by
        apply List.ext_getElem?
        intro i
        by_cases hi : i < l.length
        · rw [List.getElem?_map, List.getElem?_eq_getElem hi, List.getElem?_eq_getElem (by omega)]
          have := (h4 i _ _ (List.getElem?_eq_getElem hi) (List.getElem?_eq_getElem (by omega))).2
          exact congrArg some this
        · rw [List.getElem?_eq_none (by omega), List.getElem?_eq_none (by simp; omega)]
      rw [this, List.map_map]
      clear this h2 h3 h4
      induction l with
      | nil => rfl
      | cons a l ih =>
        simp only [List.map_cons, List.flatten_cons, List.cons_append, List.nil_append, Function.comp]
        rw [ih (by simp)]
    rw [e]
    unfold rdN
    rw [if_pos (by simp), List.drop_zero, List.take_of_length_le (by simp)]
abbrev KInts := Kn.slice 3 1 (Kn.int .i64)
theorem ints_open {H : AH} {l : List Int} {m : Value} (h : KInts.K H l [m]) : FL H m i64v l := by
  rcases h with ⟨h1, rfl⟩ | ⟨b, css, h1, h2, h3, h4⟩
  · cases h1; exact FL.nil
  · cases h1
    refine ⟨.inr ⟨b, 0, l.length + 1, rfl, by omega, by simp, ?_⟩⟩
    right
    refine ⟨_, h2, ?_⟩
    have e : css.flatten = l.map i64v := by
      have : css = l.map fun s => [Value.int .i64 s] := by
        apply List.ext_getElem?
        intro i
        by_cases hi : i < l.length
        · rw [List.getElem?_map, List.getElem?_eq_getElem hi, List.getElem?_eq_getElem (by omega)]
          have := (h4 i _ _ (List.getElem?_eq_getElem hi) (List.getElem?_eq_getElem (by omega))).2
          exact congrArg some this
        · rw [List.getElem?_eq_none (by omega), List.getElem?_eq_none (by simp; omega)]
      rw [this]
      clear this h2 h3 h4
      induction l with
      | nil => rfl
      | cons a l ih =>
        simp only [List.map_cons, List.flatten_cons, List.cons_append, List.nil_append]
        rw [ih]
    rw [e]
    unfold rdN
    rw [if_pos (by simp), List.drop_zero, List.take_of_length_le (by simp)]
theorem An.tt {B H : AH} {g : Nat → Nat → Option (Value × AH)} (h : Ev g (An B H fun _ v => v = .bool true)) : Ev g (fun r => r.1 = .bool true) := h.mono fun r ⟨_, _, _, _, e⟩ => e
end Go.AM.N
set_option linter.unusedVariables false
set_option linter.unusedSimpArgs false
set_option maxRecDepth 100000
namespace Go.AM.N
open Go Go.AM Go.Proofs
attribute [local irreducible] run bin un ld st box newV mkS fldA fld ixA ix slc slc3 build buildS cv cvS ap cpy lenV gOp pickV b2 aIf aChk evalK resume iterD Option.bind

end Go.AM.N
set_option linter.unusedVariables false
set_option linter.unusedSimpArgs false
set_option maxRecDepth 100000
namespace Go.AM.N
open Go Go.AM Go.Proofs
attribute [local irreducible] run bin un ld st box newV mkS fldA fld ixA ix slc slc3 build buildS cv cvS ap cpy lenV gOp pickV b2 aIf aChk evalK resume iterD Option.bind

section
variable {B B0 H0 H : AH} {kv cv : Value} {ks : List (List UInt8)} {cs : List Int} {lf : Bool}
theorem rsize_loop {b : Nat} (hS : St H0 B0 B [(b, ⟨[.bool lf, kv, cv], 33, .fix⟩)] H) (hk : FL B kv str ks) (hc : FL B cv i64v cs) (hlen : ks.length < 4611686018427387904) :
    ∀ (m i s : Nat), i + m = ks.length → s + sumK (ks.drop i) < 9223372036854775808 → Ev (fun k n => f21_L0 k (ptr b 0) (i64 s) (i64 i) n H) (fun o => o = (.exit 0, f21_X_L0 (i64 (s + sumK (ks.drop i))), H)) := by
  intro m
  induction m with
  | zero =>
    intro i s hi hs
    refine Ev.succ (fun k n => f21_L0_succ k _ _ _ n H) ?_
    repeat (first | refine Ev.s ?_ | refine Ev.newC fun _ _ _ => ?_ | refine Ev.boxC fun _ _ _ => ?_ | refine Ev.stC fun _ _ => ?_ | refine Ev.sc (by omega) ?_ | refine Ev.scg (by omega) ?_)
    rw [decide_eq_false (by omega), List.drop_of_length_le (by omega)]
    repeat (first | refine Ev.s ?_ | refine Ev.newC fun _ _ _ => ?_ | refine Ev.boxC fun _ _ _ => ?_ | refine Ev.stC fun _ _ => ?_ | refine Ev.sc (by omega) ?_ | refine Ev.scg (by omega) ?_)
    exact Ev.ret rfl
  | succ m ih =>
    intro i s hi hs
    refine Ev.succ (fun k n => f21_L0_succ k _ _ _ n H) ?_
    obtain ⟨a, ha⟩ := get_ex (l := ks) (i := i) (by omega)
    rw [drop_cons ha, sumK] at hs ⊢
    repeat (first | refine Ev.s ?_ | refine Ev.newC fun _ _ _ => ?_ | refine Ev.boxC fun _ _ _ => ?_ | refine Ev.stC fun _ _ => ?_ | refine Ev.sc (by omega) ?_ | refine Ev.scg (by omega) ?_)
    rw [decide_eq_true (by omega)]
    repeat (first | refine Ev.s ?_ | refine Ev.newC fun _ _ _ => ?_ | refine Ev.boxC fun _ _ _ => ?_ | refine Ev.stC fun _ _ => ?_ | refine Ev.sc (by omega) ?_ | refine Ev.scg (by omega) ?_)
    refine Ev.ixF i rfl ha fun p hp => ?_
    repeat (first | refine Ev.s ?_ | refine Ev.newC fun _ _ _ => ?_ | refine Ev.boxC fun _ _ _ => ?_ | refine Ev.stC fun _ _ => ?_ | refine Ev.sc (by omega) ?_ | refine Ev.scg (by omega) ?_)
    have := ih (i + 1) (s + 1 + a.length) (by omega) (by omega)
    rw [show s + 1 + a.length + sumK (ks.drop (i + 1)) = s + (1 + a.length + sumK (ks.drop (i + 1))) by omega] at this
    exact this
theorem rSize_spec [ha : FT B kv str ks] [hb : FT B cv i64v cs] (hl : sizeN ⟨lf, ks, cs⟩ < 4611686018427387904) (hL : Le B H) : Ev (fun k _ => rn k 21 [NdA lf kv cv] H) (An B H fun _ v => v = i64 (sizeN ⟨lf, ks, cs⟩)) := by
  refine Ev.fn (fun k => f21_eq k _ H) ?_
  have hS := St.start hL
  have ha := ha.fl
  have hb := hb.fl
  have hsl := sumK_len ks
  unfold sizeN at *
  simp only at hl ⊢
  repeat (first | refine Ev.s ?_ | refine Ev.newC fun _ _ _ => ?_ | refine Ev.boxC fun _ _ _ => ?_ | refine Ev.stC fun _ _ => ?_ | refine Ev.sc (by omega) ?_ | refine Ev.scg (by omega) ?_)
  refine Ev.bind (Ev.loop (rsize_loop (ks := ks) (cs := cs) (by assumption) ha hb (by omega) ks.length 0 _ (by omega) (by rw [List.drop_zero]; omega))) ?_
  rintro _ rfl
  refine Ev.eq (fun k _ => f21_A0_x0 k _ _) ?_
  exact Ev.doneC (by rw [List.drop_zero])
def lastK (ks : List (List UInt8)) (i : Nat) : List UInt8 := if i = 0 then [] else ks.getD (i - 1) []
theorem plain_loop {b : Nat} (hS : St H0 B0 B [(b, ⟨[.bool lf, kv, cv], 33, .fix⟩)] H) (hk : FL B kv str ks) (hc : FL B cv i64v cs) (hlen : ks.length < 4611686018427387904) :
    ∀ (m i : Nat), i + m = ks.length → Ev (fun k n => f26_L0 k (ptr b 0) (i64 i) n H)
      (fun o => (incr (lastK ks i) (ks.drop i) = true ∧ o = (.exit 0, f26_X_L0 (ptr b 0) unk, H)) ∨ (incr (lastK ks i) (ks.drop i) = false ∧ o = (.ret, f26_X_L0 (ptr b 0) (.bool false), H))) := by
  intro m
  induction m with
  | zero =>
    intro i hi
    refine Ev.succ (fun k n => f26_L0_succ k _ _ n H) ?_
    repeat (first | refine Ev.s ?_ | refine Ev.newC fun _ _ _ => ?_ | refine Ev.boxC fun _ _ _ => ?_ | refine Ev.stC fun _ _ => ?_ | refine Ev.sc (by omega) ?_ | refine Ev.scg (by omega) ?_)
    rw [decide_eq_false (by omega), List.drop_of_length_le (by omega)]
    repeat (first | refine Ev.s ?_ | refine Ev.newC fun _ _ _ => ?_ | refine Ev.boxC fun _ _ _ => ?_ | refine Ev.stC fun _ _ => ?_ | refine Ev.sc (by omega) ?_ | refine Ev.scg (by omega) ?_)
    exact Ev.ret (Or.inl ⟨rfl, rfl⟩)
  | succ m ih =>
    intro i hi
    refine Ev.succ (fun k n => f26_L0_succ k _ _ n H) ?_
    obtain ⟨a, ha⟩ := get_ex (l := ks) (i := i) (by omega)
    have ih := ih (i + 1) (by omega)
    have el : lastK ks (i + 1) = a := by
      unfold lastK
      rw [if_neg (by omega), Nat.add_sub_cancel, List.getD_eq_getElem?_getD, ha]; rfl
    rw [el] at ih
    rw [drop_cons ha, incr]
    repeat (first | refine Ev.s ?_ | refine Ev.newC fun _ _ _ => ?_ | refine Ev.boxC fun _ _ _ => ?_ | refine Ev.stC fun _ _ => ?_ | refine Ev.sc (by omega) ?_ | refine Ev.scg (by omega) ?_)
    rw [decide_eq_true (show i < ks.length by omega)]
    repeat (first | refine Ev.s ?_ | refine Ev.newC fun _ _ _ => ?_ | refine Ev.boxC fun _ _ _ => ?_ | refine Ev.stC fun _ _ => ?_ | refine Ev.sc (by omega) ?_ | refine Ev.scg (by omega) ?_)
    refine Ev.ixF i rfl ha fun p hp => ?_
    repeat (first | refine Ev.s ?_ | refine Ev.newC fun _ _ _ => ?_ | refine Ev.boxC fun _ _ _ => ?_ | refine Ev.stC fun _ _ => ?_ | refine Ev.sc (by omega) ?_ | refine Ev.scg (by omega) ?_)
    by_cases h1 : a.length < 1
    · rw [decide_eq_true h1]
      repeat (first | refine Ev.s ?_ | refine Ev.newC fun _ _ _ => ?_ | refine Ev.boxC fun _ _ _ => ?_ | refine Ev.stC fun _ _ => ?_ | refine Ev.sc (by omega) ?_ | refine Ev.scg (by omega) ?_)
      have ea : a = [] := List.length_eq_zero_iff.mp (by omega)
      subst ea
      refine Ev.ret (Or.inr ⟨?_, rfl⟩)
      have : slt (lastK ks i) [] = false := by cases lastK ks i <;> rfl
      rw [this]; rfl
    · rw [decide_eq_false h1]
      repeat (first | refine Ev.s ?_ | refine Ev.newC fun _ _ _ => ?_ | refine Ev.boxC fun _ _ _ => ?_ | refine Ev.stC fun _ _ => ?_ | refine Ev.sc (by omega) ?_ | refine Ev.scg (by omega) ?_)
      by_cases h2 : a.length ≤ 16
      · rw [decide_eq_false (show ¬ 16 < a.length by omega), decide_eq_true h2, Bool.and_true]
        repeat (first | refine Ev.s ?_ | refine Ev.newC fun _ _ _ => ?_ | refine Ev.boxC fun _ _ _ => ?_ | refine Ev.stC fun _ _ => ?_ | refine Ev.sc (by omega) ?_ | refine Ev.scg (by omega) ?_)
        by_cases h0 : i = 0
        · subst h0
          rw [show decide (0 < (0 : Nat)) = false from rfl]
          repeat (first | refine Ev.s ?_ | refine Ev.newC fun _ _ _ => ?_ | refine Ev.boxC fun _ _ _ => ?_ | refine Ev.stC fun _ _ => ?_ | refine Ev.sc (by omega) ?_ | refine Ev.scg (by omega) ?_)
          have : slt (lastK ks 0) a = true := slt_nil (by omega)
          rw [this, Bool.true_and]
          exact ih
        · rw [decide_eq_true (show 0 < i by omega)]
          obtain ⟨a0, ha0⟩ := get_ex (l := ks) (i := i - 1) (by omega)
          have el0 : lastK ks i = a0 := by
            unfold lastK
            rw [if_neg h0, List.getD_eq_getElem?_getD, ha0]; rfl
          rw [el0]
          repeat (first | refine Ev.s ?_ | refine Ev.newC fun _ _ _ => ?_ | refine Ev.boxC fun _ _ _ => ?_ | refine Ev.stC fun _ _ => ?_ | refine Ev.sc (by omega) ?_ | refine Ev.scg (by omega) ?_)
          refine Ev.ixFg (i - 1) rfl ha0 fun q hq => ?_
          repeat (first | refine Ev.s ?_ | refine Ev.newC fun _ _ _ => ?_ | refine Ev.boxC fun _ _ _ => ?_ | refine Ev.stC fun _ _ => ?_ | refine Ev.sc (by omega) ?_ | refine Ev.scg (by omega) ?_)
          cases hs : slt a0 a with
          | true =>
            rw [Bool.not_true]
            repeat (first | refine Ev.s ?_ | refine Ev.newC fun _ _ _ => ?_ | refine Ev.boxC fun _ _ _ => ?_ | refine Ev.stC fun _ _ => ?_ | refine Ev.sc (by omega) ?_ | refine Ev.scg (by omega) ?_)
            rw [Bool.true_and]
            exact ih
          | false =>
            rw [Bool.not_false]
            repeat (first | refine Ev.s ?_ | refine Ev.newC fun _ _ _ => ?_ | refine Ev.boxC fun _ _ _ => ?_ | refine Ev.stC fun _ _ => ?_ | refine Ev.sc (by omega) ?_ | refine Ev.scg (by omega) ?_)
            exact Ev.ret (Or.inr ⟨rfl, rfl⟩)
      · rw [decide_eq_true (show 16 < a.length by omega), decide_eq_false h2]
        repeat (first | refine Ev.s ?_ | refine Ev.newC fun _ _ _ => ?_ | refine Ev.boxC fun _ _ _ => ?_ | refine Ev.stC fun _ _ => ?_ | refine Ev.sc (by omega) ?_ | refine Ev.scg (by omega) ?_)
        exact Ev.ret (Or.inr ⟨by simp, rfl⟩)
theorem plainC_loop {b : Nat} (hS : St H0 B0 B [(b, ⟨[.bool lf, kv, cv], 33, .fix⟩)] H) (hk : FL B kv str ks) (hc : FL B cv i64v cs) (hlen : cs.length < 4611686018427387904) :
    ∀ (m i : Nat), i + m = cs.length → Ev (fun k n => f26_L1 k (ptr b 0) (i64 i) n H)
      (fun o => ((cs.drop i).any bad = false ∧ o = (.exit 2, f26_X_L1 unk, H)) ∨ ((cs.drop i).any bad = true ∧ o = (.ret, f26_X_L1 (.bool false), H))) := by
  intro m
  induction m with
  | zero =>
    intro i hi
    refine Ev.succ (fun k n => f26_L1_succ k _ _ n H) ?_
    repeat (first | refine Ev.s ?_ | refine Ev.newC fun _ _ _ => ?_ | refine Ev.boxC fun _ _ _ => ?_ | refine Ev.stC fun _ _ => ?_ | refine Ev.sc (by omega) ?_ | refine Ev.scg (by omega) ?_)
    rw [decide_eq_false (by omega), List.drop_of_length_le (by omega)]
    repeat (first | refine Ev.s ?_ | refine Ev.newC fun _ _ _ => ?_ | refine Ev.boxC fun _ _ _ => ?_ | refine Ev.stC fun _ _ => ?_ | refine Ev.sc (by omega) ?_ | refine Ev.scg (by omega) ?_)
    exact Ev.ret (Or.inl ⟨rfl, rfl⟩)
  | succ m ih =>
    intro i hi
    refine Ev.succ (fun k n => f26_L1_succ k _ _ n H) ?_
    obtain ⟨a, ha⟩ := get_ex (l := cs) (i := i) (by omega)
    have ih := ih (i + 1) (by omega)
    rw [drop_cons ha, List.any_cons]
    repeat (first | refine Ev.s ?_ | refine Ev.newC fun _ _ _ => ?_ | refine Ev.boxC fun _ _ _ => ?_ | refine Ev.stC fun _ _ => ?_ | refine Ev.sc (by omega) ?_ | refine Ev.scg (by omega) ?_)
    rw [decide_eq_true (show i < cs.length by omega)]
    repeat (first | refine Ev.s ?_ | refine Ev.newC fun _ _ _ => ?_ | refine Ev.boxC fun _ _ _ => ?_ | refine Ev.stC fun _ _ => ?_ | refine Ev.sc (by omega) ?_ | refine Ev.scg (by omega) ?_)
    refine Ev.ixF i rfl ha fun p hp => ?_
    repeat (first | refine Ev.s ?_ | refine Ev.newC fun _ _ _ => ?_ | refine Ev.boxC fun _ _ _ => ?_ | refine Ev.stC fun _ _ => ?_ | refine Ev.sc (by omega) ?_ | refine Ev.scg (by omega) ?_)
    by_cases h1 : a < 2
    · have hb : bad a = true := by unfold bad; rw [decide_eq_true h1]; rfl
      rw [decide_eq_true h1, hb]
      repeat (first | refine Ev.s ?_ | refine Ev.newC fun _ _ _ => ?_ | refine Ev.boxC fun _ _ _ => ?_ | refine Ev.stC fun _ _ => ?_ | refine Ev.sc (by omega) ?_ | refine Ev.scg (by omega) ?_)
      exact Ev.ret (Or.inr ⟨rfl, rfl⟩)
    · rw [decide_eq_false h1]
      repeat (first | refine Ev.s ?_ | refine Ev.newC fun _ _ _ => ?_ | refine Ev.boxC fun _ _ _ => ?_ | refine Ev.stC fun _ _ => ?_ | refine Ev.sc (by omega) ?_ | refine Ev.scg (by omega) ?_)
      refine Ev.ixFg i rfl ha fun q hq => ?_
      repeat (first | refine Ev.s ?_ | refine Ev.newC fun _ _ _ => ?_ | refine Ev.boxC fun _ _ _ => ?_ | refine Ev.stC fun _ _ => ?_ | refine Ev.sc (by omega) ?_ | refine Ev.scg (by omega) ?_)
      by_cases h2 : 511 < a
      · have hb : bad a = true := by unfold bad; rw [decide_eq_true h2, Bool.or_true]
        rw [decide_eq_true h2, hb]
        repeat (first | refine Ev.s ?_ | refine Ev.newC fun _ _ _ => ?_ | refine Ev.boxC fun _ _ _ => ?_ | refine Ev.stC fun _ _ => ?_ | refine Ev.sc (by omega) ?_ | refine Ev.scg (by omega) ?_)
        exact Ev.ret (Or.inr ⟨rfl, rfl⟩)
      · have hb : bad a = false := by unfold bad; rw [decide_eq_false h1, decide_eq_false h2]; rfl
        rw [decide_eq_false h2, hb, Bool.false_or]
        repeat (first | refine Ev.s ?_ | refine Ev.newC fun _ _ _ => ?_ | refine Ev.boxC fun _ _ _ => ?_ | refine Ev.stC fun _ _ => ?_ | refine Ev.sc (by omega) ?_ | refine Ev.scg (by omega) ?_)
        exact ih
theorem plain_end {b : Nat} (hS : St H0 B0 B [(b, ⟨[.bool lf, kv, cv], 33, .fix⟩)] H) (hk : FL B kv str ks) (hc : FL B cv i64v cs) (hlk : ks.length < 4611686018427387904) (hlc : cs.length < 4611686018427387904) :
    Ev (fun k _ => (f26_L0 k (ptr b 0) (.int .i64 0) k H).bind fun p => f26_A0 k p.1 p.2.1 p.2.2) (An B0 H0 fun _ v => v = .bool (incr [] ks && !cs.any bad)) := by
  refine Ev.bind (Ev.loop (plain_loop (ks := ks) (cs := cs) hS hk hc hlk ks.length 0 (by omega))) ?_
  rw [List.drop_zero, show lastK ks 0 = [] from rfl]
  rintro _ (⟨h1, rfl⟩ | ⟨h1, rfl⟩)
  · refine Ev.eq (fun k _ => f26_A0_x0 k _ _ _) ?_
    refine Ev.bind (Ev.loop (plainC_loop (ks := ks) (cs := cs) hS hk hc hlc cs.length 0 (by omega))) ?_
    rw [List.drop_zero]
    rintro _ (⟨h2, rfl⟩ | ⟨h2, rfl⟩)
    · refine Ev.eq (fun k _ => f26_A1_x2 k _ _) ?_
      exact Ev.ret (hS.an (by rw [h1, h2]; rfl))
    · refine Ev.eq (fun k _ => f26_A1_ret k _ _) ?_
      exact Ev.ret (hS.an (by rw [h1, h2]; rfl))
  · refine Ev.eq (fun k _ => f26_A0_ret k _ _ _) ?_
    exact Ev.ret (hS.an (by rw [h1]; rfl))
theorem Plain_spec [ha : FT B kv str ks] [hb : FT B cv i64v cs] (hlk : ks.length < 4611686018427387904) (hlc : cs.length < 4611686018427387904) (hL : Le B H) : Ev (fun k _ => rn k 26 [NdA lf kv cv] H) (An B H fun _ v => v = .bool (plainN ⟨lf, ks, cs⟩)) := by
  refine Ev.fn (fun k => f26_eq k _ H) ?_
  have hS := St.start hL
  have ha := ha.fl
  have hb := hb.fl
  unfold plainN
  simp only
  refine Ev.boxC fun b H1 hS1 => ?_
  have hend := plain_end (lf := lf) (ks := ks) (cs := cs) hS1 ha hb hlk hlc
  clear hS
  cases hlf : lf <;> subst hlf
  · repeat (first | refine Ev.s ?_ | refine Ev.newC fun _ _ _ => ?_ | refine Ev.boxC fun _ _ _ => ?_ | refine Ev.stC fun _ _ => ?_ | refine Ev.sc (by omega) ?_ | refine Ev.scg (by omega) ?_)
    try rw [Bool.not_false]
    repeat (first | refine Ev.s ?_ | refine Ev.newC fun _ _ _ => ?_ | refine Ev.boxC fun _ _ _ => ?_ | refine Ev.stC fun _ _ => ?_ | refine Ev.sc (by omega) ?_ | refine Ev.scg (by omega) ?_)
    by_cases h : cs.length = ks.length + 1
    · rw [decide_eq_false (fun hh => hh h), if_neg (by simp), decide_eq_true h]
      repeat (first | refine Ev.s ?_ | refine Ev.newC fun _ _ _ => ?_ | refine Ev.boxC fun _ _ _ => ?_ | refine Ev.stC fun _ _ => ?_ | refine Ev.sc (by omega) ?_ | refine Ev.scg (by omega) ?_)
      rw [Bool.true_and]
      exact hend
    · rw [decide_eq_true (show cs.length ≠ ks.length + 1 from h), if_neg (by simp), decide_eq_false h]
      repeat (first | refine Ev.s ?_ | refine Ev.newC fun _ _ _ => ?_ | refine Ev.boxC fun _ _ _ => ?_ | refine Ev.stC fun _ _ => ?_ | refine Ev.sc (by omega) ?_ | refine Ev.scg (by omega) ?_)
      exact Ev.doneC rfl
  · repeat (first | refine Ev.s ?_ | refine Ev.newC fun _ _ _ => ?_ | refine Ev.boxC fun _ _ _ => ?_ | refine Ev.stC fun _ _ => ?_ | refine Ev.sc (by omega) ?_ | refine Ev.scg (by omega) ?_)
    by_cases h : cs.length = ks.length
    · rw [decide_eq_false (fun hh => hh h), if_pos rfl, Nat.add_zero, decide_eq_true h]
      repeat (first | refine Ev.s ?_ | refine Ev.newC fun _ _ _ => ?_ | refine Ev.boxC fun _ _ _ => ?_ | refine Ev.stC fun _ _ => ?_ | refine Ev.sc (by omega) ?_ | refine Ev.scg (by omega) ?_)
      try rw [Bool.not_true]
      repeat (first | refine Ev.s ?_ | refine Ev.newC fun _ _ _ => ?_ | refine Ev.boxC fun _ _ _ => ?_ | refine Ev.stC fun _ _ => ?_ | refine Ev.sc (by omega) ?_ | refine Ev.scg (by omega) ?_)
      rw [Bool.true_and]
      exact hend
    · rw [decide_eq_true (show cs.length ≠ ks.length from h), if_pos rfl, Nat.add_zero, decide_eq_false h]
      repeat (first | refine Ev.s ?_ | refine Ev.newC fun _ _ _ => ?_ | refine Ev.boxC fun _ _ _ => ?_ | refine Ev.stC fun _ _ => ?_ | refine Ev.sc (by omega) ?_ | refine Ev.scg (by omega) ?_)
      exact Ev.doneC rfl
end
end Go.AM.N
set_option linter.unusedVariables false
set_option linter.unusedSimpArgs false
set_option maxRecDepth 100000
namespace Go.AM.N
open Go Go.AM Go.Proofs
attribute [local irreducible] run bin un ld st box newV mkS fldA fld ixA ix slc slc3 build buildS cv cvS ap cpy lenV gOp pickV b2 aIf aChk evalK resume iterD Option.bind

section
variable {B B0 H0 H : AH} {kv cv : Value} {ks : List (List UInt8)} {cs : List Int} {lf : Bool}
end
end Go.AM.N
set_option linter.unusedVariables false
set_option linter.unusedSimpArgs false
namespace Go.AM
variable {P : Program} {R α : Type} {f : α → Value} {t e : TypeId} {z : Value} {sz : Nat}
variable {B B0 H0 H : AH} {v w : Value} {ks l : List α} {X La Lb : List (Nat × Blk)} {g : Nat → Nat → Value → AH → Option R} {Q : R → Prop}
theorem permA (X La Lb : List (Nat × Blk)) : (La ++ (X ++ Lb)).Perm (X ++ (La ++ Lb)) := by
  rw [← List.append_assoc, ← List.append_assoc]
  exact List.Perm.append_right _ List.perm_append_comm
theorem permB (X La Lb : List (Nat × Blk)) : (Lb ++ (X ++ La)).Perm (X ++ (La ++ Lb)) := by
  rw [← List.append_assoc X La Lb]
  exact List.perm_append_comm
theorem Ev.apX [hE : Elt P t e z sz] (hu : P.underlying t = some (.slice e)) (hc : ∀ a : α, isCell (f a) = true) (hk : GR e v (ks.map f) La) (hw : FL B w f l) (hS : St H0 B0 B (La ++ X) H) (hl : (ks.length + l.length) * sz ≤ 140737488355328 ∧ ks.length + l.length ≤ 9223372036854775807)
    (h : ∀ v' La' B' H', MoC B B' → GR e v' ((ks ++ l).map f) La' → St H0 B0 B' (La' ++ X) H' → Ev (fun k n => g k n v' H') Q) : Ev (fun k n => Go.AM.b2 (Go.AM.ap P t t H v w) (g k n)) Q := by
  have hG := hk.acc hS
  refine hG.more (P := P) (t := t) (u := t) hu ((hw.sc).mono (show Mo B H from hS.le)) (by rw [List.all_map]; exact List.all_eq_true.mpr fun a _ => hc a) (by rw [List.length_map]; exact hl) fun v' B' H' hm hA => ?_
  rw [← List.map_append] at hA
  obtain ⟨La', h1, h2⟩ := hA.gr
  exact h v' La' B' H' hm h1 h2
theorem Ev.pushX [hE : Elt P t e z sz] {x : α} (hx : (f x).cells.toList = [f x]) (hc : isCell (f x) = true) (hk : GR e v (ks.map f) La) (hS : St H0 B0 B (La ++ X) H) (hl : (ks.length + 1) * sz ≤ 140737488355328 ∧ ks.length + 1 ≤ 9223372036854775807)
    (h : ∀ v' La' B' H', MoC B B' → GR e v' ((ks ++ [x]).map f) La' → St H0 B0 B' (La' ++ X) H' → Ev (fun k n => g k n v' H') Q) : Ev (fun k n => Go.AM.b2 (Go.AM.buildS P t H 1 [(0, f x)]) fun w h => Go.AM.b2 (Go.AM.ap P t t h v w) (g k n)) Q := by
  have hG := hk.acc hS
  refine hG.push (P := P) (t := t) (x := f x) (ds := [f x]) hx rfl (okCells_of hc) (by simp [hc]) (by decide) (by rw [List.length_map]; exact hl) fun v' B' H' hm hA => ?_
  rw [show ks.map f ++ [f x] = (ks ++ [x]).map f by rw [List.map_append]; rfl] at hA
  obtain ⟨La', h1, h2⟩ := hA.gr
  exact h v' La' B' H' hm h1 h2
end Go.AM
set_option linter.unusedVariables false
set_option linter.unusedSimpArgs false
set_option maxRecDepth 100000
namespace Go.AM.N
open Go Go.AM Go.Proofs
attribute [local irreducible] run bin un ld st box newV mkS fldA fld ixA ix slc slc3 build buildS cv cvS ap cpy lenV gOp pickV b2 aIf aChk evalK resume iterD Option.bind

section
variable {B B0 H0 H : AH} {kv cv : Value} {ks : List (List UInt8)} {cs : List Int} {lf : Bool}
abbrev TN : TypeId := 33
end
end Go.AM.N
set_option linter.unusedVariables false
set_option linter.unusedSimpArgs false
set_option maxRecDepth 100000
namespace Go.AM.N
open Go Go.AM Go.Proofs
attribute [local irreducible] run bin un ld st box newV mkS fldA fld ixA ix slc slc3 build buildS cv cvS ap cpy lenV gOp pickV b2 aIf aChk evalK resume iterD Option.bind

section
variable {B B0 H0 H : AH} {kv cv : Value} {ks : List (List UInt8)} {cs : List Int} {lf : Bool}
end
end Go.AM.N
set_option linter.unusedVariables false
set_option linter.unusedSimpArgs false
namespace Go.AM
variable {P : Program} {R α : Type} {f : α → Value} {t e : TypeId} {z : Value} {sz : Nat}
variable {B B0 H0 H : AH} {L : List (Nat × Blk)} {v w : Value} {ks l : List α} {g : Nat → Nat → Value → AH → Option R} {Q : R → Prop}
def CA (e : TypeId) (H0 B0 B : AH) (L : List (Nat × Blk)) (H : AH) (v : Value) (cs : List Value) : Prop :=
  (cs = [] ∧ v = .slice none 0 0 ∧ St H0 B0 B L H) ∨ (cs = [] ∧ ∃ b k zs, v = sl b 0 0 (k + 1) ∧ St H0 B0 B ((b, ⟨zs, e, .grow⟩) :: L) H) ∨ (cs ≠ [] ∧ GAcc e 1 H0 B0 B L H v cs.length cs)
theorem CA.st {cs : List Value} (h : CA e H0 B0 B L H v cs) : St H0 B0 B L H := by
  rcases h with ⟨_, _, hS⟩ | ⟨_, b, k, zs, _, hS⟩ | ⟨_, hG⟩
  · exact hS
  · exact hS.drop1
  · exact hG.st
theorem CA.cell {cs : List Value} (h : CA e H0 B0 B L H v cs) : IsCell v := by
  rcases h with ⟨_, rfl, hS⟩ | ⟨_, b, k, zs, rfl, hS⟩ | ⟨_, hG⟩
  · exact inferInstance
  · exact inferInstance
  · exact hG.cell
theorem Ev.apCA [hE : Elt P t e z sz] (hc : ∀ a : α, isCell (f a) = true) (hk : CA e H0 B0 B L H v (ks.map f)) (hw : FL B w f l) (hl : (ks.length + l.length) * sz ≤ 140737488355328 ∧ ks.length + l.length ≤ 9223372036854775807)
    (h : ∀ v' B' H', MoC B B' → CA e H0 B0 B' L H' v' ((ks ++ l).map f) → Ev (fun k n => g k n v' H') Q) : Ev (fun k n => Go.AM.b2 (Go.AM.ap P t t H v w) (g k n)) Q := by
  have hx : ScN H w l.length 1 (l.map f) := (hw.sc).mono (show Mo B H from hk.st.le)
  have hall : (l.map f).all isCell = true := by rw [List.all_map]; exact List.all_eq_true.mpr fun a _ => hc a
  have hap : Go.AM.ap P t t H v w = apS 1 sz e H v l.length (l.map f) := ap_eqS (P := P) (t := t) (z := [z]) hE.U hx hall
  rcases hk with ⟨h0, rfl, hS⟩ | ⟨h0, b, k, zs, rfl, hS⟩ | ⟨h0, hG⟩
  · have hks : ks = [] := by simpa using h0
    subst hks
    by_cases hl0 : l = []
    · subst hl0
      refine Ev.prim2 (by rw [hap]; rfl) (h _ B H ⟨Mo.refl B⟩ (.inl ⟨rfl, rfl, hS⟩))
    · refine GAcc.more (P := P) (t := t) (u := t) hE.U (GAcc.nil hS) hx hall (by simpa using hl) fun v' B' H' hm hA => ?_
      refine h v' B' H' hm (.inr (.inr ⟨by simpa using hl0, ?_⟩))
      have : (([] ++ l).map f).length = 0 + l.length := by simp
      rw [this]
      exact hA
  · have hks : ks = [] := by simpa using h0
    subst hks
    by_cases hl0 : l = []
    · subst hl0
      refine Ev.prim2 (by rw [hap]; rfl) (h _ B H ⟨Mo.refl B⟩ (.inr (.inl ⟨rfl, b, k, zs, rfl, hS⟩)))
    · have hn : l.length ≠ 0 := fun h => hl0 (List.length_eq_zero_iff.mp h)
      have hb := hS.get (.head _)
      obtain ⟨B', hm1, hS'⟩ := hS.kill.mkB (l.map f) e .grow
      rw [length_kill] at hS'
      refine Ev.prim2 ?_ (h (sl H.length 0 l.length (l.length + 1)) B' _ ⟨hm1⟩ (.inr (.inr ⟨by simpa using hl0, .inr ⟨by simpa using hl0, by simp, H.length, .grow, l.length + 1, by simp, .inl ⟨rfl, by omega, by simp⟩, by simpa using hS'⟩⟩)))
      rw [hap]
      simp only [List.length_nil, Nat.zero_add] at hl
      simp only [apS, sl, if_neg hn, hb, Option.bind_some, rdN, Nat.zero_mul, Nat.zero_add, Nat.zero_le, if_true, List.drop_zero, List.take_zero, List.nil_append, hl, and_self]
      rw [if_neg (by omega)]
  · refine GAcc.more (P := P) (t := t) (u := t) hE.U hG hx hall (by rw [List.length_map]; exact hl) fun v' B' H' hm hA => ?_
    refine h v' B' H' hm (.inr (.inr ⟨by intro hh; rw [List.map_append] at hh; exact h0 (List.append_eq_nil_iff.mp hh).1, ?_⟩))
    have : ((ks ++ l).map f).length = (ks.map f).length + l.length := by simp
    rw [this, List.map_append]
    exact hA
theorem CA.fl (h : CA e H0 B0 B L H v (ks.map f)) : ∃ B', MoC B B' ∧ FL B' v f ks ∧ St H0 B0 B' L H := by
  rcases h with ⟨h0, rfl, hS⟩ | ⟨h0, b, k, zs, rfl, hS⟩ | ⟨h0, hG⟩
  · have hks : ks = [] := by simpa using h0
    subst hks
    exact ⟨B, ⟨Mo.refl B⟩, FL.nil, hS⟩
  · have hks : ks = [] := by simpa using h0
    subst hks
    exact ⟨B, ⟨Mo.refl B⟩, ⟨.inr ⟨b, 0, k + 1, rfl, Nat.zero_le _, rfl, .inl rfl⟩⟩, hS.drop1⟩
  · exact hG.fl
theorem ap_zeros [hE : Elt P t e z sz] {u : TypeId} {kn : IntKind} {n : Nat} (hu : P.underlying u = some (.int kn)) (hn : n ≠ 0) (hl : n * sz ≤ 140737488355328 ∧ n ≤ 9223372036854775807) :
    Go.AM.ap P t u H (.slice none 0 0) (i64 n) = some (sl H.length 0 n (n + 1), mkB H (List.replicate n z) e .grow) := by
  unfold ap
  rw [hE.U, hu]
  simp only [hE.Z, hE.Y, hE.S, hE.zn, Option.bind_some, rep_one]
  rw [if_pos ⟨trivial, size_cells hE.zn, by omega, by omega, by
    have := hl.1
    rw [← Int.natCast_mul]
    omega⟩]
  simp
theorem slc_empty [hE : Elt P t e z sz] {b n c : Nat} {k : IntKind} : slc P t (sl b 0 n (c + 1)) none (some (.int k 0)) = some (sl b 0 0 (c + 1)) := by
  unfold slc sl
  rw [hE.U]; simp only [intOr, Option.bind_some]
  rw [if_pos ⟨hE.I, by omega, by omega, by omega⟩]
  simp
theorem slc_nil0 [hE : Elt P t e z sz] {k : IntKind} : slc P t (.slice none 0 0) none (some (.int k 0)) = some (.slice none 0 0) := by
  unfold slc
  rw [hE.U]; simp only [intOr, Option.bind_some]
  rw [if_pos ⟨hE.I, by simp, by simp⟩]
theorem capV_nil [hE : Elt P t e z sz] : capV P t (.slice none 0 0) = some (.int .i64 0) := by unfold capV; rw [hE.U]; rfl
end Go.AM
set_option linter.unusedVariables false
set_option linter.unusedSimpArgs false
set_option maxRecDepth 100000
namespace Go.AM.N
open Go Go.AM Go.Proofs
attribute [local irreducible] run bin un ld st box newV mkS fldA fld ixA ix slc slc3 build buildS cv cvS ap cpy lenV gOp pickV b2 aIf aChk evalK resume iterD Option.bind

section
variable {B B0 H0 H : AH}
theorem GrowS {n : Nat} {L : List (Nat × Blk)} (hn : n < 100000000) (hS : St H0 B0 B L H) :
    Ev (fun k _ => rn k 52 [.slice none 0 0, i64 n] H) (fun r => ∃ B', MoC B B' ∧ CA 9 H0 B0 B' L r.2 r.1 []) := by
  refine Ev.fn (fun k => f52_eq k _ _ H) ?_
  repeat (first | refine Ev.s ?_ | refine Ev.newC fun _ _ _ => ?_ | refine Ev.boxC fun _ _ _ => ?_ | refine Ev.stC fun _ _ => ?_ | refine Ev.sc (by omega) ?_ | refine Ev.scg (by omega) ?_)
  rw [decide_eq_false (show ¬ n < 0 by omega)]
  repeat (first | refine Ev.s ?_ | refine Ev.newC fun _ _ _ => ?_ | refine Ev.boxC fun _ _ _ => ?_ | refine Ev.stC fun _ _ => ?_ | refine Ev.sc (by omega) ?_ | refine Ev.scg (by omega) ?_)
  refine Ev.eq (fun k _ => f52_J0_eq k _ _ _) ?_
  refine Ev.prim capV_nil ?_
  repeat (first | refine Ev.s ?_ | refine Ev.newC fun _ _ _ => ?_ | refine Ev.boxC fun _ _ _ => ?_ | refine Ev.stC fun _ _ => ?_ | refine Ev.sc (by omega) ?_ | refine Ev.scg (by omega) ?_)
  rw [show (n : Int) - (0 - 0) = (n : Int) by omega]
  repeat (first | refine Ev.s ?_ | refine Ev.newC fun _ _ _ => ?_ | refine Ev.boxC fun _ _ _ => ?_ | refine Ev.stC fun _ _ => ?_ | refine Ev.sc (by omega) ?_ | refine Ev.scg (by omega) ?_)
  by_cases h0 : n = 0
  · subst h0
    rw [show decide ((0 : Int) < ((0 : Nat) : Int)) = false from rfl]
    repeat (first | refine Ev.s ?_ | refine Ev.newC fun _ _ _ => ?_ | refine Ev.boxC fun _ _ _ => ?_ | refine Ev.stC fun _ _ => ?_ | refine Ev.sc (by omega) ?_ | refine Ev.scg (by omega) ?_)
    refine Ev.eq (fun k _ => f52_J1_eq k _ _) ?_
    exact Ev.ret ⟨B, ⟨Mo.refl B⟩, .inl ⟨rfl, rfl, hS⟩⟩
  · rw [decide_eq_true (show (0 : Int) < (n : Int) by omega)]
    repeat (first | refine Ev.s ?_ | refine Ev.newC fun _ _ _ => ?_ | refine Ev.boxC fun _ _ _ => ?_ | refine Ev.stC fun _ _ => ?_ | refine Ev.sc (by omega) ?_ | refine Ev.scg (by omega) ?_)
    refine Ev.prim capV_nil ?_
    refine Ev.prim slc_nil0 ?_
    obtain ⟨B', hm1, hS'⟩ := hS.mkB (List.replicate n (.string ByteArray.empty)) 9 .grow
    refine Ev.prim2 (ap_zeros Try.underlying3 h0 (by omega)) ?_
    repeat (first | refine Ev.s ?_ | refine Ev.newC fun _ _ _ => ?_ | refine Ev.boxC fun _ _ _ => ?_ | refine Ev.stC fun _ _ => ?_ | refine Ev.sc (by omega) ?_ | refine Ev.scg (by omega) ?_)
    refine Ev.prim slc_empty ?_
    refine Ev.eq (fun k _ => f52_J1_eq k _ _) ?_
    exact Ev.ret ⟨B', ⟨hm1⟩, .inr (.inl ⟨rfl, _, _, _, rfl, hS'⟩)⟩
theorem ConcatS {av k1 k2 : Value} {l1 l2 : List (List UInt8)} [ha : FT B av (fun v : Value => v) [k1, k2]] [h1 : FT B k1 str l1] [h2 : FT B k2 str l2] (hl1 : l1.length < 10000000) (hl2 : l2.length < 10000000) (hL : Le B H) :
    Ev (fun k _ => rn k 48 [av] H) (An B H fun B' v => FL B' v str (l1 ++ l2)) := by
  refine Ev.fn (fun k => f48_eq k _ H) ?_
  have hS := St.start hL
  have ha := ha.fl
  have h1 := h1.fl
  have h2 := h2.fl
  haveI i1 := h1.sc.cell
  haveI i2 := h2.sc.cell
  refine Ev.prim (a := i64 2) (show lenV Try.prog 92 av = some (i64 2) from (fl_len (P := Try.prog) (t := 92) (v := av) (l := [k1, k2])).eq) ?_
  have loop1 : Ev (fun k n => f48_L0 k av (i64 0) av (i64 2) (i64 0) n H) (fun o => o = (.exit 0, f48_X_L0 av (i64 (0 + l1.length + l2.length)), H)) := by
    refine Ev.succ (fun k n => f48_L0_succ k _ _ _ _ _ n H) ?_
    repeat (first | refine Ev.s ?_ | refine Ev.newC fun _ _ _ => ?_ | refine Ev.boxC fun _ _ _ => ?_ | refine Ev.stC fun _ _ => ?_ | refine Ev.sc (by omega) ?_ | refine Ev.scg (by omega) ?_)
    rw [show decide ((0 : Nat) < 2) = true from rfl]
    repeat (first | refine Ev.s ?_ | refine Ev.newC fun _ _ _ => ?_ | refine Ev.boxC fun _ _ _ => ?_ | refine Ev.stC fun _ _ => ?_ | refine Ev.sc (by omega) ?_ | refine Ev.scg (by omega) ?_)
    refine Ev.ixF (h := ha) 0 rfl (a := k1) rfl fun p hp => ?_
    repeat (first | refine Ev.s ?_ | refine Ev.newC fun _ _ _ => ?_ | refine Ev.boxC fun _ _ _ => ?_ | refine Ev.stC fun _ _ => ?_ | refine Ev.sc (by omega) ?_ | refine Ev.scg (by omega) ?_)
    rw [decide_eq_false (show ¬ 0 + l1.length < 0 by omega)]
    repeat (first | refine Ev.s ?_ | refine Ev.newC fun _ _ _ => ?_ | refine Ev.boxC fun _ _ _ => ?_ | refine Ev.stC fun _ _ => ?_ | refine Ev.sc (by omega) ?_ | refine Ev.scg (by omega) ?_)
    refine Ev.succ (fun k n => f48_L0_succ k _ _ _ _ _ n H) ?_
    repeat (first | refine Ev.s ?_ | refine Ev.newC fun _ _ _ => ?_ | refine Ev.boxC fun _ _ _ => ?_ | refine Ev.stC fun _ _ => ?_ | refine Ev.sc (by omega) ?_ | refine Ev.scg (by omega) ?_)
    rw [show decide ((0 + 1 : Nat) < 2) = true from rfl]
    repeat (first | refine Ev.s ?_ | refine Ev.newC fun _ _ _ => ?_ | refine Ev.boxC fun _ _ _ => ?_ | refine Ev.stC fun _ _ => ?_ | refine Ev.sc (by omega) ?_ | refine Ev.scg (by omega) ?_)
    refine Ev.ixF (h := ha) 1 rfl (a := k2) rfl fun p hp => ?_
    repeat (first | refine Ev.s ?_ | refine Ev.newC fun _ _ _ => ?_ | refine Ev.boxC fun _ _ _ => ?_ | refine Ev.stC fun _ _ => ?_ | refine Ev.sc (by omega) ?_ | refine Ev.scg (by omega) ?_)
    rw [decide_eq_false (show ¬ 0 + l1.length + l2.length < 0 by omega)]
    repeat (first | refine Ev.s ?_ | refine Ev.newC fun _ _ _ => ?_ | refine Ev.boxC fun _ _ _ => ?_ | refine Ev.stC fun _ _ => ?_ | refine Ev.sc (by omega) ?_ | refine Ev.scg (by omega) ?_)
    refine Ev.succ (fun k n => f48_L0_succ k _ _ _ _ _ n H) ?_
    repeat (first | refine Ev.s ?_ | refine Ev.newC fun _ _ _ => ?_ | refine Ev.boxC fun _ _ _ => ?_ | refine Ev.stC fun _ _ => ?_ | refine Ev.sc (by omega) ?_ | refine Ev.scg (by omega) ?_)
    rw [show decide ((0 + 1 + 1 : Nat) < 2) = false from rfl]
    repeat (first | refine Ev.s ?_ | refine Ev.newC fun _ _ _ => ?_ | refine Ev.boxC fun _ _ _ => ?_ | refine Ev.stC fun _ _ => ?_ | refine Ev.sc (by omega) ?_ | refine Ev.scg (by omega) ?_)
    exact Ev.ret rfl
  refine Ev.bind (Ev.loop loop1) ?_
  rintro _ rfl
  refine Ev.eq (fun k _ => f48_A0_x0 k _ _ _) ?_
  refine Ev.b2 (GrowS (n := 0 + l1.length + l2.length) (by omega) hS) fun v1 H1 h3 => ?_
  obtain ⟨B1, hm1, hA1⟩ := h3
  simp only at hA1
  have ha1 := ha.mono hm1.mo
  have h11 := h1.mono hm1.mo
  have h21 := h2.mono hm1.mo
  haveI := hA1.cell
  refine Ev.prim (a := i64 2) (show lenV Try.prog 92 av = some (i64 2) from (fl_len (P := Try.prog) (t := 92) (v := av) (h := ha) (l := [k1, k2])).eq) ?_
  have loop2 : Ev (fun k n => f48_L1 k v1 av (i64 2) (i64 0) n H1) (fun o => ∃ B' H' v', o = (.exit 2, f48_X_L1 v', H') ∧ Mo B1 B' ∧ CA 9 H B B' [] H' v' ((([] ++ l1) ++ l2).map str)) := by
    refine Ev.succ (fun k n => f48_L1_succ k _ _ _ _ n H1) ?_
    clear hS
    have hSt := hA1.st
    repeat (first | refine Ev.s ?_ | refine Ev.newC fun _ _ _ => ?_ | refine Ev.boxC fun _ _ _ => ?_ | refine Ev.stC fun _ _ => ?_ | refine Ev.sc (by omega) ?_ | refine Ev.scg (by omega) ?_)
    rw [show decide ((0 : Nat) < 2) = true from rfl]
    repeat (first | refine Ev.s ?_ | refine Ev.newC fun _ _ _ => ?_ | refine Ev.boxC fun _ _ _ => ?_ | refine Ev.stC fun _ _ => ?_ | refine Ev.sc (by omega) ?_ | refine Ev.scg (by omega) ?_)
    refine Ev.ixF (h := ha1) 0 rfl (a := k1) rfl fun p hp => ?_
    repeat (first | refine Ev.s ?_ | refine Ev.newC fun _ _ _ => ?_ | refine Ev.boxC fun _ _ _ => ?_ | refine Ev.stC fun _ _ => ?_ | refine Ev.sc (by omega) ?_ | refine Ev.scg (by omega) ?_)
    refine Ev.apCA (f := str) (ks := []) (l := l1) (fun _ => rfl) hA1 h11 (by simp only [List.length_nil]; omega) fun v2 B2 H2 hm2 hA2 => ?_
    have ha2 := ha1.mono hm2.mo
    have h22 := h21.mono hm2.mo
    haveI := hA2.cell
    clear hSt
    have hSt := hA2.st
    repeat (first | refine Ev.s ?_ | refine Ev.newC fun _ _ _ => ?_ | refine Ev.boxC fun _ _ _ => ?_ | refine Ev.stC fun _ _ => ?_ | refine Ev.sc (by omega) ?_ | refine Ev.scg (by omega) ?_)
    refine Ev.succ (fun k n => f48_L1_succ k _ _ _ _ n H2) ?_
    repeat (first | refine Ev.s ?_ | refine Ev.newC fun _ _ _ => ?_ | refine Ev.boxC fun _ _ _ => ?_ | refine Ev.stC fun _ _ => ?_ | refine Ev.sc (by omega) ?_ | refine Ev.scg (by omega) ?_)
    rw [show decide ((0 + 1 : Nat) < 2) = true from rfl]
    repeat (first | refine Ev.s ?_ | refine Ev.newC fun _ _ _ => ?_ | refine Ev.boxC fun _ _ _ => ?_ | refine Ev.stC fun _ _ => ?_ | refine Ev.sc (by omega) ?_ | refine Ev.scg (by omega) ?_)
    refine Ev.ixF (h := ha2) 1 rfl (a := k2) rfl fun p hp => ?_
    repeat (first | refine Ev.s ?_ | refine Ev.newC fun _ _ _ => ?_ | refine Ev.boxC fun _ _ _ => ?_ | refine Ev.stC fun _ _ => ?_ | refine Ev.sc (by omega) ?_ | refine Ev.scg (by omega) ?_)
    refine Ev.apCA (f := str) (ks := [] ++ l1) (l := l2) (fun _ => rfl) hA2 h22 (by simp only [List.length_append, List.length_nil]; omega) fun v3 B3 H3 hm3 hA3 => ?_
    haveI := hA3.cell
    clear hSt
    have hSt := hA3.st
    repeat (first | refine Ev.s ?_ | refine Ev.newC fun _ _ _ => ?_ | refine Ev.boxC fun _ _ _ => ?_ | refine Ev.stC fun _ _ => ?_ | refine Ev.sc (by omega) ?_ | refine Ev.scg (by omega) ?_)
    refine Ev.succ (fun k n => f48_L1_succ k _ _ _ _ n H3) ?_
    repeat (first | refine Ev.s ?_ | refine Ev.newC fun _ _ _ => ?_ | refine Ev.boxC fun _ _ _ => ?_ | refine Ev.stC fun _ _ => ?_ | refine Ev.sc (by omega) ?_ | refine Ev.scg (by omega) ?_)
    rw [show decide ((0 + 1 + 1 : Nat) < 2) = false from rfl]
    repeat (first | refine Ev.s ?_ | refine Ev.newC fun _ _ _ => ?_ | refine Ev.boxC fun _ _ _ => ?_ | refine Ev.stC fun _ _ => ?_ | refine Ev.sc (by omega) ?_ | refine Ev.scg (by omega) ?_)
    exact Ev.ret ⟨B3, H3, v3, rfl, hm2.mo.trans hm3.mo, hA3⟩
  refine Ev.bind (Ev.loop loop2) ?_
  rintro _ ⟨B4, H4, v4, rfl, hm4, hA4⟩
  refine Ev.eq (fun k _ => f48_A1_x2 k _ _) ?_
  obtain ⟨B5, hm5, h5, hS5⟩ := hA4.fl
  rw [List.nil_append] at h5
  exact Ev.ret (hS5.an h5)
theorem GrowC {n : Nat} {L : List (Nat × Blk)} (hn : n < 100000000) (hS : St H0 B0 B L H) :
    Ev (fun k _ => rn k 53 [.slice none 0 0, i64 n] H) (fun r => ∃ B', MoC B B' ∧ CA 3 H0 B0 B' L r.2 r.1 []) := by
  refine Ev.fn (fun k => f53_eq k _ _ H) ?_
  repeat (first | refine Ev.s ?_ | refine Ev.newC fun _ _ _ => ?_ | refine Ev.boxC fun _ _ _ => ?_ | refine Ev.stC fun _ _ => ?_ | refine Ev.sc (by omega) ?_ | refine Ev.scg (by omega) ?_)
  rw [decide_eq_false (show ¬ n < 0 by omega)]
  repeat (first | refine Ev.s ?_ | refine Ev.newC fun _ _ _ => ?_ | refine Ev.boxC fun _ _ _ => ?_ | refine Ev.stC fun _ _ => ?_ | refine Ev.sc (by omega) ?_ | refine Ev.scg (by omega) ?_)
  refine Ev.eq (fun k _ => f53_J0_eq k _ _ _) ?_
  refine Ev.prim capV_nil ?_
  repeat (first | refine Ev.s ?_ | refine Ev.newC fun _ _ _ => ?_ | refine Ev.boxC fun _ _ _ => ?_ | refine Ev.stC fun _ _ => ?_ | refine Ev.sc (by omega) ?_ | refine Ev.scg (by omega) ?_)
  rw [show (n : Int) - (0 - 0) = (n : Int) by omega]
  repeat (first | refine Ev.s ?_ | refine Ev.newC fun _ _ _ => ?_ | refine Ev.boxC fun _ _ _ => ?_ | refine Ev.stC fun _ _ => ?_ | refine Ev.sc (by omega) ?_ | refine Ev.scg (by omega) ?_)
  by_cases h0 : n = 0
  · subst h0
    rw [show decide ((0 : Int) < ((0 : Nat) : Int)) = false from rfl]
    repeat (first | refine Ev.s ?_ | refine Ev.newC fun _ _ _ => ?_ | refine Ev.boxC fun _ _ _ => ?_ | refine Ev.stC fun _ _ => ?_ | refine Ev.sc (by omega) ?_ | refine Ev.scg (by omega) ?_)
    refine Ev.eq (fun k _ => f53_J1_eq k _ _) ?_
    exact Ev.ret ⟨B, ⟨Mo.refl B⟩, .inl ⟨rfl, rfl, hS⟩⟩
  · rw [decide_eq_true (show (0 : Int) < (n : Int) by omega)]
    repeat (first | refine Ev.s ?_ | refine Ev.newC fun _ _ _ => ?_ | refine Ev.boxC fun _ _ _ => ?_ | refine Ev.stC fun _ _ => ?_ | refine Ev.sc (by omega) ?_ | refine Ev.scg (by omega) ?_)
    refine Ev.prim capV_nil ?_
    refine Ev.prim slc_nil0 ?_
    obtain ⟨B', hm1, hS'⟩ := hS.mkB (List.replicate n (.int .i64 0)) 3 .grow
    refine Ev.prim2 (ap_zeros Try.underlying3 h0 (by omega)) ?_
    repeat (first | refine Ev.s ?_ | refine Ev.newC fun _ _ _ => ?_ | refine Ev.boxC fun _ _ _ => ?_ | refine Ev.stC fun _ _ => ?_ | refine Ev.sc (by omega) ?_ | refine Ev.scg (by omega) ?_)
    refine Ev.prim slc_empty ?_
    refine Ev.eq (fun k _ => f53_J1_eq k _ _) ?_
    exact Ev.ret ⟨B', ⟨hm1⟩, .inr (.inl ⟨rfl, _, _, _, rfl, hS'⟩)⟩
theorem ConcatC {av k1 k2 : Value} {l1 l2 : List (Int)} [ha : FT B av (fun v : Value => v) [k1, k2]] [h1 : FT B k1 i64v l1] [h2 : FT B k2 i64v l2] (hl1 : l1.length < 10000000) (hl2 : l2.length < 10000000) (hL : Le B H) :
    Ev (fun k _ => rn k 49 [av] H) (An B H fun B' v => FL B' v i64v (l1 ++ l2)) := by
  refine Ev.fn (fun k => f49_eq k _ H) ?_
  have hS := St.start hL
  have ha := ha.fl
  have h1 := h1.fl
  have h2 := h2.fl
  haveI i1 := h1.sc.cell
  haveI i2 := h2.sc.cell
  refine Ev.prim (a := i64 2) (show lenV Try.prog 94 av = some (i64 2) from (fl_len (P := Try.prog) (t := 94) (v := av) (l := [k1, k2])).eq) ?_
  have loop1 : Ev (fun k n => f49_L0 k av (i64 0) av (i64 2) (i64 0) n H) (fun o => o = (.exit 0, f49_X_L0 av (i64 (0 + l1.length + l2.length)), H)) := by
    refine Ev.succ (fun k n => f49_L0_succ k _ _ _ _ _ n H) ?_
    repeat (first | refine Ev.s ?_ | refine Ev.newC fun _ _ _ => ?_ | refine Ev.boxC fun _ _ _ => ?_ | refine Ev.stC fun _ _ => ?_ | refine Ev.sc (by omega) ?_ | refine Ev.scg (by omega) ?_)
    rw [show decide ((0 : Nat) < 2) = true from rfl]
    repeat (first | refine Ev.s ?_ | refine Ev.newC fun _ _ _ => ?_ | refine Ev.boxC fun _ _ _ => ?_ | refine Ev.stC fun _ _ => ?_ | refine Ev.sc (by omega) ?_ | refine Ev.scg (by omega) ?_)
    refine Ev.ixF (h := ha) 0 rfl (a := k1) rfl fun p hp => ?_
    repeat (first | refine Ev.s ?_ | refine Ev.newC fun _ _ _ => ?_ | refine Ev.boxC fun _ _ _ => ?_ | refine Ev.stC fun _ _ => ?_ | refine Ev.sc (by omega) ?_ | refine Ev.scg (by omega) ?_)
    rw [decide_eq_false (show ¬ 0 + l1.length < 0 by omega)]
    repeat (first | refine Ev.s ?_ | refine Ev.newC fun _ _ _ => ?_ | refine Ev.boxC fun _ _ _ => ?_ | refine Ev.stC fun _ _ => ?_ | refine Ev.sc (by omega) ?_ | refine Ev.scg (by omega) ?_)
    refine Ev.succ (fun k n => f49_L0_succ k _ _ _ _ _ n H) ?_
    repeat (first | refine Ev.s ?_ | refine Ev.newC fun _ _ _ => ?_ | refine Ev.boxC fun _ _ _ => ?_ | refine Ev.stC fun _ _ => ?_ | refine Ev.sc (by omega) ?_ | refine Ev.scg (by omega) ?_)
    rw [show decide ((0 + 1 : Nat) < 2) = true from rfl]
    repeat (first | refine Ev.s ?_ | refine Ev.newC fun _ _ _ => ?_ | refine Ev.boxC fun _ _ _ => ?_ | refine Ev.stC fun _ _ => ?_ | refine Ev.sc (by omega) ?_ | refine Ev.scg (by omega) ?_)
    refine Ev.ixF (h := ha) 1 rfl (a := k2) rfl fun p hp => ?_
    repeat (first | refine Ev.s ?_ | refine Ev.newC fun _ _ _ => ?_ | refine Ev.boxC fun _ _ _ => ?_ | refine Ev.stC fun _ _ => ?_ | refine Ev.sc (by omega) ?_ | refine Ev.scg (by omega) ?_)
    rw [decide_eq_false (show ¬ 0 + l1.length + l2.length < 0 by omega)]
    repeat (first | refine Ev.s ?_ | refine Ev.newC fun _ _ _ => ?_ | refine Ev.boxC fun _ _ _ => ?_ | refine Ev.stC fun _ _ => ?_ | refine Ev.sc (by omega) ?_ | refine Ev.scg (by omega) ?_)
    refine Ev.succ (fun k n => f49_L0_succ k _ _ _ _ _ n H) ?_
    repeat (first | refine Ev.s ?_ | refine Ev.newC fun _ _ _ => ?_ | refine Ev.boxC fun _ _ _ => ?_ | refine Ev.stC fun _ _ => ?_ | refine Ev.sc (by omega) ?_ | refine Ev.scg (by omega) ?_)
    rw [show decide ((0 + 1 + 1 : Nat) < 2) = false from rfl]
    repeat (first | refine Ev.s ?_ | refine Ev.newC fun _ _ _ => ?_ | refine Ev.boxC fun _ _ _ => ?_ | refine Ev.stC fun _ _ => ?_ | refine Ev.sc (by omega) ?_ | refine Ev.scg (by omega) ?_)
    exact Ev.ret rfl
  refine Ev.bind (Ev.loop loop1) ?_
  rintro _ rfl
  refine Ev.eq (fun k _ => f49_A0_x0 k _ _ _) ?_
  refine Ev.b2 (GrowC (n := 0 + l1.length + l2.length) (by omega) hS) fun v1 H1 h3 => ?_
  obtain ⟨B1, hm1, hA1⟩ := h3
  simp only at hA1
  have ha1 := ha.mono hm1.mo
  have h11 := h1.mono hm1.mo
  have h21 := h2.mono hm1.mo
  haveI := hA1.cell
  refine Ev.prim (a := i64 2) (show lenV Try.prog 94 av = some (i64 2) from (fl_len (P := Try.prog) (t := 94) (v := av) (h := ha) (l := [k1, k2])).eq) ?_
  have loop2 : Ev (fun k n => f49_L1 k v1 av (i64 2) (i64 0) n H1) (fun o => ∃ B' H' v', o = (.exit 2, f49_X_L1 v', H') ∧ Mo B1 B' ∧ CA 3 H B B' [] H' v' ((([] ++ l1) ++ l2).map i64v)) := by
    refine Ev.succ (fun k n => f49_L1_succ k _ _ _ _ n H1) ?_
    clear hS
    have hSt := hA1.st
    repeat (first | refine Ev.s ?_ | refine Ev.newC fun _ _ _ => ?_ | refine Ev.boxC fun _ _ _ => ?_ | refine Ev.stC fun _ _ => ?_ | refine Ev.sc (by omega) ?_ | refine Ev.scg (by omega) ?_)
    rw [show decide ((0 : Nat) < 2) = true from rfl]
    repeat (first | refine Ev.s ?_ | refine Ev.newC fun _ _ _ => ?_ | refine Ev.boxC fun _ _ _ => ?_ | refine Ev.stC fun _ _ => ?_ | refine Ev.sc (by omega) ?_ | refine Ev.scg (by omega) ?_)
    refine Ev.ixF (h := ha1) 0 rfl (a := k1) rfl fun p hp => ?_
    repeat (first | refine Ev.s ?_ | refine Ev.newC fun _ _ _ => ?_ | refine Ev.boxC fun _ _ _ => ?_ | refine Ev.stC fun _ _ => ?_ | refine Ev.sc (by omega) ?_ | refine Ev.scg (by omega) ?_)
    refine Ev.apCA (f := i64v) (ks := []) (l := l1) (fun _ => rfl) hA1 h11 (by simp only [List.length_nil]; omega) fun v2 B2 H2 hm2 hA2 => ?_
    have ha2 := ha1.mono hm2.mo
    have h22 := h21.mono hm2.mo
    haveI := hA2.cell
    clear hSt
    have hSt := hA2.st
    repeat (first | refine Ev.s ?_ | refine Ev.newC fun _ _ _ => ?_ | refine Ev.boxC fun _ _ _ => ?_ | refine Ev.stC fun _ _ => ?_ | refine Ev.sc (by omega) ?_ | refine Ev.scg (by omega) ?_)
    refine Ev.succ (fun k n => f49_L1_succ k _ _ _ _ n H2) ?_
    repeat (first | refine Ev.s ?_ | refine Ev.newC fun _ _ _ => ?_ | refine Ev.boxC fun _ _ _ => ?_ | refine Ev.stC fun _ _ => ?_ | refine Ev.sc (by omega) ?_ | refine Ev.scg (by omega) ?_)
    rw [show decide ((0 + 1 : Nat) < 2) = true from rfl]
    repeat (first | refine Ev.s ?_ | refine Ev.newC fun _ _ _ => ?_ | refine Ev.boxC fun _ _ _ => ?_ | refine Ev.stC fun _ _ => ?_ | refine Ev.sc (by omega) ?_ | refine Ev.scg (by omega) ?_)
    refine Ev.ixF (h := ha2) 1 rfl (a := k2) rfl fun p hp => ?_
    repeat (first | refine Ev.s ?_ | refine Ev.newC fun _ _ _ => ?_ | refine Ev.boxC fun _ _ _ => ?_ | refine Ev.stC fun _ _ => ?_ | refine Ev.sc (by omega) ?_ | refine Ev.scg (by omega) ?_)
    refine Ev.apCA (f := i64v) (ks := [] ++ l1) (l := l2) (fun _ => rfl) hA2 h22 (by simp only [List.length_append, List.length_nil]; omega) fun v3 B3 H3 hm3 hA3 => ?_
    haveI := hA3.cell
    clear hSt
    have hSt := hA3.st
    repeat (first | refine Ev.s ?_ | refine Ev.newC fun _ _ _ => ?_ | refine Ev.boxC fun _ _ _ => ?_ | refine Ev.stC fun _ _ => ?_ | refine Ev.sc (by omega) ?_ | refine Ev.scg (by omega) ?_)
    refine Ev.succ (fun k n => f49_L1_succ k _ _ _ _ n H3) ?_
    repeat (first | refine Ev.s ?_ | refine Ev.newC fun _ _ _ => ?_ | refine Ev.boxC fun _ _ _ => ?_ | refine Ev.stC fun _ _ => ?_ | refine Ev.sc (by omega) ?_ | refine Ev.scg (by omega) ?_)
    rw [show decide ((0 + 1 + 1 : Nat) < 2) = false from rfl]
    repeat (first | refine Ev.s ?_ | refine Ev.newC fun _ _ _ => ?_ | refine Ev.boxC fun _ _ _ => ?_ | refine Ev.stC fun _ _ => ?_ | refine Ev.sc (by omega) ?_ | refine Ev.scg (by omega) ?_)
    exact Ev.ret ⟨B3, H3, v3, rfl, hm2.mo.trans hm3.mo, hA3⟩
  refine Ev.bind (Ev.loop loop2) ?_
  rintro _ ⟨B4, H4, v4, rfl, hm4, hA4⟩
  refine Ev.eq (fun k _ => f49_A1_x2 k _ _) ?_
  obtain ⟨B5, hm5, h5, hS5⟩ := hA4.fl
  rw [List.nil_append] at h5
  exact Ev.ret (hS5.an h5)
end
end Go.AM.N
set_option linter.unusedVariables false
set_option linter.unusedSimpArgs false
set_option maxRecDepth 100000
namespace Go.AM.N
open Go Go.AM Go.Proofs
attribute [local irreducible] run bin un ld st box newV mkS fldA fld ixA ix slc slc3 build buildS cv cvS ap cpy lenV gOp pickV b2 aIf aChk evalK resume iterD Option.bind

section
variable {B B0 H0 H : AH} {kv cv kv2 cv2 : Value} {ks ks2 : List (List UInt8)} {cs cs2 : List Int} {lf lf2 : Bool}
def SplitW (B : AH) (v : Value) (lf : Bool) (ks : List (List UInt8)) (cs : List Int) (h up : Nat) (mid : List UInt8) : Prop :=
  ∃ ak ac bk bc, v = .tuple #[NdA lf ak ac, str mid, NdA lf bk bc, .bool true] ∧ FL B ak str (ks.take h) ∧ FL B ac i64v (cs.take (min (h + up) cs.length)) ∧ FL B bk str (ks.drop (h + up)) ∧ FL B bc i64v (cs.drop (min (h + up) cs.length))
theorem split_tail {b1 b2 b3 : Nat} {h up : Nat} {mid : List UInt8} {c0 c1 : List Value} (hc0 : c0 = [.bool false, .slice none 0 0, .slice none 0 0]) (hc1 : c1 = [.bool false, .slice none 0 0, .slice none 0 0]) (hmid : ks[h]? = some mid) (hup : h + up ≤ ks.length)
    (hS : St H0 B0 B [(b3, ⟨c0, 25, .fix⟩), (b2, ⟨c1, 25, .fix⟩), (b1, ⟨[.bool lf, kv, cv], 25, .fix⟩)] H) [hk : FL B kv str ks] [hc : FL B cv i64v cs] (hlk : ks.length < 100000000) (hlc : cs.length < 100000000) :
    Ev (fun k _ => f30_J0 k (ptr b1 0) (ptr b2 0) (ptr b3 0) (i64 h) (i64 up) H) (An B0 H0 fun B' v => SplitW B' v lf ks cs h up mid) := by
  subst hc0
  subst hc1
  have hm : min (h + up) cs.length ≤ cs.length := Nat.min_le_right _ _
  have hmm : (if ((cs.length : Nat) : Int) < ((h + up : Nat) : Int) then ((cs.length : Nat) : Int) else ((h + up : Nat) : Int)) = ((min (h + up) cs.length : Nat) : Int) := by split <;> omega
  refine Ev.eq (fun k _ => f30_J0_eq k _ _ _ _ _ _) ?_
  unfold SplitW
  generalize hcut : min (h + up) cs.length = cut at *
  repeat (first | refine Ev.s ?_ | refine Ev.newC fun _ _ _ => ?_ | refine Ev.boxC fun _ _ _ => ?_ | refine Ev.stC fun _ _ => ?_ | refine Ev.sc (by omega) ?_ | refine Ev.scg (by omega) ?_)
  simp only [hmm]
  refine Ev.slcF (l := ks) 0 h rfl rfl (by omega) (by omega) fun w1 hw1 => ?_
  rw [List.drop_zero, Nat.sub_zero] at hw1
  refine Ev.callD (withS_spec (from_ := h) (to_ := h) (l := ks.take h) (mo := []) (hb := ⟨FL.nil⟩) (by have := List.length_take_le h ks; omega) (by simp) (by omega) (by omega)) fun v1 B1 H1 hm1 hS1 h1 => ?_
  rw [show (ks.take h).take h ++ ([] ++ (ks.take h).drop h) = ks.take h by simp [List.take_take]] at h1
  have hk1 := hk.mono hm1.mo
  have hc1 := hc.mono hm1.mo
  clear hk hc hw1
  repeat (first | refine Ev.s ?_ | refine Ev.newC fun _ _ _ => ?_ | refine Ev.boxC fun _ _ _ => ?_ | refine Ev.stC fun _ _ => ?_ | refine Ev.sc (by omega) ?_ | refine Ev.scg (by omega) ?_)
  refine Ev.slcF (l := cs) 0 cut rfl rfl (by omega) (by omega) fun w2 hw2 => ?_
  rw [List.drop_zero, Nat.sub_zero] at hw2
  refine Ev.callD (withC_spec (from_ := cut) (to_ := cut) (l := cs.take cut) (mo := []) (hb := ⟨FL.nil⟩) (by have := List.length_take_le cut cs; omega) (by simp) (by omega) (by omega)) fun v2 B2 H2 hm2 hS2 h2 => ?_
  rw [show (cs.take cut).take cut ++ ([] ++ (cs.take cut).drop cut) = cs.take cut by simp [List.take_take]] at h2
  have h1 := h1.mono hm2.mo
  have hk2 := hk1.mono hm2.mo
  have hc2 := hc1.mono hm2.mo
  clear hk1 hc1 hS hS1 hw2
  repeat (first | refine Ev.s ?_ | refine Ev.newC fun _ _ _ => ?_ | refine Ev.boxC fun _ _ _ => ?_ | refine Ev.stC fun _ _ => ?_ | refine Ev.sc (by omega) ?_ | refine Ev.scg (by omega) ?_)
  refine Ev.slcF (l := ks) (h + up) ks.length rfl rfl (by omega) (by omega) fun w3 hw3 => ?_
  rw [List.take_of_length_le (by simp)] at hw3
  refine Ev.callD (withS_spec (from_ := 0) (to_ := 0) (l := ks.drop (h + up)) (mo := []) (hb := ⟨FL.nil⟩) (by rw [List.length_drop]; omega) (by simp) (by omega) (by omega)) fun v3 B3 H3 hm3 hS3 h3 => ?_
  rw [show (ks.drop (h + up)).take 0 ++ ([] ++ (ks.drop (h + up)).drop 0) = ks.drop (h + up) by simp] at h3
  have h1 := h1.mono hm3.mo
  have h2 := h2.mono hm3.mo
  have hk3 := hk2.mono hm3.mo
  have hc3 := hc2.mono hm3.mo
  clear hk2 hc2 hw3
  repeat (first | refine Ev.s ?_ | refine Ev.newC fun _ _ _ => ?_ | refine Ev.boxC fun _ _ _ => ?_ | refine Ev.stC fun _ _ => ?_ | refine Ev.sc (by omega) ?_ | refine Ev.scg (by omega) ?_)
  refine Ev.slcF (l := cs) cut cs.length rfl rfl (by omega) (by omega) fun w4 hw4 => ?_
  rw [List.take_of_length_le (by simp)] at hw4
  refine Ev.callD (withC_spec (from_ := 0) (to_ := 0) (l := cs.drop cut) (mo := []) (hb := ⟨FL.nil⟩) (by rw [List.length_drop]; omega) (by simp) (by omega) (by omega)) fun v4 B4 H4 hm4 hS4 h4 => ?_
  rw [show (cs.drop cut).take 0 ++ ([] ++ (cs.drop cut).drop 0) = cs.drop cut by simp] at h4
  have h1 := h1.mono hm4.mo
  have h2 := h2.mono hm4.mo
  have h3 := h3.mono hm4.mo
  have hk4 := hk3.mono hm4.mo
  have hc4 := hc3.mono hm4.mo
  clear hk3 hc3 hw4
  repeat (first | refine Ev.s ?_ | refine Ev.newC fun _ _ _ => ?_ | refine Ev.boxC fun _ _ _ => ?_ | refine Ev.stC fun _ _ => ?_ | refine Ev.sc (by omega) ?_ | refine Ev.scg (by omega) ?_)
  refine Ev.ixF (l := ks) h rfl hmid fun p hp => ?_
  repeat (first | refine Ev.s ?_ | refine Ev.newC fun _ _ _ => ?_ | refine Ev.boxC fun _ _ _ => ?_ | refine Ev.stC fun _ _ => ?_ | refine Ev.sc (by omega) ?_ | refine Ev.scg (by omega) ?_)
  exact Ev.doneC ⟨v1, v2, v3, v4, rfl, h1, h2, h3, h4⟩
theorem Split_spec {mid : List UInt8} [ha : FT B kv str ks] [hb : FT B cv i64v cs] (h4 : 4 ≤ ks.length) (hmid : ks[ks.length / 2]? = some mid) (hlk : ks.length < 100000000) (hlc : cs.length < 100000000) (hL : Le B H) :
    Ev (fun k _ => rn k 30 [NdA lf kv cv] H) (An B H fun B' v => SplitW B' v lf ks cs (ks.length / 2) (if lf then 0 else 1) mid) := by
  refine Ev.fn (fun k => f30_eq k _ H) ?_
  have hS := St.start hL
  have ha := ha.fl
  have hb := hb.fl
  repeat (first | refine Ev.s ?_ | refine Ev.newC fun _ _ _ => ?_ | refine Ev.boxC fun _ _ _ => ?_ | refine Ev.stC fun _ _ => ?_ | refine Ev.sc (by omega) ?_ | refine Ev.scg (by omega) ?_)
  rw [decide_eq_false (by omega)]
  cases lf
  · repeat (first | refine Ev.s ?_ | refine Ev.newC fun _ _ _ => ?_ | refine Ev.boxC fun _ _ _ => ?_ | refine Ev.stC fun _ _ => ?_ | refine Ev.sc (by omega) ?_ | refine Ev.scg (by omega) ?_)
    try rw [Bool.not_false]
    repeat (first | refine Ev.s ?_ | refine Ev.newC fun _ _ _ => ?_ | refine Ev.boxC fun _ _ _ => ?_ | refine Ev.stC fun _ _ => ?_ | refine Ev.sc (by omega) ?_ | refine Ev.scg (by omega) ?_)
    exact split_tail (up := 1) rfl rfl hmid (by omega) (by assumption) hlk hlc
  · repeat (first | refine Ev.s ?_ | refine Ev.newC fun _ _ _ => ?_ | refine Ev.boxC fun _ _ _ => ?_ | refine Ev.stC fun _ _ => ?_ | refine Ev.sc (by omega) ?_ | refine Ev.scg (by omega) ?_)
    try rw [Bool.not_true]
    repeat (first | refine Ev.s ?_ | refine Ev.newC fun _ _ _ => ?_ | refine Ev.boxC fun _ _ _ => ?_ | refine Ev.stC fun _ _ => ?_ | refine Ev.sc (by omega) ?_ | refine Ev.scg (by omega) ?_)
    exact split_tail (up := 0) rfl rfl hmid (by omega) (by assumption) hlk hlc
theorem Split_small [ha : FT B kv str ks] [hb : FT B cv i64v cs] (h4 : ks.length < 4) (hL : Le B H) :
    Ev (fun k _ => rn k 30 [NdA lf kv cv] H) (An B H fun B' v => v = .tuple #[NdA false (.slice none 0 0) (.slice none 0 0), .string ⟨#[]⟩, NdA false (.slice none 0 0) (.slice none 0 0), .bool false]) := by
  refine Ev.fn (fun k => f30_eq k _ H) ?_
  have hS := St.start hL
  have ha := ha.fl
  have hb := hb.fl
  repeat (first | refine Ev.s ?_ | refine Ev.newC fun _ _ _ => ?_ | refine Ev.boxC fun _ _ _ => ?_ | refine Ev.stC fun _ _ => ?_ | refine Ev.sc (by omega) ?_ | refine Ev.scg (by omega) ?_)
  rw [decide_eq_true (by omega)]
  repeat (first | refine Ev.s ?_ | refine Ev.newC fun _ _ _ => ?_ | refine Ev.boxC fun _ _ _ => ?_ | refine Ev.stC fun _ _ => ?_ | refine Ev.sc (by omega) ?_ | refine Ev.scg (by omega) ?_)
  exact Ev.doneC rfl
theorem join_tail {b1 b2 b3 : Nat} {xv : Value} {xs : List (List UInt8)} {c0 : List Value} (hc0 : c0 = [.bool false, .slice none 0 0, .slice none 0 0])
    (hS : St H0 B0 B [(b3, ⟨c0, 25, .fix⟩), (b2, ⟨[.bool lf2, kv2, cv2], 25, .fix⟩), (b1, ⟨[.bool lf, kv, cv], 25, .fix⟩)] H) [hx : FL B xv str xs] [hk2 : FL B kv2 str ks2] [hc : FL B cv i64v cs] [hc2 : FL B cv2 i64v cs2] (hlx : xs.length < 10000000) (hlk2 : ks2.length < 10000000) (hlc : cs.length < 10000000) (hlc2 : cs2.length < 10000000)
    (hsz : sizeN ⟨lf, xs ++ ks2, cs ++ cs2⟩ < 4611686018427387904) :
    Ev (fun k _ => f31_J0 k (ptr b1 0) (ptr b2 0) (ptr b3 0) xv H) (An B0 H0 fun B' v => ∃ lf3 kv3 cv3, v = .tuple #[NdA lf3 kv3 cv3, .bool (decide (sizeN ⟨lf, xs ++ ks2, cs ++ cs2⟩ ≤ 120))] ∧ ((sizeN ⟨lf, xs ++ ks2, cs ++ cs2⟩ ≤ 120 ∧ lf3 = lf ∧ FL B' kv3 str (xs ++ ks2) ∧ FL B' cv3 i64v (cs ++ cs2)) ∨ (¬ sizeN ⟨lf, xs ++ ks2, cs ++ cs2⟩ ≤ 120 ∧ lf3 = false ∧ FL B' kv3 str [] ∧ FL B' cv3 i64v []))) := by
  subst hc0
  refine Ev.eq (fun k _ => f31_J0_eq k _ _ _ _ _) ?_
  repeat (first | refine Ev.s ?_ | refine Ev.newC fun _ _ _ => ?_ | refine Ev.boxC fun _ _ _ => ?_ | refine Ev.stC fun _ _ => ?_ | refine Ev.sc (by omega) ?_ | refine Ev.scg (by omega) ?_)
  refine Ev.bsC (P := Try.prog) (t := 92) (m := 2) (parts := [(0, xv), (1, kv2)]) (hS := hS) (by decide) fun bb H1 hS1 => ?_
  obtain ⟨B1, hm1, ha1, hS2⟩ := hS1.flz (f := fun v : Value => v) (l := [xv, kv2]) (cap := 2) (Nat.le_refl _)
  have hx1 := hx.mono hm1.mo
  have hk1 := hk2.mono hm1.mo
  have hc1 := hc.mono hm1.mo
  have hd1 := hc2.mono hm1.mo
  clear hS hS1 hx hk2 hc hc2
  refine Ev.callD (ConcatS (k1 := xv) (k2 := kv2) (l1 := xs) (l2 := ks2) hlx hlk2) fun v1 B2 H2 hm2 hS3 h1 => ?_
  have hc2 := hc1.mono hm2.mo
  have hd2 := hd1.mono hm2.mo
  clear hc1 hd1 hx1 hk1 ha1
  repeat (first | refine Ev.s ?_ | refine Ev.newC fun _ _ _ => ?_ | refine Ev.boxC fun _ _ _ => ?_ | refine Ev.stC fun _ _ => ?_ | refine Ev.sc (by omega) ?_ | refine Ev.scg (by omega) ?_)
  refine Ev.bsC (P := Try.prog) (t := 94) (m := 2) (parts := [(0, cv), (1, cv2)]) (hS := hS3) (by decide) fun bb2 H3 hS4 => ?_
  obtain ⟨B3, hm3, ha3, hS5⟩ := hS4.flz (f := fun v : Value => v) (l := [cv, cv2]) (cap := 2) (Nat.le_refl _)
  have hc3 := hc2.mono hm3.mo
  have hd3 := hd2.mono hm3.mo
  have h1 := h1.mono hm3.mo
  clear hc2 hd2 hS2 hS3 hS4
  refine Ev.callD (ConcatC (k1 := cv) (k2 := cv2) (l1 := cs) (l2 := cs2) hlc hlc2) fun v2 B4 H4 hm4 hS6 h2 => ?_
  have h1 := h1.mono hm4.mo
  clear hc3 hd3 ha3 hS5
  repeat (first | refine Ev.s ?_ | refine Ev.newC fun _ _ _ => ?_ | refine Ev.boxC fun _ _ _ => ?_ | refine Ev.stC fun _ _ => ?_ | refine Ev.sc (by omega) ?_ | refine Ev.scg (by omega) ?_)
  refine Ev.callD (Size_spec (lf := lf) (ks := xs ++ ks2) (cs := cs ++ cs2) hsz) fun v3 B5 H5 hm5 hS7 h3 => ?_
  subst h3
  have h1 := h1.mono hm5.mo
  have h2 := h2.mono hm5.mo
  by_cases hs : sizeN ⟨lf, xs ++ ks2, cs ++ cs2⟩ ≤ 120
  · repeat (first | refine Ev.s ?_ | refine Ev.newC fun _ _ _ => ?_ | refine Ev.boxC fun _ _ _ => ?_ | refine Ev.stC fun _ _ => ?_ | refine Ev.sc (by omega) ?_ | refine Ev.scg (by omega) ?_)
    rw [decide_eq_false (by omega)]
    repeat (first | refine Ev.s ?_ | refine Ev.newC fun _ _ _ => ?_ | refine Ev.boxC fun _ _ _ => ?_ | refine Ev.stC fun _ _ => ?_ | refine Ev.sc (by omega) ?_ | refine Ev.scg (by omega) ?_)
    exact Ev.doneC ⟨lf, v1, v2, by rw [decide_eq_true hs]; rfl, .inl ⟨hs, rfl, h1, h2⟩⟩
  · repeat (first | refine Ev.s ?_ | refine Ev.newC fun _ _ _ => ?_ | refine Ev.boxC fun _ _ _ => ?_ | refine Ev.stC fun _ _ => ?_ | refine Ev.sc (by omega) ?_ | refine Ev.scg (by omega) ?_)
    rw [decide_eq_true (by omega)]
    repeat (first | refine Ev.s ?_ | refine Ev.newC fun _ _ _ => ?_ | refine Ev.boxC fun _ _ _ => ?_ | refine Ev.stC fun _ _ => ?_ | refine Ev.sc (by omega) ?_ | refine Ev.scg (by omega) ?_)
    exact Ev.doneC ⟨false, .slice none 0 0, .slice none 0 0, by rw [decide_eq_false hs]; rfl, .inr ⟨hs, rfl, FL.nil, FL.nil⟩⟩
end
end Go.AM.N
set_option linter.unusedVariables false
set_option linter.unusedSimpArgs false
set_option maxRecDepth 100000
namespace Go.AM.N
open Go Go.AM Go.Proofs
attribute [local irreducible] run bin un ld st box newV mkS fldA fld ixA ix slc slc3 build buildS cv cvS ap cpy lenV gOp pickV b2 aIf aChk evalK resume iterD Option.bind

section
variable {B B0 H0 H : AH} {kv cv kv2 cv2 : Value} {ks ks2 : List (List UInt8)} {cs cs2 : List Int} {lf : Bool}
theorem Join_spec {mid : List UInt8} {xs : List (List UInt8)} (hxs : xs = ks ++ (if lf then [] else [mid])) [ha : FT B kv str ks] [hb : FT B cv i64v cs] [ha2 : FT B kv2 str ks2] [hb2 : FT B cv2 i64v cs2] (hlx : ks.length < 1000000) (hlk2 : ks2.length < 10000000) (hlc : cs.length < 10000000) (hlc2 : cs2.length < 10000000)
    (hsz : sizeN ⟨lf, xs ++ ks2, cs ++ cs2⟩ < 4611686018427387904) (hL : Le B H) :
    Ev (fun k _ => rn k 31 [NdA lf kv cv, str mid, NdA lf kv2 cv2] H) (An B H fun B' v => ∃ lf3 kv3 cv3, v = .tuple #[NdA lf3 kv3 cv3, .bool (decide (sizeN ⟨lf, xs ++ ks2, cs ++ cs2⟩ ≤ 120))] ∧ ((sizeN ⟨lf, xs ++ ks2, cs ++ cs2⟩ ≤ 120 ∧ lf3 = lf ∧ FL B' kv3 str (xs ++ ks2) ∧ FL B' cv3 i64v (cs ++ cs2)) ∨ (¬ sizeN ⟨lf, xs ++ ks2, cs ++ cs2⟩ ≤ 120 ∧ lf3 = false ∧ FL B' kv3 str [] ∧ FL B' cv3 i64v []))) := by
  refine Ev.fn (fun k => f31_eq k _ _ _ H) ?_
  have hS := St.start hL
  have ha := ha.fl
  have hb := hb.fl
  have ha2 := ha2.fl
  have hb2 := hb2.fl
  cases lf
  · repeat (first | refine Ev.s ?_ | refine Ev.newC fun _ _ _ => ?_ | refine Ev.boxC fun _ _ _ => ?_ | refine Ev.stC fun _ _ => ?_ | refine Ev.sc (by omega) ?_ | refine Ev.scg (by omega) ?_)
    rw [show (false != false) = false from rfl]
    repeat (first | refine Ev.s ?_ | refine Ev.newC fun _ _ _ => ?_ | refine Ev.boxC fun _ _ _ => ?_ | refine Ev.stC fun _ _ => ?_ | refine Ev.sc (by omega) ?_ | refine Ev.scg (by omega) ?_)
    try rw [Bool.not_false]
    repeat (first | refine Ev.s ?_ | refine Ev.newC fun _ _ _ => ?_ | refine Ev.boxC fun _ _ _ => ?_ | refine Ev.stC fun _ _ => ?_ | refine Ev.sc (by omega) ?_ | refine Ev.scg (by omega) ?_)
    refine Ev.bsC (P := Try.prog) (t := 22) (m := 1) (parts := [(0, str mid)]) (hS := by assumption) (by decide) fun bb H1 hS1 => ?_
    obtain ⟨B1, hm1, hx, hS2⟩ := hS1.flz (f := str) (l := [mid]) (cap := 1) (Nat.le_refl _)
    have ha1 := ha.mono hm1.mo
    have hb1 := hb.mono hm1.mo
    have ha21 := ha2.mono hm1.mo
    have hb21 := hb2.mono hm1.mo
    clear hS1 ha hb ha2 hb2
    refine Ev.callD (withS_spec (from_ := ks.length) (to_ := ks.length) (l := ks) (mo := [mid]) (by omega) (by simp) (by omega) (by omega)) fun v1 B2 H2 hm2 hS3 h1 => ?_
    rw [show ks.take ks.length ++ ([mid] ++ ks.drop ks.length) = xs by rw [hxs]; simp] at h1
    have ha3 := ha1.mono hm2.mo
    have hb3 := hb1.mono hm2.mo
    have ha23 := ha21.mono hm2.mo
    have hb23 := hb21.mono hm2.mo
    clear ha1 hb1 ha21 hb21 hx
    exact join_tail rfl hS3 (by rw [hxs]; simp; omega) hlk2 hlc hlc2 hsz
  · have hx2 : xs = ks := by rw [hxs]; simp
    clear hxs
    subst hx2
    repeat (first | refine Ev.s ?_ | refine Ev.newC fun _ _ _ => ?_ | refine Ev.boxC fun _ _ _ => ?_ | refine Ev.stC fun _ _ => ?_ | refine Ev.sc (by omega) ?_ | refine Ev.scg (by omega) ?_)
    rw [show (true != true) = false from rfl]
    repeat (first | refine Ev.s ?_ | refine Ev.newC fun _ _ _ => ?_ | refine Ev.boxC fun _ _ _ => ?_ | refine Ev.stC fun _ _ => ?_ | refine Ev.sc (by omega) ?_ | refine Ev.scg (by omega) ?_)
    try rw [Bool.not_true]
    repeat (first | refine Ev.s ?_ | refine Ev.newC fun _ _ _ => ?_ | refine Ev.boxC fun _ _ _ => ?_ | refine Ev.stC fun _ _ => ?_ | refine Ev.sc (by omega) ?_ | refine Ev.scg (by omega) ?_)
    exact join_tail rfl (by assumption) (by omega) hlk2 hlc hlc2 hsz
end
end Go.AM.N
set_option linter.unusedVariables false
set_option linter.unusedSimpArgs false
set_option maxRecDepth 100000
namespace Go.AM.N
open Go Go.AM Go.Proofs
attribute [local irreducible] run bin un ld st box newV mkS fldA fld ixA ix slc slc3 build buildS cv cvS ap cpy lenV gOp pickV b2 aIf aChk evalK resume iterD Option.bind

section
variable {B B0 H0 H : AH} {kv cv kv2 cv2 : Value} {ks ks2 : List (List UInt8)} {cs cs2 : List Int} {lf lf2 : Bool}
theorem rSplit_spec {mid : List UInt8} [ha : FT B kv str ks] [hb : FT B cv i64v cs] (h4 : 4 ≤ ks.length) (hmid : ks[ks.length / 2]? = some mid) (hlk : ks.length < 100000000) (hlc : cs.length = ks.length + (if lf then 0 else 1)) (hL : Le B H) :
    Ev (fun k _ => rn k 32 [NdA lf kv cv] H) (An B H fun B' v => SplitW B' v lf ks cs (ks.length / 2) (if lf then 0 else 1) mid) := by
  refine Ev.fn (fun k => f32_eq k _ H) ?_
  have hS := St.start hL
  have hk := ha.fl
  have hc := hb.fl
  unfold SplitW
  repeat (first | refine Ev.s ?_ | refine Ev.newC fun _ _ _ => ?_ | refine Ev.boxC fun _ _ _ => ?_ | refine Ev.stC fun _ _ => ?_ | refine Ev.sc (by omega) ?_ | refine Ev.scg (by omega) ?_)
  rw [decide_eq_false (by omega)]
  repeat (first | refine Ev.s ?_ | refine Ev.newC fun _ _ _ => ?_ | refine Ev.boxC fun _ _ _ => ?_ | refine Ev.stC fun _ _ => ?_ | refine Ev.sc (by omega) ?_ | refine Ev.scg (by omega) ?_)
  clear hS
  refine Ev.slcF (h := hk) 0 (ks.length / 2) rfl rfl (by omega) (by omega) fun w1 hw1 => ?_
  rw [List.drop_zero, Nat.sub_zero] at hw1
  refine Ev.apNil (by exact Try.underlying22) (by assumption) (fun _ => rfl) (by have := List.length_take_le (ks.length / 2) ks; omega) fun v1 B1 H1 hm1 h1 hS1 => ?_
  have hk1 := hk.mono hm1.mo
  have hc1 := hc.mono hm1.mo
  clear hk hc hw1
  haveI := h1.sc.cell
  cases lf
  · simp only [Bool.false_eq_true, if_false] at hlc ⊢
    rw [show min (ks.length / 2 + 1) cs.length = ks.length / 2 + 1 by omega]
    repeat (first | refine Ev.s ?_ | refine Ev.newC fun _ _ _ => ?_ | refine Ev.boxC fun _ _ _ => ?_ | refine Ev.stC fun _ _ => ?_ | refine Ev.sc (by omega) ?_ | refine Ev.scg (by omega) ?_)
    refine Ev.slcF (h := hc1) (0) (ks.length / 2 + 1) rfl rfl (by omega) (by omega) fun w2 hw2 => ?_
    rw [List.drop_zero, Nat.sub_zero] at hw2
    refine Ev.apNil (by exact Try.underlying23) (by assumption) (fun _ => rfl) (by have := List.length_take_le (ks.length / 2 + 1) cs; have := List.length_drop (i := 0) (l := cs); omega) fun v2 B2 H2 hm2 h2 hS2 => ?_
    have hk2 := hk1.mono hm2.mo
    have hc2 := hc1.mono hm2.mo
    have h1 := h1.mono hm2.mo
    clear hk1 hc1 hw2
    haveI := h2.sc.cell
    repeat (first | refine Ev.s ?_ | refine Ev.newC fun _ _ _ => ?_ | refine Ev.boxC fun _ _ _ => ?_ | refine Ev.stC fun _ _ => ?_ | refine Ev.sc (by omega) ?_ | refine Ev.scg (by omega) ?_)
    refine Ev.slcF (h := hk2) (ks.length / 2 + 1) (ks.length) rfl rfl (by omega) (by omega) fun w3 hw3 => ?_
    rw [List.take_of_length_le (by rw [List.length_drop]; omega)] at hw3
    refine Ev.apNil (by exact Try.underlying22) (by assumption) (fun _ => rfl) (by have := List.length_take_le (ks.length) ks; have := List.length_drop (i := ks.length / 2 + 1) (l := ks); omega) fun v3 B3 H3 hm3 h3 hS3 => ?_
    have hk3 := hk2.mono hm3.mo
    have hc3 := hc2.mono hm3.mo
    have h1 := h1.mono hm3.mo
    have h2 := h2.mono hm3.mo
    clear hk2 hc2 hw3
    haveI := h3.sc.cell
    repeat (first | refine Ev.s ?_ | refine Ev.newC fun _ _ _ => ?_ | refine Ev.boxC fun _ _ _ => ?_ | refine Ev.stC fun _ _ => ?_ | refine Ev.sc (by omega) ?_ | refine Ev.scg (by omega) ?_)
    refine Ev.slcF (h := hc3) (ks.length / 2 + 1) (cs.length) rfl rfl (by omega) (by omega) fun w4 hw4 => ?_
    rw [List.take_of_length_le (by rw [List.length_drop]; omega)] at hw4
    refine Ev.apNil (by exact Try.underlying23) (by assumption) (fun _ => rfl) (by have := List.length_take_le (cs.length) cs; have := List.length_drop (i := ks.length / 2 + 1) (l := cs); omega) fun v4 B4 H4 hm4 h4 hS4 => ?_
    have hk4 := hk3.mono hm4.mo
    have hc4 := hc3.mono hm4.mo
    have h1 := h1.mono hm4.mo
    have h2 := h2.mono hm4.mo
    have h3 := h3.mono hm4.mo
    clear hk3 hc3 hw4
    haveI := h4.sc.cell
    repeat (first | refine Ev.s ?_ | refine Ev.newC fun _ _ _ => ?_ | refine Ev.boxC fun _ _ _ => ?_ | refine Ev.stC fun _ _ => ?_ | refine Ev.sc (by omega) ?_ | refine Ev.scg (by omega) ?_)
    refine Ev.ixF (h := hk4) (ks.length / 2) rfl hmid fun p hp => ?_
    repeat (first | refine Ev.s ?_ | refine Ev.newC fun _ _ _ => ?_ | refine Ev.boxC fun _ _ _ => ?_ | refine Ev.stC fun _ _ => ?_ | refine Ev.sc (by omega) ?_ | refine Ev.scg (by omega) ?_)
    exact Ev.doneC ⟨v1, v2, v3, v4, rfl, h1, h2, h3, h4⟩
  · simp only [if_true] at hlc ⊢
    rw [show min (ks.length / 2 + 0) cs.length = ks.length / 2 by omega]
    repeat (first | refine Ev.s ?_ | refine Ev.newC fun _ _ _ => ?_ | refine Ev.boxC fun _ _ _ => ?_ | refine Ev.stC fun _ _ => ?_ | refine Ev.sc (by omega) ?_ | refine Ev.scg (by omega) ?_)
    refine Ev.slcF (h := hc1) (0) (ks.length / 2) rfl rfl (by omega) (by omega) fun w2 hw2 => ?_
    rw [List.drop_zero, Nat.sub_zero] at hw2
    refine Ev.apNil (by exact Try.underlying23) (by assumption) (fun _ => rfl) (by have := List.length_take_le (ks.length / 2) cs; have := List.length_drop (i := 0) (l := cs); omega) fun v2 B2 H2 hm2 h2 hS2 => ?_
    have hk2 := hk1.mono hm2.mo
    have hc2 := hc1.mono hm2.mo
    have h1 := h1.mono hm2.mo
    clear hk1 hc1 hw2
    haveI := h2.sc.cell
    repeat (first | refine Ev.s ?_ | refine Ev.newC fun _ _ _ => ?_ | refine Ev.boxC fun _ _ _ => ?_ | refine Ev.stC fun _ _ => ?_ | refine Ev.sc (by omega) ?_ | refine Ev.scg (by omega) ?_)
    refine Ev.slcF (h := hk2) (ks.length / 2) (ks.length) rfl rfl (by omega) (by omega) fun w3 hw3 => ?_
    rw [List.take_of_length_le (by rw [List.length_drop]; omega)] at hw3
    refine Ev.apNil (by exact Try.underlying22) (by assumption) (fun _ => rfl) (by have := List.length_take_le (ks.length) ks; have := List.length_drop (i := ks.length / 2) (l := ks); omega) fun v3 B3 H3 hm3 h3 hS3 => ?_
    have hk3 := hk2.mono hm3.mo
    have hc3 := hc2.mono hm3.mo
    have h1 := h1.mono hm3.mo
    have h2 := h2.mono hm3.mo
    clear hk2 hc2 hw3
    haveI := h3.sc.cell
    repeat (first | refine Ev.s ?_ | refine Ev.newC fun _ _ _ => ?_ | refine Ev.boxC fun _ _ _ => ?_ | refine Ev.stC fun _ _ => ?_ | refine Ev.sc (by omega) ?_ | refine Ev.scg (by omega) ?_)
    refine Ev.slcF (h := hc3) (ks.length / 2) (cs.length) rfl rfl (by omega) (by omega) fun w4 hw4 => ?_
    rw [List.take_of_length_le (by rw [List.length_drop]; omega)] at hw4
    refine Ev.apNil (by exact Try.underlying23) (by assumption) (fun _ => rfl) (by have := List.length_take_le (cs.length) cs; have := List.length_drop (i := ks.length / 2) (l := cs); omega) fun v4 B4 H4 hm4 h4 hS4 => ?_
    have hk4 := hk3.mono hm4.mo
    have hc4 := hc3.mono hm4.mo
    have h1 := h1.mono hm4.mo
    have h2 := h2.mono hm4.mo
    have h3 := h3.mono hm4.mo
    clear hk3 hc3 hw4
    haveI := h4.sc.cell
    repeat (first | refine Ev.s ?_ | refine Ev.newC fun _ _ _ => ?_ | refine Ev.boxC fun _ _ _ => ?_ | refine Ev.stC fun _ _ => ?_ | refine Ev.sc (by omega) ?_ | refine Ev.scg (by omega) ?_)
    refine Ev.ixF (h := hk4) (ks.length / 2) rfl hmid fun p hp => ?_
    repeat (first | refine Ev.s ?_ | refine Ev.newC fun _ _ _ => ?_ | refine Ev.boxC fun _ _ _ => ?_ | refine Ev.stC fun _ _ => ?_ | refine Ev.sc (by omega) ?_ | refine Ev.scg (by omega) ?_)
    exact Ev.doneC ⟨v1, v2, v3, v4, rfl, h1, h2, h3, h4⟩
end
end Go.AM.N
set_option linter.unusedVariables false
set_option linter.unusedSimpArgs false
set_option maxRecDepth 100000
namespace Go.AM.N
open Go Go.AM Go.Proofs
attribute [local irreducible] run bin un ld st box newV mkS fldA fld ixA ix slc slc3 build buildS cv cvS ap cpy lenV gOp pickV b2 aIf aChk evalK resume iterD Option.bind

section
variable {B B0 H0 H : AH} {kv cv kv2 cv2 : Value} {ks ks2 : List (List UInt8)} {cs cs2 : List Int} {lf lf2 : Bool}
theorem sizeW_loop {L : List (Nat × Blk)} [hS : St H0 B0 B L H] [hk : FL B kv str ks] (hlen : ks.length < 4611686018427387904) :
    ∀ (m i : Nat) (s : Int), i + m = ks.length → Ev (fun k n => f20_L0 k (.int .i64 s) kv (i64 ks.length) (i64 i) n H) (fun o => ∃ s' : Int, o = (.exit 0, f20_X_L0 (.int .i64 s'), H)) := by
  intro m
  induction m with
  | zero =>
    intro i s hi
    refine Ev.succ (fun k n => f20_L0_succ k _ _ _ _ n H) ?_
    repeat (first | refine Ev.s ?_ | refine Ev.newC fun _ _ _ => ?_ | refine Ev.boxC fun _ _ _ => ?_ | refine Ev.stC fun _ _ => ?_ | refine Ev.sc (by omega) ?_ | refine Ev.scg (by omega) ?_)
    rw [decide_eq_false (by omega)]
    repeat (first | refine Ev.s ?_ | refine Ev.newC fun _ _ _ => ?_ | refine Ev.boxC fun _ _ _ => ?_ | refine Ev.stC fun _ _ => ?_ | refine Ev.sc (by omega) ?_ | refine Ev.scg (by omega) ?_)
    exact Ev.ret ⟨_, rfl⟩
  | succ m ih =>
    intro i s hi
    refine Ev.succ (fun k n => f20_L0_succ k _ _ _ _ n H) ?_
    obtain ⟨a, ha⟩ := get_ex (l := ks) (i := i) (by omega)
    repeat (first | refine Ev.s ?_ | refine Ev.newC fun _ _ _ => ?_ | refine Ev.boxC fun _ _ _ => ?_ | refine Ev.stC fun _ _ => ?_ | refine Ev.sc (by omega) ?_ | refine Ev.scg (by omega) ?_)
    rw [decide_eq_true (by omega)]
    repeat (first | refine Ev.s ?_ | refine Ev.newC fun _ _ _ => ?_ | refine Ev.boxC fun _ _ _ => ?_ | refine Ev.stC fun _ _ => ?_ | refine Ev.sc (by omega) ?_ | refine Ev.scg (by omega) ?_)
    refine Ev.ixF i rfl ha fun p hp => ?_
    refine Ev.s ?_
    refine Ev.s ?_
    refine Ev.prim bin_add ?_
    refine Ev.prim bin_add ?_
    repeat (first | refine Ev.s ?_ | refine Ev.newC fun _ _ _ => ?_ | refine Ev.boxC fun _ _ _ => ?_ | refine Ev.stC fun _ _ => ?_ | refine Ev.sc (by omega) ?_ | refine Ev.scg (by omega) ?_)
    exact ih (i + 1) _ (by omega)
theorem SizeW_spec [ha : FT B kv str ks] [hb : FT B cv i64v cs] (hl : ks.length < 1000000) (hl2 : cs.length < 1000000) (hL : Le B H) : Ev (fun k _ => rn k 20 [NdA lf kv cv] H) (An B H fun _ v => ∃ z : Int, v = .int .i64 z) := by
  refine Ev.fn (fun k => f20_eq k _ H) ?_
  have hS := St.start hL
  have ha := ha.fl
  have hb := hb.fl
  repeat (first | refine Ev.s ?_ | refine Ev.newC fun _ _ _ => ?_ | refine Ev.boxC fun _ _ _ => ?_ | refine Ev.stC fun _ _ => ?_ | refine Ev.sc (by omega) ?_ | refine Ev.scg (by omega) ?_)
  refine Ev.bind (Ev.loop (sizeW_loop (ks := ks) (by omega) ks.length 0 _ (by omega))) ?_
  rintro _ ⟨s, rfl⟩
  refine Ev.eq (fun k _ => f20_A0_x0 k _ _) ?_
  exact Ev.doneC ⟨s, rfl⟩
def AnyNd (B : AH) (v : Value) : Prop := ∃ lf3 kv3 cv3 g ks3 cs3, v = .tuple #[NdA lf3 kv3 cv3, .bool g] ∧ FL B kv3 str ks3 ∧ FL B cv3 i64v cs3 ∧ ks3.length < 1000000 ∧ cs3.length < 1000000
theorem join_tailW {b1 b2 b3 : Nat} {xv : Value} {xs : List (List UInt8)} {c0 : List Value} (hc0 : c0 = [.bool false, .slice none 0 0, .slice none 0 0])
    (hS : St H0 B0 B [(b3, ⟨c0, 25, .fix⟩), (b2, ⟨[.bool lf2, kv2, cv2], 25, .fix⟩), (b1, ⟨[.bool lf, kv, cv], 25, .fix⟩)] H) [hx : FL B xv str xs] [hk2 : FL B kv2 str ks2] [hc : FL B cv i64v cs] [hc2 : FL B cv2 i64v cs2] (hlx : xs.length < 10000) (hlk2 : ks2.length < 10000) (hlc : cs.length < 10000) (hlc2 : cs2.length < 10000) :
    Ev (fun k _ => f31_J0 k (ptr b1 0) (ptr b2 0) (ptr b3 0) xv H) (An B0 H0 AnyNd) := by
  subst hc0
  refine Ev.eq (fun k _ => f31_J0_eq k _ _ _ _ _) ?_
  repeat (first | refine Ev.s ?_ | refine Ev.newC fun _ _ _ => ?_ | refine Ev.boxC fun _ _ _ => ?_ | refine Ev.stC fun _ _ => ?_ | refine Ev.sc (by omega) ?_ | refine Ev.scg (by omega) ?_)
  refine Ev.bsC (P := Try.prog) (t := 92) (m := 2) (parts := [(0, xv), (1, kv2)]) (hS := hS) (by decide) fun bb H1 hS1 => ?_
  obtain ⟨B1, hm1, ha1, hS2⟩ := hS1.flz (f := fun v : Value => v) (l := [xv, kv2]) (cap := 2) (Nat.le_refl _)
  have hx1 := hx.mono hm1.mo
  have hk1 := hk2.mono hm1.mo
  have hc1 := hc.mono hm1.mo
  have hd1 := hc2.mono hm1.mo
  clear hS hS1 hx hk2 hc hc2
  refine Ev.callD (ConcatS (k1 := xv) (k2 := kv2) (l1 := xs) (l2 := ks2) (by omega) (by omega)) fun v1 B2 H2 hm2 hS3 h1 => ?_
  have hc2 := hc1.mono hm2.mo
  have hd2 := hd1.mono hm2.mo
  clear hc1 hd1 hx1 hk1 ha1
  repeat (first | refine Ev.s ?_ | refine Ev.newC fun _ _ _ => ?_ | refine Ev.boxC fun _ _ _ => ?_ | refine Ev.stC fun _ _ => ?_ | refine Ev.sc (by omega) ?_ | refine Ev.scg (by omega) ?_)
  refine Ev.bsC (P := Try.prog) (t := 94) (m := 2) (parts := [(0, cv), (1, cv2)]) (hS := hS3) (by decide) fun bb2 H3 hS4 => ?_
  obtain ⟨B3, hm3, ha3, hS5⟩ := hS4.flz (f := fun v : Value => v) (l := [cv, cv2]) (cap := 2) (Nat.le_refl _)
  have hc3 := hc2.mono hm3.mo
  have hd3 := hd2.mono hm3.mo
  have h1 := h1.mono hm3.mo
  clear hc2 hd2 hS2 hS3 hS4
  refine Ev.callD (ConcatC (k1 := cv) (k2 := cv2) (l1 := cs) (l2 := cs2) (by omega) (by omega)) fun v2 B4 H4 hm4 hS6 h2 => ?_
  have h1 := h1.mono hm4.mo
  clear hc3 hd3 ha3 hS5
  repeat (first | refine Ev.s ?_ | refine Ev.newC fun _ _ _ => ?_ | refine Ev.boxC fun _ _ _ => ?_ | refine Ev.stC fun _ _ => ?_ | refine Ev.sc (by omega) ?_ | refine Ev.scg (by omega) ?_)
  refine Ev.callD (SizeW_spec (lf := lf) (ks := xs ++ ks2) (cs := cs ++ cs2) (by simp only [List.length_append]; omega) (by simp only [List.length_append]; omega)) fun v3 B5 H5 hm5 hS7 h3 => ?_
  obtain ⟨z, rfl⟩ := h3
  have h1 := h1.mono hm5.mo
  have h2 := h2.mono hm5.mo
  by_cases hs : (120 : Int) < z
  · repeat (first | refine Ev.s ?_ | refine Ev.newC fun _ _ _ => ?_ | refine Ev.boxC fun _ _ _ => ?_ | refine Ev.stC fun _ _ => ?_ | refine Ev.sc (by omega) ?_ | refine Ev.scg (by omega) ?_)
    rw [decide_eq_true hs]
    repeat (first | refine Ev.s ?_ | refine Ev.newC fun _ _ _ => ?_ | refine Ev.boxC fun _ _ _ => ?_ | refine Ev.stC fun _ _ => ?_ | refine Ev.sc (by omega) ?_ | refine Ev.scg (by omega) ?_)
    exact Ev.doneC ⟨false, .slice none 0 0, .slice none 0 0, false, [], [], rfl, FL.nil, FL.nil, by simp, by simp⟩
  · repeat (first | refine Ev.s ?_ | refine Ev.newC fun _ _ _ => ?_ | refine Ev.boxC fun _ _ _ => ?_ | refine Ev.stC fun _ _ => ?_ | refine Ev.sc (by omega) ?_ | refine Ev.scg (by omega) ?_)
    rw [decide_eq_false hs]
    repeat (first | refine Ev.s ?_ | refine Ev.newC fun _ _ _ => ?_ | refine Ev.boxC fun _ _ _ => ?_ | refine Ev.stC fun _ _ => ?_ | refine Ev.sc (by omega) ?_ | refine Ev.scg (by omega) ?_)
    exact Ev.doneC ⟨lf, v1, v2, true, _, _, rfl, h1, h2, by simp only [List.length_append]; omega, by simp only [List.length_append]; omega⟩
theorem JoinW_spec {mid : List UInt8} [ha : FT B kv str ks] [hb : FT B cv i64v cs] [ha2 : FT B kv2 str ks2] [hb2 : FT B cv2 i64v cs2] (hlx : ks.length < 1000) (hlk2 : ks2.length < 1000) (hlc : cs.length < 1000) (hlc2 : cs2.length < 1000) (hL : Le B H) :
    Ev (fun k _ => rn k 31 [NdA lf kv cv, str mid, NdA lf kv2 cv2] H) (An B H AnyNd) := by
  refine Ev.fn (fun k => f31_eq k _ _ _ H) ?_
  have hS := St.start hL
  have ha := ha.fl
  have hb := hb.fl
  have ha2 := ha2.fl
  have hb2 := hb2.fl
  cases lf
  · repeat (first | refine Ev.s ?_ | refine Ev.newC fun _ _ _ => ?_ | refine Ev.boxC fun _ _ _ => ?_ | refine Ev.stC fun _ _ => ?_ | refine Ev.sc (by omega) ?_ | refine Ev.scg (by omega) ?_)
    rw [show (false != false) = false from rfl]
    repeat (first | refine Ev.s ?_ | refine Ev.newC fun _ _ _ => ?_ | refine Ev.boxC fun _ _ _ => ?_ | refine Ev.stC fun _ _ => ?_ | refine Ev.sc (by omega) ?_ | refine Ev.scg (by omega) ?_)
    try rw [Bool.not_false]
    repeat (first | refine Ev.s ?_ | refine Ev.newC fun _ _ _ => ?_ | refine Ev.boxC fun _ _ _ => ?_ | refine Ev.stC fun _ _ => ?_ | refine Ev.sc (by omega) ?_ | refine Ev.scg (by omega) ?_)
    refine Ev.bsC (P := Try.prog) (t := 22) (m := 1) (parts := [(0, str mid)]) (hS := by assumption) (by decide) fun bb H1 hS1 => ?_
    obtain ⟨B1, hm1, hx, hS2⟩ := hS1.flz (f := str) (l := [mid]) (cap := 1) (Nat.le_refl _)
    have ha1 := ha.mono hm1.mo
    have hb1 := hb.mono hm1.mo
    have ha21 := ha2.mono hm1.mo
    have hb21 := hb2.mono hm1.mo
    clear hS1 ha hb ha2 hb2
    refine Ev.callD (withS_spec (from_ := ks.length) (to_ := ks.length) (l := ks) (mo := [mid]) (by omega) (by simp) (by omega) (by omega)) fun v1 B2 H2 hm2 hS3 h1 => ?_
    rw [show ks.take ks.length ++ ([mid] ++ ks.drop ks.length) = ks ++ [mid] by simp] at h1
    have ha3 := ha1.mono hm2.mo
    have hb3 := hb1.mono hm2.mo
    have ha23 := ha21.mono hm2.mo
    have hb23 := hb21.mono hm2.mo
    clear ha1 hb1 ha21 hb21 hx
    exact join_tailW (xs := ks ++ [mid]) (ks2 := ks2) (cs := cs) (cs2 := cs2) rfl hS3 (by simp; omega) (by omega) (by omega) (by omega)
  · repeat (first | refine Ev.s ?_ | refine Ev.newC fun _ _ _ => ?_ | refine Ev.boxC fun _ _ _ => ?_ | refine Ev.stC fun _ _ => ?_ | refine Ev.sc (by omega) ?_ | refine Ev.scg (by omega) ?_)
    rw [show (true != true) = false from rfl]
    repeat (first | refine Ev.s ?_ | refine Ev.newC fun _ _ _ => ?_ | refine Ev.boxC fun _ _ _ => ?_ | refine Ev.stC fun _ _ => ?_ | refine Ev.sc (by omega) ?_ | refine Ev.scg (by omega) ?_)
    try rw [Bool.not_true]
    repeat (first | refine Ev.s ?_ | refine Ev.newC fun _ _ _ => ?_ | refine Ev.boxC fun _ _ _ => ?_ | refine Ev.stC fun _ _ => ?_ | refine Ev.sc (by omega) ?_ | refine Ev.scg (by omega) ?_)
    exact join_tailW (xs := ks) (ks2 := ks2) (cs := cs) (cs2 := cs2) rfl (by assumption) (by omega) (by omega) (by omega) (by omega)
theorem Join_diff {mid : List UInt8} [ha : FT B kv str ks] [hb : FT B cv i64v cs] [ha2 : FT B kv2 str ks2] [hb2 : FT B cv2 i64v cs2] (hne : lf ≠ lf2) (hL : Le B H) :
    Ev (fun k _ => rn k 31 [NdA lf kv cv, str mid, NdA lf2 kv2 cv2] H) (An B H fun _ v => v = .tuple #[NdA false (.slice none 0 0) (.slice none 0 0), .bool false]) := by
  refine Ev.fn (fun k => f31_eq k _ _ _ H) ?_
  have hS := St.start hL
  have ha := ha.fl
  have hb := hb.fl
  have ha2 := ha2.fl
  have hb2 := hb2.fl
  repeat (first | refine Ev.s ?_ | refine Ev.newC fun _ _ _ => ?_ | refine Ev.boxC fun _ _ _ => ?_ | refine Ev.stC fun _ _ => ?_ | refine Ev.sc (by omega) ?_ | refine Ev.scg (by omega) ?_)
  rw [show (lf != lf2) = true by cases lf <;> cases lf2 <;> first | rfl | exact absurd rfl hne]
  repeat (first | refine Ev.s ?_ | refine Ev.newC fun _ _ _ => ?_ | refine Ev.boxC fun _ _ _ => ?_ | refine Ev.stC fun _ _ => ?_ | refine Ev.sc (by omega) ?_ | refine Ev.scg (by omega) ?_)
  exact Ev.doneC rfl
theorem rJoin_diff {mid : List UInt8} [ha : FT B kv str ks] [hb : FT B cv i64v cs] [ha2 : FT B kv2 str ks2] [hb2 : FT B cv2 i64v cs2] (hne : lf ≠ lf2) (hL : Le B H) :
    Ev (fun k _ => rn k 33 [NdA lf kv cv, str mid, NdA lf2 kv2 cv2] H) (An B H fun _ v => v = .tuple #[NdA false (.slice none 0 0) (.slice none 0 0), .bool false]) := by
  refine Ev.fn (fun k => f33_eq k _ _ _ H) ?_
  have hS := St.start hL
  have ha := ha.fl
  have hb := hb.fl
  have ha2 := ha2.fl
  have hb2 := hb2.fl
  repeat (first | refine Ev.s ?_ | refine Ev.newC fun _ _ _ => ?_ | refine Ev.boxC fun _ _ _ => ?_ | refine Ev.stC fun _ _ => ?_ | refine Ev.sc (by omega) ?_ | refine Ev.scg (by omega) ?_)
  rw [show (lf != lf2) = true by cases lf <;> cases lf2 <;> first | rfl | exact absurd rfl hne]
  repeat (first | refine Ev.s ?_ | refine Ev.newC fun _ _ _ => ?_ | refine Ev.boxC fun _ _ _ => ?_ | refine Ev.stC fun _ _ => ?_ | refine Ev.sc (by omega) ?_ | refine Ev.scg (by omega) ?_)
  exact Ev.doneC rfl
theorem rSplit_small [ha : FT B kv str ks] [hb : FT B cv i64v cs] (h4 : ks.length < 4) (hL : Le B H) :
    Ev (fun k _ => rn k 32 [NdA lf kv cv] H) (An B H fun B' v => v = .tuple #[NdA false (.slice none 0 0) (.slice none 0 0), .string ⟨#[]⟩, NdA false (.slice none 0 0) (.slice none 0 0), .bool false]) := by
  refine Ev.fn (fun k => f32_eq k _ H) ?_
  have hS := St.start hL
  have ha := ha.fl
  have hb := hb.fl
  repeat (first | refine Ev.s ?_ | refine Ev.newC fun _ _ _ => ?_ | refine Ev.boxC fun _ _ _ => ?_ | refine Ev.stC fun _ _ => ?_ | refine Ev.sc (by omega) ?_ | refine Ev.scg (by omega) ?_)
  rw [decide_eq_true (by omega)]
  repeat (first | refine Ev.s ?_ | refine Ev.newC fun _ _ _ => ?_ | refine Ev.boxC fun _ _ _ => ?_ | refine Ev.stC fun _ _ => ?_ | refine Ev.sc (by omega) ?_ | refine Ev.scg (by omega) ?_)
  exact Ev.doneC rfl
end
end Go.AM.N
set_option linter.unusedVariables false
set_option linter.unusedSimpArgs false
set_option maxRecDepth 100000
namespace Go.AM.N
open Go Go.AM Go.Proofs
attribute [local irreducible] run bin un ld st box newV mkS fldA fld ixA ix slc slc3 build buildS cv cvS ap cpy lenV gOp pickV b2 aIf aChk evalK resume iterD Option.bind

abbrev XJ (bo b3 b2 b1 : Nat) (lf : Bool) (ov oc kv cv : Value) (lf2 : Bool) (kv2 cv2 : Value) : List (Nat × Blk) := [(bo, ⟨[.bool lf, ov, oc], TN, .fix⟩), (b3, ⟨[.bool false, .slice none 0 0, .slice none 0 0], TN, .fix⟩), (b2, ⟨[.bool lf2, kv2, cv2], TN, .fix⟩), (b1, ⟨[.bool lf, kv, cv], TN, .fix⟩)]
section
variable {B B0 H0 H : AH} {kv cv kv2 cv2 : Value} {ks ks2 : List (List UInt8)} {cs cs2 : List Int} {lf lf2 : Bool}
def JoinW (B' : AH) (v : Value) (n : Nd) : Prop := ∃ lf3 kv3 cv3, v = .tuple #[NdA lf3 kv3 cv3, .bool (decide (sizeN n ≤ 120))] ∧ ((sizeN n ≤ 120 ∧ lf3 = n.leaf ∧ FL B' kv3 str n.keys ∧ FL B' cv3 i64v n.kids) ∨ (¬ sizeN n ≤ 120 ∧ lf3 = false ∧ FL B' kv3 str [] ∧ FL B' cv3 i64v []))
theorem rjoin_J0 {bo b3 b2 b1 : Nat} {ov oc : Value} {Lk Lc : List (Nat × Blk)} {ko : List (List UInt8)} (hka : FL B kv str ks) (hca : FL B cv i64v cs) (hkb : FL B kv2 str ks2) (hcb : FL B cv2 i64v cs2) (hl1 : ko.length < 10000) (hl2 : ks2.length < 10000) (hl3 : cs.length < 10000) (hl4 : cs2.length < 10000)
    (hsz : sizeN ⟨lf, ko ++ ks2, cs ++ cs2⟩ < 4611686018427387904) (hk0 : GR 9 ov (ko.map str) Lk) (hc0 : GR 3 oc (([] : List Int).map i64v) Lc)
    (hS : St H0 B0 B ((bo, ⟨[.bool lf, ov, oc], TN, .fix⟩) :: (b3, ⟨[.bool false, .slice none 0 0, .slice none 0 0], TN, .fix⟩) :: (b2, ⟨[.bool lf2, kv2, cv2], TN, .fix⟩) :: (b1, ⟨[.bool lf, kv, cv], TN, .fix⟩) :: (Lk ++ Lc)) H) :
    Ev (fun k _ => f33_J0 k (ptr b1 0) (ptr b2 0) (ptr b3 0) (ptr bo 0) H) (An B0 H0 fun B' v => JoinW B' v ⟨lf, ko ++ ks2, cs ++ cs2⟩) := by
  refine Ev.eq (fun k _ => f33_J0_eq k _ _ _ _ _) ?_
  haveI := hk0.cell
  haveI := hc0.cell
  haveI := hka.sc.cell
  haveI := hca.sc.cell
  haveI := hkb.sc.cell
  haveI := hcb.sc.cell
  unfold JoinW
  repeat (first | refine Ev.s ?_ | refine Ev.newC fun _ _ _ => ?_ | refine Ev.boxC fun _ _ _ => ?_ | refine Ev.stC fun _ _ => ?_ | refine Ev.sc (by omega) ?_ | refine Ev.scg (by omega) ?_)
  refine Ev.apX (f := str) (La := Lk) (X := XJ bo b3 b2 b1 lf ov oc kv cv lf2 kv2 cv2 ++ Lc) Try.underlying22 (fun _ => rfl) hk0 hkb (hS.perm (permA (XJ bo b3 b2 b1 lf ov oc kv cv lf2 kv2 cv2) (Lk) (Lc))) (by (try simp only [List.length_append, List.length_cons, List.length_nil]); omega) fun v1 L1 B1 H1 hm1 hg1 hs1 => ?_
  haveI := hg1.cell
  have hT1 : St H0 B0 B1 ((bo, ⟨[.bool lf, ov, oc], TN, .fix⟩) :: (b3, ⟨[.bool false, .slice none 0 0, .slice none 0 0], TN, .fix⟩) :: (b2, ⟨[.bool lf2, kv2, cv2], TN, .fix⟩) :: (b1, ⟨[.bool lf, kv, cv], TN, .fix⟩) :: (L1 ++ Lc)) H1 := hs1.perm (permA (XJ bo b3 b2 b1 lf ov oc kv cv lf2 kv2 cv2) L1 (Lc)).symm
  have hka1 := hka.mono hm1.mo
  have hca1 := hca.mono hm1.mo
  have hkb1 := hkb.mono hm1.mo
  have hcb1 := hcb.mono hm1.mo
  clear hka hca hkb hcb hS hs1
  repeat (first | refine Ev.s ?_ | refine Ev.newC fun _ _ _ => ?_ | refine Ev.boxC fun _ _ _ => ?_ | refine Ev.stC fun _ _ => ?_ | refine Ev.sc (by omega) ?_ | refine Ev.scg (by omega) ?_)
  rename_i Hr1 hr1
  clear hT1
  refine Ev.apX (f := i64v) (La := Lc) (X := XJ bo b3 b2 b1 lf v1 oc kv cv lf2 kv2 cv2 ++ L1) Try.underlying23 (fun _ => rfl) hc0 hca1 (hr1.perm (permB (XJ bo b3 b2 b1 lf v1 oc kv cv lf2 kv2 cv2) (L1) (Lc))) (by (try simp only [List.length_append, List.length_cons, List.length_nil]); omega) fun v2 L2 B2 H2 hm2 hg2 hs2 => ?_
  haveI := hg2.cell
  have hT2 : St H0 B0 B2 ((bo, ⟨[.bool lf, v1, oc], TN, .fix⟩) :: (b3, ⟨[.bool false, .slice none 0 0, .slice none 0 0], TN, .fix⟩) :: (b2, ⟨[.bool lf2, kv2, cv2], TN, .fix⟩) :: (b1, ⟨[.bool lf, kv, cv], TN, .fix⟩) :: (L1 ++ L2)) H2 := hs2.perm (permB (XJ bo b3 b2 b1 lf v1 oc kv cv lf2 kv2 cv2) (L1) L2).symm
  have hka2 := hka1.mono hm2.mo
  have hca2 := hca1.mono hm2.mo
  have hkb2 := hkb1.mono hm2.mo
  have hcb2 := hcb1.mono hm2.mo
  clear hka1 hca1 hkb1 hcb1 hr1 hs2
  repeat (first | refine Ev.s ?_ | refine Ev.newC fun _ _ _ => ?_ | refine Ev.boxC fun _ _ _ => ?_ | refine Ev.stC fun _ _ => ?_ | refine Ev.sc (by omega) ?_ | refine Ev.scg (by omega) ?_)
  rename_i Hr2 hr2
  clear hT2
  refine Ev.apX (f := i64v) (La := L2) (X := XJ bo b3 b2 b1 lf v1 v2 kv cv lf2 kv2 cv2 ++ L1) Try.underlying23 (fun _ => rfl) hg2 hcb2 (hr2.perm (permB (XJ bo b3 b2 b1 lf v1 v2 kv cv lf2 kv2 cv2) (L1) (L2))) (by (try simp only [List.length_append, List.length_cons, List.length_nil]); omega) fun v3 L3 B3 H3 hm3 hg3 hs3 => ?_
  haveI := hg3.cell
  have hT3 : St H0 B0 B3 ((bo, ⟨[.bool lf, v1, v2], TN, .fix⟩) :: (b3, ⟨[.bool false, .slice none 0 0, .slice none 0 0], TN, .fix⟩) :: (b2, ⟨[.bool lf2, kv2, cv2], TN, .fix⟩) :: (b1, ⟨[.bool lf, kv, cv], TN, .fix⟩) :: (L1 ++ L3)) H3 := hs3.perm (permB (XJ bo b3 b2 b1 lf v1 v2 kv cv lf2 kv2 cv2) (L1) L3).symm
  have hka3 := hka2.mono hm3.mo
  have hca3 := hca2.mono hm3.mo
  have hkb3 := hkb2.mono hm3.mo
  have hcb3 := hcb2.mono hm3.mo
  clear hka2 hca2 hkb2 hcb2 hr2 hs3
  repeat (first | refine Ev.s ?_ | refine Ev.newC fun _ _ _ => ?_ | refine Ev.boxC fun _ _ _ => ?_ | refine Ev.stC fun _ _ => ?_ | refine Ev.sc (by omega) ?_ | refine Ev.scg (by omega) ?_)
  rename_i Hr3 hr3
  clear hT3
  obtain ⟨B4, hm4, h1, hS4⟩ := (hg1.acc (hr3.perm (permA (XJ bo b3 b2 b1 lf v1 v3 kv cv lf2 kv2 cv2) L1 L3))).fl
  obtain ⟨B5, hm5, h2, hS5⟩ := (hg3.acc (hS4.perm (by
    have := permB (XJ bo b3 b2 b1 lf v1 v3 kv cv lf2 kv2 cv2) [] L3
    simpa using this))).fl
  have h1 := h1.mono hm5.mo
  rw [List.nil_append] at h2
  have hS6 : St H0 B0 B5 [(bo, ⟨[.bool lf, v1, v3], TN, .fix⟩), (b3, ⟨[.bool false, .slice none 0 0, .slice none 0 0], TN, .fix⟩), (b2, ⟨[.bool lf2, kv2, cv2], TN, .fix⟩), (b1, ⟨[.bool lf, kv, cv], TN, .fix⟩)] Hr3 := hS5
  clear hr3 hS4 hS5 hka3 hca3 hkb3 hcb3
  repeat (first | refine Ev.s ?_ | refine Ev.newC fun _ _ _ => ?_ | refine Ev.boxC fun _ _ _ => ?_ | refine Ev.stC fun _ _ => ?_ | refine Ev.sc (by omega) ?_ | refine Ev.scg (by omega) ?_)
  refine Ev.callD (rSize_spec (lf := lf) (ks := ko ++ ks2) (cs := cs ++ cs2) hsz) fun v7 B7 H7 hm7 hS7 h7 => ?_
  subst h7
  have h1 := h1.mono hm7.mo
  have h2 := h2.mono hm7.mo
  clear hS6
  by_cases hs : sizeN ⟨lf, ko ++ ks2, cs ++ cs2⟩ ≤ 120
  · repeat (first | refine Ev.s ?_ | refine Ev.newC fun _ _ _ => ?_ | refine Ev.boxC fun _ _ _ => ?_ | refine Ev.stC fun _ _ => ?_ | refine Ev.sc (by omega) ?_ | refine Ev.scg (by omega) ?_)
    rw [decide_eq_false (by omega)]
    repeat (first | refine Ev.s ?_ | refine Ev.newC fun _ _ _ => ?_ | refine Ev.boxC fun _ _ _ => ?_ | refine Ev.stC fun _ _ => ?_ | refine Ev.sc (by omega) ?_ | refine Ev.scg (by omega) ?_)
    exact Ev.doneC ⟨lf, v1, v3, by rw [decide_eq_true hs]; rfl, .inl ⟨hs, rfl, h1, h2⟩⟩
  · repeat (first | refine Ev.s ?_ | refine Ev.newC fun _ _ _ => ?_ | refine Ev.boxC fun _ _ _ => ?_ | refine Ev.stC fun _ _ => ?_ | refine Ev.sc (by omega) ?_ | refine Ev.scg (by omega) ?_)
    rw [decide_eq_true (by omega)]
    repeat (first | refine Ev.s ?_ | refine Ev.newC fun _ _ _ => ?_ | refine Ev.boxC fun _ _ _ => ?_ | refine Ev.stC fun _ _ => ?_ | refine Ev.sc (by omega) ?_ | refine Ev.scg (by omega) ?_)
    exact Ev.doneC ⟨false, .slice none 0 0, .slice none 0 0, by rw [decide_eq_false hs]; rfl, .inr ⟨hs, rfl, FL.nil, FL.nil⟩⟩
theorem rJoin_spec {mid : List UInt8} {xs : List (List UInt8)} (hxs : xs = ks ++ (if lf then [] else [mid])) [ha : FT B kv str ks] [hb : FT B cv i64v cs] [ha2 : FT B kv2 str ks2] [hb2 : FT B cv2 i64v cs2] (hlx : ks.length < 1000) (hlk2 : ks2.length < 10000) (hlc : cs.length < 10000) (hlc2 : cs2.length < 10000)
    (hsz : sizeN ⟨lf, xs ++ ks2, cs ++ cs2⟩ < 4611686018427387904) (hlf : lf = lf2) (hL : Le B H) :
    Ev (fun k _ => rn k 33 [NdA lf kv cv, str mid, NdA lf2 kv2 cv2] H) (An B H fun B' v => JoinW B' v ⟨lf, xs ++ ks2, cs ++ cs2⟩) := by
  refine Ev.fn (fun k => f33_eq k _ _ _ H) ?_
  have hS := St.start hL
  have hka := ha.fl
  have hca := hb.fl
  have hkb := ha2.fl
  have hcb := hb2.fl
  clear ha hb ha2 hb2
  haveI := hka.sc.cell
  haveI := hca.sc.cell
  haveI := hkb.sc.cell
  haveI := hcb.sc.cell
  generalize hB0 : B = B0 at *
  generalize hH0 : H = H0 at *
  have hlb : (lf != lf2) = false := by subst hlf; cases lf <;> rfl
  refine Ev.boxC fun b1 H1 hS1 => ?_
  refine Ev.boxC fun b2 H2 hS2 => ?_
  refine Ev.newC fun b3 H3 hS3 => ?_
  clear hS hS1 hS2
  repeat refine Ev.s ?_
  rw [hlb]
  repeat refine Ev.s ?_
  refine Ev.newC fun bo H4 hS4 => ?_
  refine Ev.stC fun H5 hS5 => ?_
  clear hS3 hS4
  repeat (first | refine Ev.s ?_ | refine Ev.newC fun _ _ _ => ?_ | refine Ev.boxC fun _ _ _ => ?_ | refine Ev.stC fun _ _ => ?_ | refine Ev.sc (by omega) ?_ | refine Ev.scg (by omega) ?_)
  refine Ev.apX (f := str) (ks := ([] : List (List UInt8))) (La := []) (X := XJ bo b3 b2 b1 lf (.slice none 0 0) (.slice none 0 0) kv cv lf2 kv2 cv2 ++ []) Try.underlying22 (fun _ => rfl) (GR.nil : GR 9 (.slice none 0 0) (([] : List (List UInt8)).map str) []) hka (hS5.perm (permA (XJ bo b3 b2 b1 lf (.slice none 0 0) (.slice none 0 0) kv cv lf2 kv2 cv2) ([]) ([]))) (by (try simp only [List.length_append, List.length_cons, List.length_nil]); omega) fun v1 L1 B1 H1 hm1 hg1 hs1 => ?_
  haveI := hg1.cell
  have hT1 : St H0 B0 B1 ((bo, ⟨[.bool lf, (.slice none 0 0), (.slice none 0 0)], TN, .fix⟩) :: (b3, ⟨[.bool false, .slice none 0 0, .slice none 0 0], TN, .fix⟩) :: (b2, ⟨[.bool lf2, kv2, cv2], TN, .fix⟩) :: (b1, ⟨[.bool lf, kv, cv], TN, .fix⟩) :: (L1 ++ [])) H1 := hs1.perm (permA (XJ bo b3 b2 b1 lf (.slice none 0 0) (.slice none 0 0) kv cv lf2 kv2 cv2) L1 ([])).symm
  have hka1 := hka.mono hm1.mo
  have hca1 := hca.mono hm1.mo
  have hkb1 := hkb.mono hm1.mo
  have hcb1 := hcb.mono hm1.mo
  clear hka hca hkb hcb hS5 hs1
  repeat (first | refine Ev.s ?_ | refine Ev.newC fun _ _ _ => ?_ | refine Ev.boxC fun _ _ _ => ?_ | refine Ev.stC fun _ _ => ?_ | refine Ev.sc (by omega) ?_ | refine Ev.scg (by omega) ?_)
  rename_i Hr1 hr1
  clear hT1
  cases lf
  · try rw [Bool.not_false]
    repeat (first | refine Ev.s ?_ | refine Ev.newC fun _ _ _ => ?_ | refine Ev.boxC fun _ _ _ => ?_ | refine Ev.stC fun _ _ => ?_ | refine Ev.sc (by omega) ?_ | refine Ev.scg (by omega) ?_)
    refine Ev.pushX (f := str) (x := mid) (La := L1) (X := XJ bo b3 b2 b1 false v1 (.slice none 0 0) kv cv lf2 kv2 cv2 ++ []) rfl rfl hg1 (hr1.perm (permA (XJ bo b3 b2 b1 false v1 (.slice none 0 0) kv cv lf2 kv2 cv2) (L1) ([]))) (by (try simp only [List.length_append, List.length_cons, List.length_nil]); omega) fun v2 L2 B2 H2 hm2 hg2 hs2 => ?_
    haveI := hg2.cell
    have hT2 : St H0 B0 B2 ((bo, ⟨[.bool false, v1, (.slice none 0 0)], TN, .fix⟩) :: (b3, ⟨[.bool false, .slice none 0 0, .slice none 0 0], TN, .fix⟩) :: (b2, ⟨[.bool lf2, kv2, cv2], TN, .fix⟩) :: (b1, ⟨[.bool false, kv, cv], TN, .fix⟩) :: (L2 ++ [])) H2 := hs2.perm (permA (XJ bo b3 b2 b1 false v1 (.slice none 0 0) kv cv lf2 kv2 cv2) L2 ([])).symm
    have hka2 := hka1.mono hm2.mo
    have hca2 := hca1.mono hm2.mo
    have hkb2 := hkb1.mono hm2.mo
    have hcb2 := hcb1.mono hm2.mo
    clear hka1 hca1 hkb1 hcb1 hr1 hs2
    repeat (first | refine Ev.s ?_ | refine Ev.newC fun _ _ _ => ?_ | refine Ev.boxC fun _ _ _ => ?_ | refine Ev.stC fun _ _ => ?_ | refine Ev.sc (by omega) ?_ | refine Ev.scg (by omega) ?_)
    rename_i Hr2 hr2
    clear hT2
    rw [if_neg (by simp)] at hxs
    exact rjoin_J0 (ko := xs) hka2 hca2 hkb2 hcb2 (by rw [hxs]; simp; omega) (by omega) (by omega) (by omega) hsz (by rw [hxs]; exact hg2) (GR.nil) hr2
  · try rw [Bool.not_true]
    repeat (first | refine Ev.s ?_ | refine Ev.newC fun _ _ _ => ?_ | refine Ev.boxC fun _ _ _ => ?_ | refine Ev.stC fun _ _ => ?_ | refine Ev.sc (by omega) ?_ | refine Ev.scg (by omega) ?_)
    rw [if_pos rfl, List.append_nil] at hxs
    exact rjoin_J0 (ko := xs) hka1 hca1 hkb1 hcb1 (by rw [hxs]; omega) (by omega) (by omega) (by omega) hsz (by rw [hxs]; exact hg1) (GR.nil) hr1
end
end Go.AM.N
set_option linter.unusedVariables false
set_option linter.unusedSimpArgs false
set_option maxRecDepth 100000
namespace Go.AM.N
open Go Go.AM Go.Proofs
attribute [local irreducible] run bin un ld st box newV mkS fldA fld ixA ix slc slc3 build buildS cv cvS ap cpy lenV gOp pickV b2 aIf aChk evalK resume iterD Option.bind

def spH (n : Nd) : Nat := n.keys.length / 2 + (if n.leaf then 0 else 1)
def spA (n : Nd) : Nd := if n.keys.length < 4 then ⟨false, [], []⟩ else ⟨n.leaf, n.keys.take (n.keys.length / 2), n.kids.take (min (spH n) n.kids.length)⟩
def spB (n : Nd) : Nd := if n.keys.length < 4 then ⟨false, [], []⟩ else ⟨n.leaf, n.keys.drop (spH n), n.kids.drop (min (spH n) n.kids.length)⟩
def spM (n : Nd) : List UInt8 := if n.keys.length < 4 then [] else (n.keys[n.keys.length / 2]?).getD []
def spG (n : Nd) : Bool := !decide (n.keys.length < 4)
def joC (n : Nd) (x : List UInt8) (m : Nd) : Nd := ⟨n.leaf, n.keys ++ (if n.leaf then [] else [x]) ++ m.keys, n.kids ++ m.kids⟩
def joG (n : Nd) (x : List UInt8) (m : Nd) : Bool := n.leaf == m.leaf && decide (sizeN (joC n x m) ≤ 120)
def joA (n : Nd) (x : List UInt8) (m : Nd) : Nd := if joG n x m then joC n x m else ⟨false, [], []⟩
def SplitU (n : Nd) (B : AH) (v : Value) : Prop := ∃ ka ca kb cb, v = .tuple #[NdA (spA n).leaf ka ca, str (spM n), NdA (spB n).leaf kb cb, .bool (spG n)] ∧ FL B ka str (spA n).keys ∧ FL B ca i64v (spA n).kids ∧ FL B kb str (spB n).keys ∧ FL B cb i64v (spB n).kids
def JoinU (n : Nd) (x : List UInt8) (m : Nd) (B : AH) (v : Value) : Prop := ∃ ka ca, v = .tuple #[NdA (joA n x m).leaf ka ca, .bool (joG n x m)] ∧ FL B ka str (joA n x m).keys ∧ FL B ca i64v (joA n x m).kids
section
variable {B B0 H0 H : AH} {kv cv kv2 cv2 : Value} {ks ks2 : List (List UInt8)} {cs cs2 : List Int} {lf lf2 : Bool}
theorem splitU_of {v : Value} {mid : List UInt8} (h4 : ¬ ks.length < 4) (hmid : ks[ks.length / 2]? = some mid) (h : SplitW B v lf ks cs (ks.length / 2) (if lf then 0 else 1) mid) : SplitU ⟨lf, ks, cs⟩ B v := by
  obtain ⟨ak, ac, bk, bc, rfl, h1, h2, h3, h5⟩ := h
  refine ⟨ak, ac, bk, bc, ?_, ?_, ?_, ?_, ?_⟩
  · unfold spA spB spM spG
    simp only [if_neg h4, hmid, Option.getD_some, decide_eq_false h4, Bool.not_false]
  · unfold spA; rw [if_neg h4]; exact h1
  · unfold spA; rw [if_neg h4]; exact h2
  · unfold spB; rw [if_neg h4]; exact h3
  · unfold spB; rw [if_neg h4]; exact h5
theorem splitU_small {v : Value} (h4 : ks.length < 4) (h : v = .tuple #[NdA false (.slice none 0 0) (.slice none 0 0), .string ⟨#[]⟩, NdA false (.slice none 0 0) (.slice none 0 0), .bool false]) : SplitU ⟨lf, ks, cs⟩ B v := by
  subst h
  refine ⟨.slice none 0 0, .slice none 0 0, .slice none 0 0, .slice none 0 0, ?_, ?_, ?_, ?_, ?_⟩
  · unfold spA spB spM spG
    simp only [if_pos h4, decide_eq_true h4, Bool.not_true]
    try rfl
  · unfold spA; rw [if_pos h4]; exact FL.nil
  · unfold spA; rw [if_pos h4]; exact FL.nil
  · unfold spB; rw [if_pos h4]; exact FL.nil
  · unfold spB; rw [if_pos h4]; exact FL.nil
theorem SplitU_spec [ha : FT B kv str ks] [hb : FT B cv i64v cs] (hlk : ks.length < 100000000) (hlc : cs.length < 100000000) (hL : Le B H) :
    Ev (fun k _ => rn k 30 [NdA lf kv cv] H) (An B H (SplitU ⟨lf, ks, cs⟩)) := by
  by_cases h4 : ks.length < 4
  · exact An.imp (Split_small (lf := lf) (ks := ks) (cs := cs) h4 hL) fun B' v h => splitU_small h4 h
  · obtain ⟨mid, hmid⟩ := get_ex (l := ks) (i := ks.length / 2) (by omega)
    exact An.imp (Split_spec (lf := lf) (ks := ks) (cs := cs) (by omega) hmid hlk hlc hL) fun B' v h => splitU_of h4 hmid h
theorem rSplitU_spec [ha : FT B kv str ks] [hb : FT B cv i64v cs] (hlk : ks.length < 100000000) (hlc : cs.length = ks.length + (if lf then 0 else 1)) (hL : Le B H) :
    Ev (fun k _ => rn k 32 [NdA lf kv cv] H) (An B H (SplitU ⟨lf, ks, cs⟩)) := by
  by_cases h4 : ks.length < 4
  · exact An.imp (rSplit_small (lf := lf) (ks := ks) (cs := cs) h4 hL) fun B' v h => splitU_small h4 h
  · obtain ⟨mid, hmid⟩ := get_ex (l := ks) (i := ks.length / 2) (by omega)
    exact An.imp (rSplit_spec (lf := lf) (ks := ks) (cs := cs) (by omega) hmid hlk hlc hL) fun B' v h => splitU_of h4 hmid h
theorem joinU_diff {v : Value} {x : List UInt8} (hne : lf ≠ lf2) (h : v = .tuple #[NdA false (.slice none 0 0) (.slice none 0 0), .bool false]) : JoinU ⟨lf, ks, cs⟩ x ⟨lf2, ks2, cs2⟩ B v := by
  have hg : joG ⟨lf, ks, cs⟩ x ⟨lf2, ks2, cs2⟩ = false := by
    unfold joG
    rw [show ((⟨lf, ks, cs⟩ : Nd).leaf == (⟨lf2, ks2, cs2⟩ : Nd).leaf) = false by cases lf <;> cases lf2 <;> first | rfl | exact absurd rfl hne]
    rfl
  subst h
  refine ⟨.slice none 0 0, .slice none 0 0, ?_, ?_, ?_⟩
  · unfold joA; rw [hg]; rfl
  · unfold joA; rw [hg]; exact FL.nil
  · unfold joA; rw [hg]; exact FL.nil
theorem joinU_of {v : Value} {x : List UInt8} (h : ∃ lf3 kv3 cv3, v = .tuple #[NdA lf3 kv3 cv3, .bool (decide (sizeN (joC ⟨lf, ks, cs⟩ x ⟨lf, ks2, cs2⟩) ≤ 120))] ∧ ((sizeN (joC ⟨lf, ks, cs⟩ x ⟨lf, ks2, cs2⟩) ≤ 120 ∧ lf3 = lf ∧ FL B kv3 str (joC ⟨lf, ks, cs⟩ x ⟨lf, ks2, cs2⟩).keys ∧ FL B cv3 i64v (joC ⟨lf, ks, cs⟩ x ⟨lf, ks2, cs2⟩).kids) ∨ (¬ sizeN (joC ⟨lf, ks, cs⟩ x ⟨lf, ks2, cs2⟩) ≤ 120 ∧ lf3 = false ∧ FL B kv3 str [] ∧ FL B cv3 i64v []))) : JoinU ⟨lf, ks, cs⟩ x ⟨lf, ks2, cs2⟩ B v := by
  obtain ⟨lf3, kv3, cv3, rfl, h⟩ := h
  have hg : joG ⟨lf, ks, cs⟩ x ⟨lf, ks2, cs2⟩ = decide (sizeN (joC ⟨lf, ks, cs⟩ x ⟨lf, ks2, cs2⟩) ≤ 120) := by
    unfold joG
    rw [show ((⟨lf, ks, cs⟩ : Nd).leaf == (⟨lf, ks2, cs2⟩ : Nd).leaf) = true by cases lf <;> rfl, Bool.true_and]
  unfold JoinU
  unfold joA
  rcases h with ⟨hs, rfl, h1, h2⟩ | ⟨hs, rfl, h1, h2⟩
  · rw [hg, decide_eq_true hs]
    exact ⟨kv3, cv3, rfl, h1, h2⟩
  · rw [hg, decide_eq_false hs]
    exact ⟨kv3, cv3, rfl, h1, h2⟩
theorem JoinU_spec {x : List UInt8} [ha : FT B kv str ks] [hb : FT B cv i64v cs] [ha2 : FT B kv2 str ks2] [hb2 : FT B cv2 i64v cs2] (hlx : ks.length < 1000) (hlk2 : ks2.length < 1000) (hlc : cs.length < 1000) (hlc2 : cs2.length < 1000) (hsz : sizeN (joC ⟨lf, ks, cs⟩ x ⟨lf2, ks2, cs2⟩) < 4611686018427387904) (hL : Le B H) :
    Ev (fun k _ => rn k 31 [NdA lf kv cv, str x, NdA lf2 kv2 cv2] H) (An B H (JoinU ⟨lf, ks, cs⟩ x ⟨lf2, ks2, cs2⟩)) := by
  by_cases h : lf = lf2
  · subst h
    exact An.imp (Join_spec (lf := lf) (mid := x) (ks := ks) (ks2 := ks2) (cs := cs) (cs2 := cs2) rfl (by omega) (by omega) (by omega) (by omega) hsz hL) fun B' v h => joinU_of h
  · exact An.imp (Join_diff (mid := x) (ks := ks) (ks2 := ks2) (cs := cs) (cs2 := cs2) h hL) fun B' v hv => joinU_diff h hv
theorem rJoinU_spec {x : List UInt8} [ha : FT B kv str ks] [hb : FT B cv i64v cs] [ha2 : FT B kv2 str ks2] [hb2 : FT B cv2 i64v cs2] (hlx : ks.length < 1000) (hlk2 : ks2.length < 1000) (hlc : cs.length < 1000) (hlc2 : cs2.length < 1000) (hsz : sizeN (joC ⟨lf, ks, cs⟩ x ⟨lf2, ks2, cs2⟩) < 4611686018427387904) (hL : Le B H) :
    Ev (fun k _ => rn k 33 [NdA lf kv cv, str x, NdA lf2 kv2 cv2] H) (An B H (JoinU ⟨lf, ks, cs⟩ x ⟨lf2, ks2, cs2⟩)) := by
  by_cases h : lf = lf2
  · subst h
    exact An.imp (rJoin_spec (lf := lf) (lf2 := lf) (mid := x) (ks := ks) (ks2 := ks2) (cs := cs) (cs2 := cs2) rfl (by omega) (by omega) (by omega) (by omega) hsz rfl hL) fun B' v h => joinU_of h
  · exact An.imp (rJoin_diff (mid := x) (ks := ks) (ks2 := ks2) (cs := cs) (cs2 := cs2) h hL) fun B' v hv => joinU_diff h hv
theorem JoinAny_spec {x : List UInt8} [ha : FT B kv str ks] [hb : FT B cv i64v cs] [ha2 : FT B kv2 str ks2] [hb2 : FT B cv2 i64v cs2] (hlx : ks.length < 1000) (hlk2 : ks2.length < 1000) (hlc : cs.length < 1000) (hlc2 : cs2.length < 1000) (hL : Le B H) :
    Ev (fun k _ => rn k 31 [NdA lf kv cv, str x, NdA lf2 kv2 cv2] H) (An B H AnyNd) := by
  by_cases h : lf = lf2
  · subst h
    exact JoinW_spec (lf := lf) (mid := x) (ks := ks) (ks2 := ks2) (cs := cs) (cs2 := cs2) (by omega) (by omega) (by omega) (by omega) hL
  · exact An.imp (Join_diff (mid := x) (ks := ks) (ks2 := ks2) (cs := cs) (cs2 := cs2) h hL) fun B' v hv => ⟨false, _, _, false, [], [], hv, FL.nil, FL.nil, by simp, by simp⟩
end
end Go.AM.N
set_option linter.unusedVariables false
set_option linter.unusedSimpArgs false
set_option maxRecDepth 100000
namespace Go.AM.N
open Go Go.AM Go.Proofs
attribute [local irreducible] run bin un ld st box newV mkS fldA fld ixA ix slc slc3 build buildS cv cvS ap cpy lenV gOp pickV b2 aIf aChk evalK resume iterD Option.bind

instance {a b c d : Value} : PrimEq (Go.AM.ext (.tuple #[a, b, c, d]) 3) d := ⟨rfl⟩
theorem sumK_appP : ∀ (a b : List (List UInt8)), sumK (a ++ b) = sumK a + sumK b
  | [], b => by simp [sumK]
  | k :: r, b => by
    have := sumK_appP r b
    simp only [List.cons_append, sumK, this]
    omega
theorem sumK_boundP : ∀ (ks : List (List UInt8)), (∀ k ∈ ks, k.length ≤ 1048576) → sumK ks ≤ ks.length * 1048577
  | [], _ => Nat.le_refl _
  | k :: r, h => by
    have h1 := h k (by simp)
    have h2 := sumK_boundP r fun k hk => h k (by simp [hk])
    simp only [sumK, List.length_cons]
    omega
theorem plain_facts {n : Nd} (h : plainN n = true) : n.kids.length = n.keys.length + (if n.leaf then 0 else 1) ∧ sumK n.keys ≤ n.keys.length * 1048577 := by
  unfold plainN at h
  rw [Bool.and_eq_true, Bool.and_eq_true, decide_eq_true_eq] at h
  exact ⟨h.1.1, sumK_boundP _ fun k hk => by have := (incr_all _ _ h.1.2 k hk).2; omega⟩
theorem joC_size {n m : Nd} {x : List UInt8} (h1 : sumK n.keys ≤ n.keys.length * 1048577) (h2 : sumK m.keys ≤ m.keys.length * 1048577) (h3 : n.keys.length ≤ 12) (h4 : m.keys.length ≤ 12) (h5 : n.kids.length ≤ 13) (h6 : m.kids.length ≤ 13) (hx : x.length ≤ 140737488355328) : sizeN (joC n x m) < 4611686018427387904 := by
  unfold sizeN joC
  simp only [sumK_appP, List.length_append]
  have : sumK (if n.leaf then [] else [x]) ≤ 1 + x.length := by
    split
    · simp [sumK]
    · simp only [sumK]; omega
  omega
section
variable {B B0 H0 H : AH}
theorem parts_law {lf lf' : Bool} {kv cv kv' cv' : Value} {ks0 ks0' : List (List UInt8)} {cs0 cs0' : List Int} {x : List UInt8} (hx : x.length ≤ 140737488355328) (hk : FL B kv str ks0) (hc : FL B cv i64v cs0) (hd : FL B kv' str ks0') (he : FL B cv' i64v cs0') (hL : Le B H) :
    Ev (fun k _ => rn k 8 [NdA lf kv cv, NdA lf' kv' cv', str x] H) (An B H fun _ v => v = .bool true) := by
  refine Ev.fn (fun k => f8_eq k _ _ _ H) ?_
  have hS := St.start hL
  refine Ev.boxC fun b1 H0' hS0 => ?_
  refine Ev.boxC fun b2 H0'' hS00 => ?_
  clear hS hS0
  refine Ev.callD (examples_nspec) fun v5 B5 H5 hm5 hS5 h5 => ?_
  subst h5
  have hk := hk.mono hm5.mo
  have hc := hc.mono hm5.mo
  have hd := hd.mono hm5.mo
  have he := he.mono hm5.mo
  repeat (first | refine Ev.s ?_ | refine Ev.newC fun _ _ _ => ?_ | refine Ev.boxC fun _ _ _ => ?_ | refine Ev.stC fun _ _ => ?_ | refine Ev.sc (by omega) ?_ | refine Ev.scg (by omega) ?_)
  refine Ev.callD (few_spec (lf := lf) (ks := ks0) (cs := cs0)) fun v6 B6 H6 hm6 hS6 h6 => ?_
  have hf1 : (fewN ⟨lf, ks0, cs0⟩).keys.length ≤ 12 := List.length_take_le 12 ks0
  have hf2 : (fewN ⟨lf, ks0, cs0⟩).kids.length ≤ 13 := List.length_take_le 13 cs0
  generalize fewN ⟨lf, ks0, cs0⟩ = n1 at *
  obtain ⟨lf1, ks1, cs1⟩ := n1
  obtain ⟨kv1, cv1, rfl, hk1, hc1⟩ := h6
  simp only at hk1 hc1 hf1 hf2
  have hk := hk.mono hm6.mo
  have hc := hc.mono hm6.mo
  have hd := hd.mono hm6.mo
  have he := he.mono hm6.mo
  repeat (first | refine Ev.s ?_ | refine Ev.newC fun _ _ _ => ?_ | refine Ev.boxC fun _ _ _ => ?_ | refine Ev.stC fun _ _ => ?_ | refine Ev.sc (by omega) ?_ | refine Ev.scg (by omega) ?_)
  refine Ev.callD (few_spec (lf := lf') (ks := ks0') (cs := cs0')) fun v7 B7 H7 hm7 hS7 h7 => ?_
  have hf3 : (fewN ⟨lf', ks0', cs0'⟩).keys.length ≤ 12 := List.length_take_le 12 ks0'
  have hf4 : (fewN ⟨lf', ks0', cs0'⟩).kids.length ≤ 13 := List.length_take_le 13 cs0'
  generalize fewN ⟨lf', ks0', cs0'⟩ = n2 at *
  obtain ⟨lf2, ks2, cs2⟩ := n2
  obtain ⟨kv2, cv2, rfl, hk2, hc2⟩ := h7
  simp only at hk2 hc2 hf3 hf4
  clear hd he
  have hk1 := hk1.mono hm7.mo
  have hc1 := hc1.mono hm7.mo
  repeat (first | refine Ev.s ?_ | refine Ev.newC fun _ _ _ => ?_ | refine Ev.boxC fun _ _ _ => ?_ | refine Ev.stC fun _ _ => ?_ | refine Ev.sc (by omega) ?_ | refine Ev.scg (by omega) ?_)
  refine Ev.callD (SplitU_spec (lf := lf1) (ks := ks1) (cs := cs1) (by omega) (by omega)) fun v8 B8 H8 hm8 hS8 h8 => ?_
  obtain ⟨ak, ac, bk, bc, rfl, hak, hac, hbk, hbc⟩ := h8
  have hlA : (spA ⟨lf1, ks1, cs1⟩).keys.length ≤ 12 ∧ (spA ⟨lf1, ks1, cs1⟩).kids.length ≤ 13 ∧ (spB ⟨lf1, ks1, cs1⟩).keys.length ≤ 12 ∧ (spB ⟨lf1, ks1, cs1⟩).kids.length ≤ 13 := by
    unfold spA spB
    split
    · exact ⟨by simp, by simp, by simp, by simp⟩
    · simp only [List.length_take, List.length_drop]
      omega
  have hk1 := hk1.mono hm8.mo
  have hc1 := hc1.mono hm8.mo
  have hk2 := hk2.mono hm8.mo
  have hc2 := hc2.mono hm8.mo
  repeat (first | refine Ev.s ?_ | refine Ev.newC fun _ _ _ => ?_ | refine Ev.boxC fun _ _ _ => ?_ | refine Ev.stC fun _ _ => ?_ | refine Ev.sc (by omega) ?_ | refine Ev.scg (by omega) ?_)
  cases hpx : plainN ⟨lf1, ks1, cs1⟩ <;> cases hpy : plainN ⟨lf2, ks2, cs2⟩
  · -- plain: false false
    refine Ev.callD (JoinAny_spec (x := x) (lf := lf1) (ks := ks1) (cs := cs1) (lf2 := lf2) (ks2 := ks2) (cs2 := cs2) (by omega) (by omega) (by omega) (by omega)) fun v9 B9 H9 hm9 hS9 h9 => ?_
    obtain ⟨ul, uk, uc, ug, uks, ucs, rfl, huk, huc, _, _⟩ := h9
    have hk1 := hk1.mono hm9.mo
    have hc1 := hc1.mono hm9.mo
    have hk2 := hk2.mono hm9.mo
    have hc2 := hc2.mono hm9.mo
    have hak := hak.mono hm9.mo
    have hac := hac.mono hm9.mo
    have hbk := hbk.mono hm9.mo
    have hbc := hbc.mono hm9.mo
    repeat (first | refine Ev.s ?_ | refine Ev.newC fun _ _ _ => ?_ | refine Ev.boxC fun _ _ _ => ?_ | refine Ev.stC fun _ _ => ?_ | refine Ev.sc (by omega) ?_ | refine Ev.scg (by omega) ?_)
    refine Ev.callD (ref_spec (lf := lf1) (ks := ks1) (cs := cs1)) fun v10 B10 H10 hm10 hS10 h10 => ?_
    subst h10
    have hk1 := hk1.mono hm10.mo
    have hc1 := hc1.mono hm10.mo
    have hk2 := hk2.mono hm10.mo
    have hc2 := hc2.mono hm10.mo
    have hak := hak.mono hm10.mo
    have hac := hac.mono hm10.mo
    have hbk := hbk.mono hm10.mo
    have hbc := hbc.mono hm10.mo
    have huk := huk.mono hm10.mo
    have huc := huc.mono hm10.mo
    repeat (first | refine Ev.s ?_ | refine Ev.newC fun _ _ _ => ?_ | refine Ev.boxC fun _ _ _ => ?_ | refine Ev.stC fun _ _ => ?_ | refine Ev.sc (by omega) ?_ | refine Ev.scg (by omega) ?_)
    refine Ev.callD (Plain_spec (lf := lf1) (ks := ks1) (cs := cs1) (by omega) (by omega)) fun v11 B11 H11 hm11 hS11 h11 => ?_
    rw [hpx] at h11
    subst h11
    have hk1 := hk1.mono hm11.mo
    have hc1 := hc1.mono hm11.mo
    have hk2 := hk2.mono hm11.mo
    have hc2 := hc2.mono hm11.mo
    have hak := hak.mono hm11.mo
    have hac := hac.mono hm11.mo
    have hbk := hbk.mono hm11.mo
    have hbc := hbc.mono hm11.mo
    have huk := huk.mono hm11.mo
    have huc := huc.mono hm11.mo
    repeat (first | refine Ev.s ?_ | refine Ev.newC fun _ _ _ => ?_ | refine Ev.boxC fun _ _ _ => ?_ | refine Ev.stC fun _ _ => ?_ | refine Ev.sc (by omega) ?_ | refine Ev.scg (by omega) ?_)
    refine Ev.callD (ref_spec (lf := lf2) (ks := ks2) (cs := cs2)) fun v12 B12 H12 hm12 hS12 h12 => ?_
    subst h12
    have hk1 := hk1.mono hm12.mo
    have hc1 := hc1.mono hm12.mo
    have hk2 := hk2.mono hm12.mo
    have hc2 := hc2.mono hm12.mo
    have hak := hak.mono hm12.mo
    have hac := hac.mono hm12.mo
    have hbk := hbk.mono hm12.mo
    have hbc := hbc.mono hm12.mo
    have huk := huk.mono hm12.mo
    have huc := huc.mono hm12.mo
    repeat (first | refine Ev.s ?_ | refine Ev.newC fun _ _ _ => ?_ | refine Ev.boxC fun _ _ _ => ?_ | refine Ev.stC fun _ _ => ?_ | refine Ev.sc (by omega) ?_ | refine Ev.scg (by omega) ?_)
    refine Ev.callD (Plain_spec (lf := lf2) (ks := ks2) (cs := cs2) (by omega) (by omega)) fun v13 B13 H13 hm13 hS13 h13 => ?_
    rw [hpy] at h13
    subst h13
    have hk1 := hk1.mono hm13.mo
    have hc1 := hc1.mono hm13.mo
    have hk2 := hk2.mono hm13.mo
    have hc2 := hc2.mono hm13.mo
    have hak := hak.mono hm13.mo
    have hac := hac.mono hm13.mo
    have hbk := hbk.mono hm13.mo
    have hbc := hbc.mono hm13.mo
    have huk := huk.mono hm13.mo
    have huc := huc.mono hm13.mo
    repeat (first | refine Ev.s ?_ | refine Ev.newC fun _ _ _ => ?_ | refine Ev.boxC fun _ _ _ => ?_ | refine Ev.stC fun _ _ => ?_ | refine Ev.sc (by omega) ?_ | refine Ev.scg (by omega) ?_)
    try rw [Bool.not_false]
    repeat (first | refine Ev.s ?_ | refine Ev.newC fun _ _ _ => ?_ | refine Ev.boxC fun _ _ _ => ?_ | refine Ev.stC fun _ _ => ?_ | refine Ev.sc (by omega) ?_ | refine Ev.scg (by omega) ?_)
    exact Ev.doneC rfl
  · -- plain: false true
    refine Ev.callD (JoinAny_spec (x := x) (lf := lf1) (ks := ks1) (cs := cs1) (lf2 := lf2) (ks2 := ks2) (cs2 := cs2) (by omega) (by omega) (by omega) (by omega)) fun v9 B9 H9 hm9 hS9 h9 => ?_
    obtain ⟨ul, uk, uc, ug, uks, ucs, rfl, huk, huc, _, _⟩ := h9
    have hk1 := hk1.mono hm9.mo
    have hc1 := hc1.mono hm9.mo
    have hk2 := hk2.mono hm9.mo
    have hc2 := hc2.mono hm9.mo
    have hak := hak.mono hm9.mo
    have hac := hac.mono hm9.mo
    have hbk := hbk.mono hm9.mo
    have hbc := hbc.mono hm9.mo
    repeat (first | refine Ev.s ?_ | refine Ev.newC fun _ _ _ => ?_ | refine Ev.boxC fun _ _ _ => ?_ | refine Ev.stC fun _ _ => ?_ | refine Ev.sc (by omega) ?_ | refine Ev.scg (by omega) ?_)
    refine Ev.callD (ref_spec (lf := lf1) (ks := ks1) (cs := cs1)) fun v10 B10 H10 hm10 hS10 h10 => ?_
    subst h10
    have hk1 := hk1.mono hm10.mo
    have hc1 := hc1.mono hm10.mo
    have hk2 := hk2.mono hm10.mo
    have hc2 := hc2.mono hm10.mo
    have hak := hak.mono hm10.mo
    have hac := hac.mono hm10.mo
    have hbk := hbk.mono hm10.mo
    have hbc := hbc.mono hm10.mo
    have huk := huk.mono hm10.mo
    have huc := huc.mono hm10.mo
    repeat (first | refine Ev.s ?_ | refine Ev.newC fun _ _ _ => ?_ | refine Ev.boxC fun _ _ _ => ?_ | refine Ev.stC fun _ _ => ?_ | refine Ev.sc (by omega) ?_ | refine Ev.scg (by omega) ?_)
    refine Ev.callD (Plain_spec (lf := lf1) (ks := ks1) (cs := cs1) (by omega) (by omega)) fun v11 B11 H11 hm11 hS11 h11 => ?_
    rw [hpx] at h11
    subst h11
    have hk1 := hk1.mono hm11.mo
    have hc1 := hc1.mono hm11.mo
    have hk2 := hk2.mono hm11.mo
    have hc2 := hc2.mono hm11.mo
    have hak := hak.mono hm11.mo
    have hac := hac.mono hm11.mo
    have hbk := hbk.mono hm11.mo
    have hbc := hbc.mono hm11.mo
    have huk := huk.mono hm11.mo
    have huc := huc.mono hm11.mo
    repeat (first | refine Ev.s ?_ | refine Ev.newC fun _ _ _ => ?_ | refine Ev.boxC fun _ _ _ => ?_ | refine Ev.stC fun _ _ => ?_ | refine Ev.sc (by omega) ?_ | refine Ev.scg (by omega) ?_)
    refine Ev.callD (ref_spec (lf := lf2) (ks := ks2) (cs := cs2)) fun v12 B12 H12 hm12 hS12 h12 => ?_
    subst h12
    have hk1 := hk1.mono hm12.mo
    have hc1 := hc1.mono hm12.mo
    have hk2 := hk2.mono hm12.mo
    have hc2 := hc2.mono hm12.mo
    have hak := hak.mono hm12.mo
    have hac := hac.mono hm12.mo
    have hbk := hbk.mono hm12.mo
    have hbc := hbc.mono hm12.mo
    have huk := huk.mono hm12.mo
    have huc := huc.mono hm12.mo
    repeat (first | refine Ev.s ?_ | refine Ev.newC fun _ _ _ => ?_ | refine Ev.boxC fun _ _ _ => ?_ | refine Ev.stC fun _ _ => ?_ | refine Ev.sc (by omega) ?_ | refine Ev.scg (by omega) ?_)
    refine Ev.callD (Plain_spec (lf := lf2) (ks := ks2) (cs := cs2) (by omega) (by omega)) fun v13 B13 H13 hm13 hS13 h13 => ?_
    rw [hpy] at h13
    subst h13
    have hk1 := hk1.mono hm13.mo
    have hc1 := hc1.mono hm13.mo
    have hk2 := hk2.mono hm13.mo
    have hc2 := hc2.mono hm13.mo
    have hak := hak.mono hm13.mo
    have hac := hac.mono hm13.mo
    have hbk := hbk.mono hm13.mo
    have hbc := hbc.mono hm13.mo
    have huk := huk.mono hm13.mo
    have huc := huc.mono hm13.mo
    repeat (first | refine Ev.s ?_ | refine Ev.newC fun _ _ _ => ?_ | refine Ev.boxC fun _ _ _ => ?_ | refine Ev.stC fun _ _ => ?_ | refine Ev.sc (by omega) ?_ | refine Ev.scg (by omega) ?_)
    try rw [Bool.not_false]
    repeat (first | refine Ev.s ?_ | refine Ev.newC fun _ _ _ => ?_ | refine Ev.boxC fun _ _ _ => ?_ | refine Ev.stC fun _ _ => ?_ | refine Ev.sc (by omega) ?_ | refine Ev.scg (by omega) ?_)
    exact Ev.doneC rfl
  · -- plain: true false
    refine Ev.callD (JoinAny_spec (x := x) (lf := lf1) (ks := ks1) (cs := cs1) (lf2 := lf2) (ks2 := ks2) (cs2 := cs2) (by omega) (by omega) (by omega) (by omega)) fun v9 B9 H9 hm9 hS9 h9 => ?_
    obtain ⟨ul, uk, uc, ug, uks, ucs, rfl, huk, huc, _, _⟩ := h9
    have hk1 := hk1.mono hm9.mo
    have hc1 := hc1.mono hm9.mo
    have hk2 := hk2.mono hm9.mo
    have hc2 := hc2.mono hm9.mo
    have hak := hak.mono hm9.mo
    have hac := hac.mono hm9.mo
    have hbk := hbk.mono hm9.mo
    have hbc := hbc.mono hm9.mo
    repeat (first | refine Ev.s ?_ | refine Ev.newC fun _ _ _ => ?_ | refine Ev.boxC fun _ _ _ => ?_ | refine Ev.stC fun _ _ => ?_ | refine Ev.sc (by omega) ?_ | refine Ev.scg (by omega) ?_)
    refine Ev.callD (ref_spec (lf := lf1) (ks := ks1) (cs := cs1)) fun v10 B10 H10 hm10 hS10 h10 => ?_
    subst h10
    have hk1 := hk1.mono hm10.mo
    have hc1 := hc1.mono hm10.mo
    have hk2 := hk2.mono hm10.mo
    have hc2 := hc2.mono hm10.mo
    have hak := hak.mono hm10.mo
    have hac := hac.mono hm10.mo
    have hbk := hbk.mono hm10.mo
    have hbc := hbc.mono hm10.mo
    have huk := huk.mono hm10.mo
    have huc := huc.mono hm10.mo
    repeat (first | refine Ev.s ?_ | refine Ev.newC fun _ _ _ => ?_ | refine Ev.boxC fun _ _ _ => ?_ | refine Ev.stC fun _ _ => ?_ | refine Ev.sc (by omega) ?_ | refine Ev.scg (by omega) ?_)
    refine Ev.callD (Plain_spec (lf := lf1) (ks := ks1) (cs := cs1) (by omega) (by omega)) fun v11 B11 H11 hm11 hS11 h11 => ?_
    rw [hpx] at h11
    subst h11
    have hk1 := hk1.mono hm11.mo
    have hc1 := hc1.mono hm11.mo
    have hk2 := hk2.mono hm11.mo
    have hc2 := hc2.mono hm11.mo
    have hak := hak.mono hm11.mo
    have hac := hac.mono hm11.mo
    have hbk := hbk.mono hm11.mo
    have hbc := hbc.mono hm11.mo
    have huk := huk.mono hm11.mo
    have huc := huc.mono hm11.mo
    repeat (first | refine Ev.s ?_ | refine Ev.newC fun _ _ _ => ?_ | refine Ev.boxC fun _ _ _ => ?_ | refine Ev.stC fun _ _ => ?_ | refine Ev.sc (by omega) ?_ | refine Ev.scg (by omega) ?_)
    refine Ev.callD (ref_spec (lf := lf2) (ks := ks2) (cs := cs2)) fun v12 B12 H12 hm12 hS12 h12 => ?_
    subst h12
    have hk1 := hk1.mono hm12.mo
    have hc1 := hc1.mono hm12.mo
    have hk2 := hk2.mono hm12.mo
    have hc2 := hc2.mono hm12.mo
    have hak := hak.mono hm12.mo
    have hac := hac.mono hm12.mo
    have hbk := hbk.mono hm12.mo
    have hbc := hbc.mono hm12.mo
    have huk := huk.mono hm12.mo
    have huc := huc.mono hm12.mo
    repeat (first | refine Ev.s ?_ | refine Ev.newC fun _ _ _ => ?_ | refine Ev.boxC fun _ _ _ => ?_ | refine Ev.stC fun _ _ => ?_ | refine Ev.sc (by omega) ?_ | refine Ev.scg (by omega) ?_)
    refine Ev.callD (Plain_spec (lf := lf2) (ks := ks2) (cs := cs2) (by omega) (by omega)) fun v13 B13 H13 hm13 hS13 h13 => ?_
    rw [hpy] at h13
    subst h13
    have hk1 := hk1.mono hm13.mo
    have hc1 := hc1.mono hm13.mo
    have hk2 := hk2.mono hm13.mo
    have hc2 := hc2.mono hm13.mo
    have hak := hak.mono hm13.mo
    have hac := hac.mono hm13.mo
    have hbk := hbk.mono hm13.mo
    have hbc := hbc.mono hm13.mo
    have huk := huk.mono hm13.mo
    have huc := huc.mono hm13.mo
    repeat (first | refine Ev.s ?_ | refine Ev.newC fun _ _ _ => ?_ | refine Ev.boxC fun _ _ _ => ?_ | refine Ev.stC fun _ _ => ?_ | refine Ev.sc (by omega) ?_ | refine Ev.scg (by omega) ?_)
    try rw [Bool.not_true]
    repeat (first | refine Ev.s ?_ | refine Ev.newC fun _ _ _ => ?_ | refine Ev.boxC fun _ _ _ => ?_ | refine Ev.stC fun _ _ => ?_ | refine Ev.sc (by omega) ?_ | refine Ev.scg (by omega) ?_)
    try rw [Bool.not_false]
    repeat (first | refine Ev.s ?_ | refine Ev.newC fun _ _ _ => ?_ | refine Ev.boxC fun _ _ _ => ?_ | refine Ev.stC fun _ _ => ?_ | refine Ev.sc (by omega) ?_ | refine Ev.scg (by omega) ?_)
    exact Ev.doneC rfl
  · -- plain: true true
    have fx := plain_facts hpx
    have fy := plain_facts hpy
    have hsz := joC_size (x := x) fx.2 fy.2 hf1 hf3 hf2 hf4 hx
    have hlJ : (joA ⟨lf1, ks1, cs1⟩ x ⟨lf2, ks2, cs2⟩).keys.length ≤ 100 ∧ (joA ⟨lf1, ks1, cs1⟩ x ⟨lf2, ks2, cs2⟩).kids.length ≤ 100 := by
      unfold joA joC
      split
      · simp only [List.length_append]
        refine ⟨?_, by omega⟩
        split <;> simp only [List.length_nil, List.length_cons] <;> omega
      · exact ⟨by simp, by simp⟩
    refine Ev.callD (JoinU_spec (x := x) (lf := lf1) (ks := ks1) (cs := cs1) (lf2 := lf2) (ks2 := ks2) (cs2 := cs2) (by omega) (by omega) (by omega) (by omega) hsz) fun v9 B9 H9 hm9 hS9 h9 => ?_
    obtain ⟨uk, uc, rfl, huk, huc⟩ := h9
    have hk1 := hk1.mono hm9.mo
    have hc1 := hc1.mono hm9.mo
    have hk2 := hk2.mono hm9.mo
    have hc2 := hc2.mono hm9.mo
    have hak := hak.mono hm9.mo
    have hac := hac.mono hm9.mo
    have hbk := hbk.mono hm9.mo
    have hbc := hbc.mono hm9.mo
    repeat (first | refine Ev.s ?_ | refine Ev.newC fun _ _ _ => ?_ | refine Ev.boxC fun _ _ _ => ?_ | refine Ev.stC fun _ _ => ?_ | refine Ev.sc (by omega) ?_ | refine Ev.scg (by omega) ?_)
    refine Ev.callD (ref_spec (lf := lf1) (ks := ks1) (cs := cs1)) fun v10 B10 H10 hm10 hS10 h10 => ?_
    subst h10
    have hk1 := hk1.mono hm10.mo
    have hc1 := hc1.mono hm10.mo
    have hk2 := hk2.mono hm10.mo
    have hc2 := hc2.mono hm10.mo
    have hak := hak.mono hm10.mo
    have hac := hac.mono hm10.mo
    have hbk := hbk.mono hm10.mo
    have hbc := hbc.mono hm10.mo
    have huk := huk.mono hm10.mo
    have huc := huc.mono hm10.mo
    repeat (first | refine Ev.s ?_ | refine Ev.newC fun _ _ _ => ?_ | refine Ev.boxC fun _ _ _ => ?_ | refine Ev.stC fun _ _ => ?_ | refine Ev.sc (by omega) ?_ | refine Ev.scg (by omega) ?_)
    refine Ev.callD (Plain_spec (lf := lf1) (ks := ks1) (cs := cs1) (by omega) (by omega)) fun v11 B11 H11 hm11 hS11 h11 => ?_
    rw [hpx] at h11
    subst h11
    have hk1 := hk1.mono hm11.mo
    have hc1 := hc1.mono hm11.mo
    have hk2 := hk2.mono hm11.mo
    have hc2 := hc2.mono hm11.mo
    have hak := hak.mono hm11.mo
    have hac := hac.mono hm11.mo
    have hbk := hbk.mono hm11.mo
    have hbc := hbc.mono hm11.mo
    have huk := huk.mono hm11.mo
    have huc := huc.mono hm11.mo
    repeat (first | refine Ev.s ?_ | refine Ev.newC fun _ _ _ => ?_ | refine Ev.boxC fun _ _ _ => ?_ | refine Ev.stC fun _ _ => ?_ | refine Ev.sc (by omega) ?_ | refine Ev.scg (by omega) ?_)
    refine Ev.callD (ref_spec (lf := lf2) (ks := ks2) (cs := cs2)) fun v12 B12 H12 hm12 hS12 h12 => ?_
    subst h12
    have hk1 := hk1.mono hm12.mo
    have hc1 := hc1.mono hm12.mo
    have hk2 := hk2.mono hm12.mo
    have hc2 := hc2.mono hm12.mo
    have hak := hak.mono hm12.mo
    have hac := hac.mono hm12.mo
    have hbk := hbk.mono hm12.mo
    have hbc := hbc.mono hm12.mo
    have huk := huk.mono hm12.mo
    have huc := huc.mono hm12.mo
    repeat (first | refine Ev.s ?_ | refine Ev.newC fun _ _ _ => ?_ | refine Ev.boxC fun _ _ _ => ?_ | refine Ev.stC fun _ _ => ?_ | refine Ev.sc (by omega) ?_ | refine Ev.scg (by omega) ?_)
    refine Ev.callD (Plain_spec (lf := lf2) (ks := ks2) (cs := cs2) (by omega) (by omega)) fun v13 B13 H13 hm13 hS13 h13 => ?_
    rw [hpy] at h13
    subst h13
    have hk1 := hk1.mono hm13.mo
    have hc1 := hc1.mono hm13.mo
    have hk2 := hk2.mono hm13.mo
    have hc2 := hc2.mono hm13.mo
    have hak := hak.mono hm13.mo
    have hac := hac.mono hm13.mo
    have hbk := hbk.mono hm13.mo
    have hbc := hbc.mono hm13.mo
    have huk := huk.mono hm13.mo
    have huc := huc.mono hm13.mo
    repeat (first | refine Ev.s ?_ | refine Ev.newC fun _ _ _ => ?_ | refine Ev.boxC fun _ _ _ => ?_ | refine Ev.stC fun _ _ => ?_ | refine Ev.sc (by omega) ?_ | refine Ev.scg (by omega) ?_)
    try rw [Bool.not_true]
    repeat (first | refine Ev.s ?_ | refine Ev.newC fun _ _ _ => ?_ | refine Ev.boxC fun _ _ _ => ?_ | refine Ev.stC fun _ _ => ?_ | refine Ev.sc (by omega) ?_ | refine Ev.scg (by omega) ?_)
    refine Ev.callD (ref_spec (lf := lf1) (ks := ks1) (cs := cs1)) fun v14 B14 H14 hm14 hS14 h14 => ?_
    subst h14
    have hk1 := hk1.mono hm14.mo
    have hc1 := hc1.mono hm14.mo
    have hk2 := hk2.mono hm14.mo
    have hc2 := hc2.mono hm14.mo
    have hak := hak.mono hm14.mo
    have hac := hac.mono hm14.mo
    have hbk := hbk.mono hm14.mo
    have hbc := hbc.mono hm14.mo
    have huk := huk.mono hm14.mo
    have huc := huc.mono hm14.mo
    repeat (first | refine Ev.s ?_ | refine Ev.newC fun _ _ _ => ?_ | refine Ev.boxC fun _ _ _ => ?_ | refine Ev.stC fun _ _ => ?_ | refine Ev.sc (by omega) ?_ | refine Ev.scg (by omega) ?_)
    refine Ev.callD (rSplitU_spec (lf := lf1) (ks := ks1) (cs := cs1) (by omega) fx.1) fun v15 B15 H15 hm15 hS15 h15 => ?_
    obtain ⟨sak, sac, sbk, sbc, rfl, hsak, hsac, hsbk, hsbc⟩ := h15
    have hk1 := hk1.mono hm15.mo
    have hc1 := hc1.mono hm15.mo
    have hk2 := hk2.mono hm15.mo
    have hc2 := hc2.mono hm15.mo
    have hak := hak.mono hm15.mo
    have hac := hac.mono hm15.mo
    have hbk := hbk.mono hm15.mo
    have hbc := hbc.mono hm15.mo
    have huk := huk.mono hm15.mo
    have huc := huc.mono hm15.mo
    repeat (first | refine Ev.s ?_ | refine Ev.newC fun _ _ _ => ?_ | refine Ev.boxC fun _ _ _ => ?_ | refine Ev.stC fun _ _ => ?_ | refine Ev.sc (by omega) ?_ | refine Ev.scg (by omega) ?_)
    refine Ev.callD (ref_spec (lf := lf1) (ks := ks1) (cs := cs1)) fun v16 B16 H16 hm16 hS16 h16 => ?_
    subst h16
    have hk1 := hk1.mono hm16.mo
    have hc1 := hc1.mono hm16.mo
    have hk2 := hk2.mono hm16.mo
    have hc2 := hc2.mono hm16.mo
    have hak := hak.mono hm16.mo
    have hac := hac.mono hm16.mo
    have hbk := hbk.mono hm16.mo
    have hbc := hbc.mono hm16.mo
    have huk := huk.mono hm16.mo
    have huc := huc.mono hm16.mo
    have hsak := hsak.mono hm16.mo
    have hsac := hsac.mono hm16.mo
    have hsbk := hsbk.mono hm16.mo
    have hsbc := hsbc.mono hm16.mo
    repeat (first | refine Ev.s ?_ | refine Ev.newC fun _ _ _ => ?_ | refine Ev.boxC fun _ _ _ => ?_ | refine Ev.stC fun _ _ => ?_ | refine Ev.sc (by omega) ?_ | refine Ev.scg (by omega) ?_)
    refine Ev.callD (ref_spec (lf := lf2) (ks := ks2) (cs := cs2)) fun v17 B17 H17 hm17 hS17 h17 => ?_
    subst h17
    have hk1 := hk1.mono hm17.mo
    have hc1 := hc1.mono hm17.mo
    have hk2 := hk2.mono hm17.mo
    have hc2 := hc2.mono hm17.mo
    have hak := hak.mono hm17.mo
    have hac := hac.mono hm17.mo
    have hbk := hbk.mono hm17.mo
    have hbc := hbc.mono hm17.mo
    have huk := huk.mono hm17.mo
    have huc := huc.mono hm17.mo
    have hsak := hsak.mono hm17.mo
    have hsac := hsac.mono hm17.mo
    have hsbk := hsbk.mono hm17.mo
    have hsbc := hsbc.mono hm17.mo
    repeat (first | refine Ev.s ?_ | refine Ev.newC fun _ _ _ => ?_ | refine Ev.boxC fun _ _ _ => ?_ | refine Ev.stC fun _ _ => ?_ | refine Ev.sc (by omega) ?_ | refine Ev.scg (by omega) ?_)
    refine Ev.callD (rJoinU_spec (x := x) (lf := lf1) (ks := ks1) (cs := cs1) (lf2 := lf2) (ks2 := ks2) (cs2 := cs2) (by omega) (by omega) (by omega) (by omega) hsz) fun v18 B18 H18 hm18 hS18 h18 => ?_
    obtain ⟨rk, rc, rfl, hrk, hrc⟩ := h18
    have hk1 := hk1.mono hm18.mo
    have hc1 := hc1.mono hm18.mo
    have hk2 := hk2.mono hm18.mo
    have hc2 := hc2.mono hm18.mo
    have hak := hak.mono hm18.mo
    have hac := hac.mono hm18.mo
    have hbk := hbk.mono hm18.mo
    have hbc := hbc.mono hm18.mo
    have huk := huk.mono hm18.mo
    have huc := huc.mono hm18.mo
    have hsak := hsak.mono hm18.mo
    have hsac := hsac.mono hm18.mo
    have hsbk := hsbk.mono hm18.mo
    have hsbc := hsbc.mono hm18.mo
    repeat (first | refine Ev.s ?_ | refine Ev.newC fun _ _ _ => ?_ | refine Ev.boxC fun _ _ _ => ?_ | refine Ev.stC fun _ _ => ?_ | refine Ev.sc (by omega) ?_ | refine Ev.scg (by omega) ?_)
    refine Ev.callD (nodes_spec (lf := (spA ⟨lf1, ks1, cs1⟩).leaf) (lf2 := (spA ⟨lf1, ks1, cs1⟩).leaf) (ks := (spA ⟨lf1, ks1, cs1⟩).keys) (ks2 := (spA ⟨lf1, ks1, cs1⟩).keys) (cs := (spA ⟨lf1, ks1, cs1⟩).kids) (cs2 := (spA ⟨lf1, ks1, cs1⟩).kids) (by omega) (by omega)) fun v19 B19 H19 hm19 hS19 h19 => ?_
    rw [decide_eq_true ⟨rfl, rfl, rfl⟩] at h19
    subst h19
    have hk1 := hk1.mono hm19.mo
    have hc1 := hc1.mono hm19.mo
    have hk2 := hk2.mono hm19.mo
    have hc2 := hc2.mono hm19.mo
    have hak := hak.mono hm19.mo
    have hac := hac.mono hm19.mo
    have hbk := hbk.mono hm19.mo
    have hbc := hbc.mono hm19.mo
    have huk := huk.mono hm19.mo
    have huc := huc.mono hm19.mo
    have hsak := hsak.mono hm19.mo
    have hsac := hsac.mono hm19.mo
    have hsbk := hsbk.mono hm19.mo
    have hsbc := hsbc.mono hm19.mo
    have hrk := hrk.mono hm19.mo
    have hrc := hrc.mono hm19.mo
    repeat (first | refine Ev.s ?_ | refine Ev.newC fun _ _ _ => ?_ | refine Ev.boxC fun _ _ _ => ?_ | refine Ev.stC fun _ _ => ?_ | refine Ev.sc (by omega) ?_ | refine Ev.scg (by omega) ?_)
    refine Ev.callD (nodes_spec (lf := (spB ⟨lf1, ks1, cs1⟩).leaf) (lf2 := (spB ⟨lf1, ks1, cs1⟩).leaf) (ks := (spB ⟨lf1, ks1, cs1⟩).keys) (ks2 := (spB ⟨lf1, ks1, cs1⟩).keys) (cs := (spB ⟨lf1, ks1, cs1⟩).kids) (cs2 := (spB ⟨lf1, ks1, cs1⟩).kids) (by omega) (by omega)) fun v20 B20 H20 hm20 hS20 h20 => ?_
    rw [decide_eq_true ⟨rfl, rfl, rfl⟩] at h20
    subst h20
    have hk1 := hk1.mono hm20.mo
    have hc1 := hc1.mono hm20.mo
    have hk2 := hk2.mono hm20.mo
    have hc2 := hc2.mono hm20.mo
    have hak := hak.mono hm20.mo
    have hac := hac.mono hm20.mo
    have hbk := hbk.mono hm20.mo
    have hbc := hbc.mono hm20.mo
    have huk := huk.mono hm20.mo
    have huc := huc.mono hm20.mo
    have hsak := hsak.mono hm20.mo
    have hsac := hsac.mono hm20.mo
    have hsbk := hsbk.mono hm20.mo
    have hsbc := hsbc.mono hm20.mo
    have hrk := hrk.mono hm20.mo
    have hrc := hrc.mono hm20.mo
    repeat (first | refine Ev.s ?_ | refine Ev.newC fun _ _ _ => ?_ | refine Ev.boxC fun _ _ _ => ?_ | refine Ev.stC fun _ _ => ?_ | refine Ev.sc (by omega) ?_ | refine Ev.scg (by omega) ?_)
    refine Ev.callD (nodes_spec (lf := (joA ⟨lf1, ks1, cs1⟩ x ⟨lf2, ks2, cs2⟩).leaf) (lf2 := (joA ⟨lf1, ks1, cs1⟩ x ⟨lf2, ks2, cs2⟩).leaf) (ks := (joA ⟨lf1, ks1, cs1⟩ x ⟨lf2, ks2, cs2⟩).keys) (ks2 := (joA ⟨lf1, ks1, cs1⟩ x ⟨lf2, ks2, cs2⟩).keys) (cs := (joA ⟨lf1, ks1, cs1⟩ x ⟨lf2, ks2, cs2⟩).kids) (cs2 := (joA ⟨lf1, ks1, cs1⟩ x ⟨lf2, ks2, cs2⟩).kids) (by omega) (by omega)) fun v21 B21 H21 hm21 hS21 h21 => ?_
    rw [decide_eq_true ⟨rfl, rfl, rfl⟩] at h21
    subst h21
    have hk1 := hk1.mono hm21.mo
    have hc1 := hc1.mono hm21.mo
    have hk2 := hk2.mono hm21.mo
    have hc2 := hc2.mono hm21.mo
    have hak := hak.mono hm21.mo
    have hac := hac.mono hm21.mo
    have hbk := hbk.mono hm21.mo
    have hbc := hbc.mono hm21.mo
    have huk := huk.mono hm21.mo
    have huc := huc.mono hm21.mo
    have hsak := hsak.mono hm21.mo
    have hsac := hsac.mono hm21.mo
    have hsbk := hsbk.mono hm21.mo
    have hsbc := hsbc.mono hm21.mo
    have hrk := hrk.mono hm21.mo
    have hrc := hrc.mono hm21.mo
    repeat (first | refine Ev.s ?_ | refine Ev.newC fun _ _ _ => ?_ | refine Ev.boxC fun _ _ _ => ?_ | refine Ev.stC fun _ _ => ?_ | refine Ev.sc (by omega) ?_ | refine Ev.scg (by omega) ?_)
    rw [beq_self_eq_true]
    repeat (first | refine Ev.s ?_ | refine Ev.newC fun _ _ _ => ?_ | refine Ev.boxC fun _ _ _ => ?_ | refine Ev.stC fun _ _ => ?_ | refine Ev.sc (by omega) ?_ | refine Ev.scg (by omega) ?_)
    rw [beq_self_eq_true]
    repeat (first | refine Ev.s ?_ | refine Ev.newC fun _ _ _ => ?_ | refine Ev.boxC fun _ _ _ => ?_ | refine Ev.stC fun _ _ => ?_ | refine Ev.sc (by omega) ?_ | refine Ev.scg (by omega) ?_)
    exact Ev.doneC rfl
abbrev KNodeP := Kn.pair Kn.bool (Kn.pair KStrs (Kn.pair KInts Kn.unit))
theorem node_openP {H : AH} {v : Value} {x : Bool × List ByteArray × List Int × Unit} (h : KvS KNodeP H x v) : ∃ kv cv, v = NdA x.1 kv cv ∧ FL H kv str (x.2.1.map fun s => s.data.toList) ∧ FL H cv i64v x.2.2.1 := by
  obtain ⟨cs, rfl, c1, c2, rfl, h1, c3, c4, rfl, h2, c5, c6, rfl, h3, h4⟩ := h
  have h1 : c1 = [.bool x.1] := h1
  have h4 : c6 = [] := h4
  subst h1 h4
  have hl : c3.length = 1 := by
    rcases h2 with ⟨e, _⟩ | ⟨b, css, e, _⟩ <;> rw [e] <;> rfl
  have hl2 : c5.length = 1 := by
    rcases h3 with ⟨e, _⟩ | ⟨b, css, e, _⟩ <;> rw [e] <;> rfl
  obtain ⟨m, rfl⟩ := List.length_eq_one_iff.mp hl
  obtain ⟨m2, rfl⟩ := List.length_eq_one_iff.mp hl2
  exact ⟨m, m2, rfl, strs_open h2, ints_open h3⟩
theorem coreNodeParts (H : AH) (vs : List Value) (x : (Bool × List ByteArray × List Int × Unit) × (Bool × List ByteArray × List Int × Unit) × ByteArray × Unit) (hK : ∃ v0 vs0, vs = v0 :: vs0 ∧ KvS KNodeP H x.1 v0 ∧ ∃ v1 vs1, vs0 = v1 :: vs1 ∧ KvS KNodeP H x.2.1 v1 ∧ ∃ v2 vs2, vs1 = v2 :: vs2 ∧ KvC Kn.string H x.2.2.1 v2 ∧ vs2 = [])
    (hG : (True ∧ (x.1.2.1.length ≤ maxLen ∧ ∀ s ∈ x.1.2.1, s.size ≤ maxLen) ∧ (x.1.2.2.1.length ≤ maxLen ∧ ∀ n ∈ x.1.2.2.1, (Lit.int .i64 n).wf = true) ∧ True) ∧ (True ∧ (x.2.1.2.1.length ≤ maxLen ∧ ∀ s ∈ x.2.1.2.1, s.size ≤ maxLen) ∧ (x.2.1.2.2.1.length ≤ maxLen ∧ ∀ n ∈ x.2.1.2.2.1, (Lit.int .i64 n).wf = true) ∧ True) ∧ x.2.2.1.size ≤ maxLen ∧ True) (hw2 : ∀ s, vs[2]? = some (.string s) → s.size ≤ 140737488351232) : Ev (fun k _ => rn k 8 vs H) (fun r => r.1 = .bool true) := by
  obtain ⟨v0, _, rfl, h0, v1, _, rfl, h1, v2, _, rfl, h2, rfl⟩ := hK
  obtain ⟨kv, cv, rfl, hk, hc⟩ := node_openP h0
  obtain ⟨kv', cv', rfl, hd, he⟩ := node_openP h1
  have h2 : [v2] = [.string x.2.2.1] := h2
  cases h2
  have hx := hw2 _ rfl
  rw [str_of x.2.2.1]
  exact An.tt (parts_law (by have : x.2.2.1.data.toList.length = x.2.2.1.size := rfl; omega) hk hc hd he ⟨Mo.refl H⟩)
end
end Go.AM.N
set_option linter.unusedVariables false
namespace Go.AM.N
open Go Go.Proofs Go.RowKit
set_option maxHeartbeats 1000000 in
set_option maxRecDepth 100000 in
theorem copyCheck_used (b : Nat) (w : World) (h0 : w.cell? ⟨b, 0, none⟩ = some (.pointer (some ⟨b, 0, none⟩))) :
    Calls Try.prog 50 #[.pointer (some ⟨b, 0, none⟩)] w fun e w' => e = .returned (.tuple #[]) ∧ w' = w := by
  obtain ⟨j, hj⟩ := Option.isSome_iff_exists.1 (show (Try.prog.info? 70).isSome = true by kernel_rfl)
  have mixed : Try.prog.follows .mixedOrders = true := by kernel_rfl
  have t72 := Try.underlying70; have a72 := Try.isAgg70; have z72 := Try.sizeOf70; have v72 := Try.zeroValue70; have u72 := run_underlying t72
  have t70 := Try.underlying67; have a70 := Try.isAgg67; have z70 := Try.sizeOf67; have v70 := Try.zeroValue67; have u70 := run_underlying t70
  go_enter Try.func50, Try.ntmps50
  go_wp2
  rw [Lib.run_neq_ptr_same w _ t70 hj]
  go_wp2
  go_end0
  exact ⟨rfl, rfl⟩
set_option maxHeartbeats 1000000 in
set_option maxRecDepth 100000 in
theorem copyCheck_fresh (T n b : Nat) (hn : 0 < n) (hT : liesAt Try.prog Try.prog.depth T (n / Try.prog.cellsOf T) 0 70 1 = true) (w : World) (h0 : w.cell? ⟨b, 0, none⟩ = some (.pointer none)) (hsh : w.shape? b = some (T, n)) (hfz : w.frozen? ⟨b, 0, none⟩ = false) :
    Calls Try.prog 50 #[.pointer (some ⟨b, 0, none⟩)] w fun e w' => e = .returned (.tuple #[]) ∧ w' = w.setCell ⟨b, 0, none⟩ (.pointer (some ⟨b, 0, none⟩)) := by
  obtain ⟨j, hj⟩ := Option.isSome_iff_exists.1 (show (Try.prog.info? 70).isSome = true by kernel_rfl)
  have hc2 : Try.prog.cellsOf 70 = 2 := by kernel_rfl
  have hjs : j.size ≠ 0 := by
    unfold Program.cellsOf at hc2
    rw [hj] at hc2
    have : j.size = 2 := hc2
    omega
  have mixed : Try.prog.follows .mixedOrders = true := by kernel_rfl
  have t72 := Try.underlying70; have a72 := Try.isAgg70; have z72 := Try.sizeOf70; have v72 := Try.zeroValue70; have u72 := run_underlying t72
  have t70 := Try.underlying67; have a70 := Try.isAgg67; have z70 := Try.sizeOf67; have v70 := Try.zeroValue67; have u70 := run_underlying t70
  have tU := Try.underlying96; have aU := Try.isAgg96; have zU := Try.sizeOf96; have vU := Try.zeroValue96; have uU := run_underlying tU
  go_enter Try.func50, Try.ntmps50
  go_wp2
  rw [Lib.run_to_unsafe w ⟨b, 0, none⟩ t70 tU hj hjs hsh hn]
  simp only [Result.andThen]
  rw [Oper.upon_value]
  go_wp2
  rw [run_callFunc_extern Try.func54 (by kernel_rfl) (by kernel_rfl) (by kernel_rfl) (e := Extern.AbiNoEscape.same) (by kernel_rfl)]
  rw [Lib.run_noEscape]
  simp only [Result.andThen]
  rw [Oper.upon_value]
  go_wp2
  rw [Lib.run_from_unsafe w ⟨b, 0, none⟩ tU t70 hj hsh hT]
  simp only [Result.andThen]
  rw [Oper.upon_value]
  go_wp2
  go_end0
  exact ⟨rfl, rfl⟩
end Go.AM.N
set_option linter.unusedVariables false
set_option linter.unusedSimpArgs false
set_option maxRecDepth 100000
namespace Go.AM.N
open Go Go.AM Go.Proofs
attribute [local irreducible] run bin un ld st box newV mkS fldA fld ixA ix slc slc3 build buildS cv cvS ap cpy lenV gOp pickV b2 aIf aChk evalK resume iterD Option.bind

theorem gv_ok : GivenOK Try.prog gv := by
  intro f g h
  have hgv : gv f = (if f = 50 then some (gCopy Try.prog [70]) else none) := rfl
  rw [hgv] at h
  by_cases hf : f = 50
  · rw [if_pos hf] at h
    cases h
    subst hf
    refine gCopy_ok ⟨_, Try.func50, by decide +kernel, by kernel_rfl⟩ (fun T hT b w h0 hsh hfz => ?_) (fun b w h0 => copyCheck_used b w h0)
    simp only [List.mem_cons, List.not_mem_nil, or_false] at hT
    subst hT
    exact copyCheck_fresh _ _ b (by have : szT Try.prog 70 = 2 := by kernel_rfl
                                    omega) (by kernel_rfl) w h0 hsh hfz
  · rw [if_neg hf] at h
    cases h
end Go.AM.N
