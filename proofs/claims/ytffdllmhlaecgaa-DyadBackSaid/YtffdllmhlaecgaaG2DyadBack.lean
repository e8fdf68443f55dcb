/-
  Facts of the abstract evaluator and of the functions that the law reaches, part 2. Conditions: none.
-/
import Derived.Laws.BytesString
import Derived.Laws.CopyRow
import Derived.Test.YtffdllmhlaecgaaG1DyadBack
set_option linter.unusedVariables false
set_option linter.unusedSimpArgs false
set_option linter.unnecessarySimpa false
set_option exponentiation.threshold 200000
set_option maxRecDepth 100000
set_option linter.unusedVariables false
set_option linter.unusedSimpArgs false
set_option maxRecDepth 100000
namespace Go.AM.Y
open Go Go.AM Go.Proofs
attribute [local irreducible] run bin un ld st box newV mkS fldA fld ixA ix slc slc3 build buildS cv cvS ap cpy lenV gOp pickV b2 aIf aChk evalK resume iterD Option.bind

def DyV (B : AH) (v : Value) (d : Dy) : Prop := ∃ m, v = .agg #[.bool d.neg, m, .int .i64 d.e] ∧ RdN B m d.mag
theorem DyV.mono {B B' : AH} {v : Value} {d : Dy} (hm : Mo B B') (h : DyV B v d) : DyV B' v d := h.elim fun m hh => ⟨m, hh.1, hh.2.mono hm⟩
theorem dzero_spec {B H : AH} {d : Dy} {v : Value} (ha : DyV B v d) (hL : Le B H) : Ev (fun k _ => rn k 64 [v] H) (An B H fun _ v => v = .bool (decide (d.mag.length = 0))) := by
  refine Ev.fn (fun k => f64_eq k _ H) ?_
  obtain ⟨m, rfl, hm⟩ := ha
  have hS := St.start hL
  repeat (first | refine Ev.s ?_ | refine Ev.newC fun _ _ _ => ?_ | refine Ev.boxC fun _ _ _ => ?_ | refine Ev.stC fun _ _ => ?_ | refine Ev.sc (by omega) ?_ | refine Ev.scg (by omega) ?_)
  exact Ev.doneC rfl
theorem within_spec {H : AH} {n lo hi : Int} : Ev (fun k _ => rn k 81 [.int .i64 n, .int .i64 lo, .int .i64 hi] H) (Pu H fun v => v = .bool (decide (lo ≤ n ∧ n ≤ hi))) := by
  refine Ev.fn (fun k => f81_eq k _ _ _ H) ?_
  repeat (first | refine Ev.s ?_ | refine Ev.newC fun _ _ _ => ?_ | refine Ev.boxC fun _ _ _ => ?_ | refine Ev.stC fun _ _ => ?_ | refine Ev.sc (by omega) ?_ | refine Ev.scg (by omega) ?_)
  by_cases h : lo ≤ n
  · rw [decide_eq_true h]
    repeat (first | refine Ev.s ?_ | refine Ev.newC fun _ _ _ => ?_ | refine Ev.boxC fun _ _ _ => ?_ | refine Ev.stC fun _ _ => ?_ | refine Ev.sc (by omega) ?_ | refine Ev.scg (by omega) ?_)
    exact Ev.doneU (by simp [h])
  · rw [decide_eq_false h]
    repeat (first | refine Ev.s ?_ | refine Ev.newC fun _ _ _ => ?_ | refine Ev.boxC fun _ _ _ => ?_ | refine Ev.stC fun _ _ => ?_ | refine Ev.sc (by omega) ?_ | refine Ev.scg (by omega) ?_)
    exact Ev.doneU (by simp [h])
theorem dsize_spec {B H : AH} {d : Dy} {v : Value} (hf : Fit d) (ha : DyV B v d) (hL : Le B H) : Ev (fun k _ => rn k 73 [v] H) (An B H fun _ v => v = .int .i64 (d.e + nbits (val d.mag))) := by
  refine Ev.fn (fun k => f73_eq k _ H) ?_
  obtain ⟨m, rfl, hm⟩ := ha
  have hS := St.start hL
  have h1 := hf.len
  have h2 := hf.lo
  have h3 := hf.hi
  have h4 := nbits_val hm.sm
  repeat (first | refine Ev.s ?_ | refine Ev.newC fun _ _ _ => ?_ | refine Ev.boxC fun _ _ _ => ?_ | refine Ev.stC fun _ _ => ?_ | refine Ev.sc (by omega) ?_ | refine Ev.scg (by omega) ?_)
  refine Ev.callU (Bits_spec (by omega) hm (St.lel inferInstance)) ?_
  rintro _ rfl
  repeat (first | refine Ev.s ?_ | refine Ev.newC fun _ _ _ => ?_ | refine Ev.boxC fun _ _ _ => ?_ | refine Ev.stC fun _ _ => ?_ | refine Ev.sc (by omega) ?_ | refine Ev.scg (by omega) ?_)
  exact Ev.doneC rfl
theorem inRange_spec {B H : AH} {d : Dy} {v : Value} (hf : Fit d) (ha : DyV B v d) (hL : Le B H) : Ev (fun k _ => rn k 82 [v] H) (An B H fun _ v => v = .bool (inRangeD d)) := by
  refine Ev.fn (fun k => f82_eq k _ H) ?_
  have ha' := ha
  obtain ⟨m, rfl, hm⟩ := ha
  have hS := St.start hL
  have h1 := hf.len
  unfold inRangeD
  repeat (first | refine Ev.s ?_ | refine Ev.newC fun _ _ _ => ?_ | refine Ev.boxC fun _ _ _ => ?_ | refine Ev.stC fun _ _ => ?_ | refine Ev.sc (by omega) ?_ | refine Ev.scg (by omega) ?_)
  refine Ev.callC (dzero_spec ha') fun v1 B1 H1 hm1 hS1 e1 => ?_
  subst e1
  by_cases h : d.mag.length = 0
  · rw [decide_eq_true h]
    repeat (first | refine Ev.s ?_ | refine Ev.newC fun _ _ _ => ?_ | refine Ev.boxC fun _ _ _ => ?_ | refine Ev.stC fun _ _ => ?_ | refine Ev.sc (by omega) ?_ | refine Ev.scg (by omega) ?_)
    exact Ev.doneC (by simp [h])
  rw [decide_eq_false h]
  repeat (first | refine Ev.s ?_ | refine Ev.newC fun _ _ _ => ?_ | refine Ev.boxC fun _ _ _ => ?_ | refine Ev.stC fun _ _ => ?_ | refine Ev.sc (by omega) ?_ | refine Ev.scg (by omega) ?_)
  refine Ev.callC (dsize_spec hf (ha'.mono hm1)) fun v2 B2 H2 hm2 hS2 e2 => ?_
  subst e2
  repeat (first | refine Ev.s ?_ | refine Ev.newC fun _ _ _ => ?_ | refine Ev.boxC fun _ _ _ => ?_ | refine Ev.stC fun _ _ => ?_ | refine Ev.sc (by omega) ?_ | refine Ev.scg (by omega) ?_)
  refine Ev.callU within_spec ?_
  rintro _ rfl
  by_cases h2 : -65536 ≤ d.e + (nbits (val d.mag) : Int) ∧ d.e + (nbits (val d.mag) : Int) ≤ 65536
  · rw [decide_eq_true h2]
    repeat (first | refine Ev.s ?_ | refine Ev.newC fun _ _ _ => ?_ | refine Ev.boxC fun _ _ _ => ?_ | refine Ev.stC fun _ _ => ?_ | refine Ev.sc (by omega) ?_ | refine Ev.scg (by omega) ?_)
    refine Ev.callU within_spec ?_
    rintro _ rfl
    by_cases h3 : -131072 ≤ d.e ∧ d.e ≤ 131072
    · rw [decide_eq_true h3]
      repeat (first | refine Ev.s ?_ | refine Ev.newC fun _ _ _ => ?_ | refine Ev.boxC fun _ _ _ => ?_ | refine Ev.stC fun _ _ => ?_ | refine Ev.sc (by omega) ?_ | refine Ev.scg (by omega) ?_)
      refine Ev.callU (Bits_spec (by omega) ((hm.mono hm1).mono hm2) (St.lel inferInstance)) ?_
      rintro _ rfl
      repeat (first | refine Ev.s ?_ | refine Ev.newC fun _ _ _ => ?_ | refine Ev.boxC fun _ _ _ => ?_ | refine Ev.stC fun _ _ => ?_ | refine Ev.sc (by omega) ?_ | refine Ev.scg (by omega) ?_)
      exact Ev.doneC (by simp [h, h2, h3])
    · rw [decide_eq_false h3]
      repeat (first | refine Ev.s ?_ | refine Ev.newC fun _ _ _ => ?_ | refine Ev.boxC fun _ _ _ => ?_ | refine Ev.stC fun _ _ => ?_ | refine Ev.sc (by omega) ?_ | refine Ev.scg (by omega) ?_)
      exact Ev.doneC (by simp [h, h3])
  · rw [decide_eq_false h2]
    repeat (first | refine Ev.s ?_ | refine Ev.newC fun _ _ _ => ?_ | refine Ev.boxC fun _ _ _ => ?_ | refine Ev.stC fun _ _ => ?_ | refine Ev.sc (by omega) ?_ | refine Ev.scg (by omega) ?_)
    exact Ev.doneC (by simp [h, h2])
theorem dRight_spec {B H : AH} {d : Dy} {v : Value} (hl : d.mag.length < 9223372036854775808) (ha : DyV B v d) (hL : Le B H) : Ev (fun k _ => rn k 37 [v] H) (An B H fun _ v => v = .bool (rightD d)) := by
  refine Ev.fn (fun k => f37_eq k _ H) ?_
  have ha' := ha
  obtain ⟨m, rfl, hm⟩ := ha
  have hS := St.start hL
  unfold rightD
  repeat (first | refine Ev.s ?_ | refine Ev.newC fun _ _ _ => ?_ | refine Ev.boxC fun _ _ _ => ?_ | refine Ev.stC fun _ _ => ?_ | refine Ev.sc (by omega) ?_ | refine Ev.scg (by omega) ?_)
  refine Ev.callC (Right_spec (by omega) hm) fun v1 B1 H1 hm1 hS1 e1 => ?_
  subst e1
  cases hr : rightI d.neg d.mag with
  | false =>
    repeat (first | refine Ev.s ?_ | refine Ev.newC fun _ _ _ => ?_ | refine Ev.boxC fun _ _ _ => ?_ | refine Ev.stC fun _ _ => ?_ | refine Ev.sc (by omega) ?_ | refine Ev.scg (by omega) ?_)
    exact Ev.doneC rfl
  | true =>
    repeat (first | refine Ev.s ?_ | refine Ev.newC fun _ _ _ => ?_ | refine Ev.boxC fun _ _ _ => ?_ | refine Ev.stC fun _ _ => ?_ | refine Ev.sc (by omega) ?_ | refine Ev.scg (by omega) ?_)
    refine Ev.callC (dzero_spec (ha'.mono hm1)) fun v2 B2 H2 hm2 hS2 e2 => ?_
    subst e2
    by_cases h : d.mag.length = 0
    · rw [decide_eq_true h]
      repeat (first | refine Ev.s ?_ | refine Ev.newC fun _ _ _ => ?_ | refine Ev.boxC fun _ _ _ => ?_ | refine Ev.stC fun _ _ => ?_ | refine Ev.sc (by omega) ?_ | refine Ev.scg (by omega) ?_)
      exact Ev.doneC (by simp [h])
    rw [decide_eq_false h]
    repeat (first | refine Ev.s ?_ | refine Ev.newC fun _ _ _ => ?_ | refine Ev.boxC fun _ _ _ => ?_ | refine Ev.stC fun _ _ => ?_ | refine Ev.sc (by omega) ?_ | refine Ev.scg (by omega) ?_)
    have hm' := (hm.mono hm1).mono hm2
    refine Ev.ixC 0 rfl (by omega) fun p hp => ?_
    repeat (first | refine Ev.s ?_ | refine Ev.newC fun _ _ _ => ?_ | refine Ev.boxC fun _ _ _ => ?_ | refine Ev.stC fun _ _ => ?_ | refine Ev.sc (by omega) ?_ | refine Ev.scg (by omega) ?_)
    refine Ev.prim (andW (b := 1) ⟨hm.sm.getD 0, by decide⟩) ?_
    rw [Nat.and_one_is_mod]
    repeat (first | refine Ev.s ?_ | refine Ev.newC fun _ _ _ => ?_ | refine Ev.boxC fun _ _ _ => ?_ | refine Ev.stC fun _ _ => ?_ | refine Ev.sc (by omega) ?_ | refine Ev.scg (by omega) ?_)
    by_cases h2 : d.mag.getD 0 0 % 2 = 1
    · rw [decide_eq_true (by omega : d.mag.getD 0 0 % 2 ≠ 0)]
      repeat (first | refine Ev.s ?_ | refine Ev.newC fun _ _ _ => ?_ | refine Ev.boxC fun _ _ _ => ?_ | refine Ev.stC fun _ _ => ?_ | refine Ev.sc (by omega) ?_ | refine Ev.scg (by omega) ?_)
      refine Ev.callU within_spec ?_
      rintro _ rfl
      repeat (first | refine Ev.s ?_ | refine Ev.newC fun _ _ _ => ?_ | refine Ev.boxC fun _ _ _ => ?_ | refine Ev.stC fun _ _ => ?_ | refine Ev.sc (by omega) ?_ | refine Ev.scg (by omega) ?_)
      exact Ev.doneC (by simp only [if_neg h, h2, true_and, Bool.true_and])
    · rw [decide_eq_false (by omega : ¬ d.mag.getD 0 0 % 2 ≠ 0)]
      repeat (first | refine Ev.s ?_ | refine Ev.newC fun _ _ _ => ?_ | refine Ev.boxC fun _ _ _ => ?_ | refine Ev.stC fun _ _ => ?_ | refine Ev.sc (by omega) ?_ | refine Ev.scg (by omega) ?_)
      exact Ev.doneC (by simp only [if_neg h, h2, false_and, decide_false, Bool.and_false])
end Go.AM.Y
set_option linter.unusedVariables false
set_option linter.unusedSimpArgs false
set_option maxRecDepth 100000
namespace Go.AM.Y
open Go Go.AM Go.Proofs
attribute [local irreducible] run bin un ld st box newV mkS fldA fld ixA ix slc slc3 build buildS cv cvS ap cpy lenV gOp pickV b2 aIf aChk evalK resume iterD Option.bind

theorem must_true {H0 B0 B H : AH} {L : List (Nat × Blk)} {p : Nat} {e0 : Int} {rest : List Value} {T : TypeId} {x : Value} [hS : St H0 B0 B L H] [hm : InL p ⟨.int .i64 e0 :: rest, T, .fix⟩ L] :
    Ev (fun k _ => rn k 63 [ptr p 0, .bool true, x] H) (fun r => r = (.bool (decide (e0 = 0)), H)) := by
  refine Ev.fn (fun k => f63_eq k _ _ _ H) ?_
  repeat (first | refine Ev.s ?_ | refine Ev.newC fun _ _ _ => ?_ | refine Ev.boxC fun _ _ _ => ?_ | refine Ev.stC fun _ _ => ?_ | refine Ev.sc (by omega) ?_ | refine Ev.scg (by omega) ?_)
  refine Ev.eq (fun k _ => f63_J0_eq k _ H) ?_
  repeat (first | refine Ev.s ?_ | refine Ev.newC fun _ _ _ => ?_ | refine Ev.boxC fun _ _ _ => ?_ | refine Ev.stC fun _ _ => ?_ | refine Ev.sc (by omega) ?_ | refine Ev.scg (by omega) ?_)
  exact Ev.ret rfl
theorem must_false {H0 B0 B H : AH} {L L' : List (Nat × Blk)} {p : Nat} {e : Int} {rest : List Value} {T : TypeId} [hS : St H0 B0 B L H] [hm : InL p ⟨.int .i64 0 :: rest, T, .fix⟩ L] (he : e ≠ 0)
    [hu : UpL p ⟨.int .i64 0 :: rest, T, .fix⟩ ⟨.int .i64 e :: rest, T, .fix⟩ L L'] :
    Ev (fun k _ => rn k 63 [ptr p 0, .bool false, .int .i64 e] H) (AnS H0 B0 B L' fun _ v => v = .bool false) := by
  refine Ev.fn (fun k => f63_eq k _ _ _ H) ?_
  repeat (first | refine Ev.s ?_ | refine Ev.newC fun _ _ _ => ?_ | refine Ev.boxC fun _ _ _ => ?_ | refine Ev.stC fun _ _ => ?_ | refine Ev.sc (by omega) ?_ | refine Ev.scg (by omega) ?_)
  refine Ev.eq (fun k _ => f63_J0_eq k _ _) ?_
  have : InL p ⟨.int .i64 e :: rest, T, .fix⟩ L' := ⟨hu.upd.mem2⟩
  repeat (first | refine Ev.s ?_ | refine Ev.newC fun _ _ _ => ?_ | refine Ev.boxC fun _ _ _ => ?_ | refine Ev.stC fun _ _ => ?_ | refine Ev.sc (by omega) ?_ | refine Ev.scg (by omega) ?_)
  rw [decide_eq_false he]
  exact Ev.doneS (Mo.refl B) rfl
theorem must_more {H0 B0 B H : AH} {L : List (Nat × Blk)} {p : Nat} {e0 : Int} {rest : List Value} {T : TypeId} {x : Value} [hS : St H0 B0 B L H] [hm : InL p ⟨.int .i64 e0 :: rest, T, .fix⟩ L] (he : e0 ≠ 0) {h : Bool} :
    Ev (fun k _ => rn k 63 [ptr p 0, .bool h, x] H) (fun r => r = (.bool false, H)) := by
  refine Ev.fn (fun k => f63_eq k _ _ _ H) ?_
  cases h
  · repeat (first | refine Ev.s ?_ | refine Ev.newC fun _ _ _ => ?_ | refine Ev.boxC fun _ _ _ => ?_ | refine Ev.stC fun _ _ => ?_ | refine Ev.sc (by omega) ?_ | refine Ev.scg (by omega) ?_)
    rw [decide_eq_false he]
    repeat (first | refine Ev.s ?_ | refine Ev.newC fun _ _ _ => ?_ | refine Ev.boxC fun _ _ _ => ?_ | refine Ev.stC fun _ _ => ?_ | refine Ev.sc (by omega) ?_ | refine Ev.scg (by omega) ?_)
    refine Ev.eq (fun k _ => f63_J0_eq k _ H) ?_
    repeat (first | refine Ev.s ?_ | refine Ev.newC fun _ _ _ => ?_ | refine Ev.boxC fun _ _ _ => ?_ | refine Ev.stC fun _ _ => ?_ | refine Ev.sc (by omega) ?_ | refine Ev.scg (by omega) ?_)
    rw [decide_eq_false he]
    exact Ev.ret rfl
  · repeat (first | refine Ev.s ?_ | refine Ev.newC fun _ _ _ => ?_ | refine Ev.boxC fun _ _ _ => ?_ | refine Ev.stC fun _ _ => ?_ | refine Ev.sc (by omega) ?_ | refine Ev.scg (by omega) ?_)
    refine Ev.eq (fun k _ => f63_J0_eq k _ H) ?_
    repeat (first | refine Ev.s ?_ | refine Ev.newC fun _ _ _ => ?_ | refine Ev.boxC fun _ _ _ => ?_ | refine Ev.stC fun _ _ => ?_ | refine Ev.sc (by omega) ?_ | refine Ev.scg (by omega) ?_)
    rw [decide_eq_false he]
    exact Ev.ret rfl
theorem prec_true {H0 B0 B H : AH} {L : List (Nat × Blk)} {p : Nat} {rest : List Value} {q : Int} [hS : St H0 B0 B L H] [hm : InL p ⟨.int .i64 0 :: rest, 73, .fix⟩ L] (hq : 2 ≤ q ∧ q ≤ 400) :
    Ev (fun k _ => rn k 56 [ptr p 0, .int .i64 q] H) (fun r => r = (.bool true, H)) := by
  refine Ev.fn (fun k => f56_eq k _ _ H) ?_
  repeat (first | refine Ev.s ?_ | refine Ev.newC fun _ _ _ => ?_ | refine Ev.boxC fun _ _ _ => ?_ | refine Ev.stC fun _ _ => ?_ | refine Ev.sc (by omega) ?_ | refine Ev.scg (by omega) ?_)
  refine Ev.callU within_spec ?_
  rintro _ rfl
  rw [decide_eq_true hq]
  refine Ev.callP must_true ?_
  exact Ev.ret rfl
theorem prec_false {H0 B0 B H : AH} {L L' : List (Nat × Blk)} {p : Nat} {rest : List Value} {q : Int} [hS : St H0 B0 B L H] [hm : InL p ⟨.int .i64 0 :: rest, 73, .fix⟩ L] (hq : ¬ (2 ≤ q ∧ q ≤ 400))
    [hu : UpL p ⟨.int .i64 0 :: rest, 73, .fix⟩ ⟨.int .i64 1 :: rest, 73, .fix⟩ L L'] :
    Ev (fun k _ => rn k 56 [ptr p 0, .int .i64 q] H) (AnS H0 B0 B L' fun _ v => v = .bool false) := by
  refine Ev.fn (fun k => f56_eq k _ _ H) ?_
  repeat (first | refine Ev.s ?_ | refine Ev.newC fun _ _ _ => ?_ | refine Ev.boxC fun _ _ _ => ?_ | refine Ev.stC fun _ _ => ?_ | refine Ev.sc (by omega) ?_ | refine Ev.scg (by omega) ?_)
  refine Ev.callU within_spec ?_
  rintro _ rfl
  rw [decide_eq_false hq]
  refine Ev.callS (must_false (by decide)) fun v B1 H1 hm1 hS1 e1 => ?_
  subst e1
  exact Ev.doneS hm1 rfl
/-- What the work tells behind 'right'. -/
theorem right_end {H0 B0 B H : AH} {L : List (Nat × Blk)} {p : Nat} {e0 : Int} {rest : List Value} [hS : St H0 B0 B L H] [hm : InL p ⟨.int .i64 e0 :: rest, 73, .fix⟩ L] :
    Ev (fun k _ => f55_A0 k (.exit 0) (f55_X_L0 (ptr p 0)) H) (fun r => r = (.bool (decide (e0 = 0)), H)) := by
  refine Ev.eq (fun k _ => f55_A0_x0 k _ H) ?_
  repeat (first | refine Ev.s ?_ | refine Ev.newC fun _ _ _ => ?_ | refine Ev.boxC fun _ _ _ => ?_ | refine Ev.stC fun _ _ => ?_ | refine Ev.sc (by omega) ?_ | refine Ev.scg (by omega) ?_)
  exact Ev.ret rfl
/-- One round of 'right'. -/
theorem right_round {H0 B0 B H : AH} {L : List (Nat × Blk)} {p b len j o : Nat} {rest cs : List Value} {neg : Bool} {m : Value} {e : Int} {xs : List Nat} {Q : Out → Prop} [hS : St H0 B0 B L H] [hm : InL p ⟨.int .i64 0 :: rest, 73, .fix⟩ L]
    [hb : InL b ⟨cs, 26, .fix⟩ L] [ht : TimesL j 3 o] [hc : Cut cs o 3 [.bool neg, m, .int .i64 e]] [hx : RdN B m xs] (hl : xs.length < 34359738368) (hj : j < len) (hlen : len < 10)
    (h1 : rightD ⟨neg, xs, e⟩ = true → ∀ B' H', Mo B B' → St H0 B0 B' L H' → Ev (fun k n => f55_L0 k (ptr p 0) (sl b 0 len len) (i64 len) (i64 (j + 1)) n H') Q)
    (h2 : rightD ⟨neg, xs, e⟩ = false → ∀ B' H' L', Mo B B' → Upd p ⟨.int .i64 0 :: rest, 73, .fix⟩ ⟨.int .i64 1 :: rest, 73, .fix⟩ L L' → St H0 B0 B' L' H' → Ev (fun k n => f55_L0 k (ptr p 0) (sl b 0 len len) (i64 len) (i64 (j + 1)) n H') Q) :
    Ev (fun k n => f55_L0 k (ptr p 0) (sl b 0 len len) (i64 len) (i64 j) n H) Q := by
  refine Ev.succ (fun k n => f55_L0_succ k _ _ _ _ n H) ?_
  repeat (first | refine Ev.s ?_ | refine Ev.newC fun _ _ _ => ?_ | refine Ev.boxC fun _ _ _ => ?_ | refine Ev.stC fun _ _ => ?_ | refine Ev.sc (by omega) ?_ | refine Ev.scg (by omega) ?_)
  rw [decide_eq_true hj]
  repeat (first | refine Ev.s ?_ | refine Ev.newC fun _ _ _ => ?_ | refine Ev.boxC fun _ _ _ => ?_ | refine Ev.stC fun _ _ => ?_ | refine Ev.sc (by omega) ?_ | refine Ev.scg (by omega) ?_)
  refine Ev.callC (dRight_spec (d := ⟨neg, xs, e⟩) (by simp only; omega) ⟨m, rfl, hx⟩) fun v1 B1 H1 hm1 hS1 e1 => ?_
  subst e1
  cases hr : rightD ⟨neg, xs, e⟩ with
  | true =>
    refine Ev.callP must_true ?_
    repeat (first | refine Ev.s ?_ | refine Ev.newC fun _ _ _ => ?_ | refine Ev.boxC fun _ _ _ => ?_ | refine Ev.stC fun _ _ => ?_ | refine Ev.sc (by omega) ?_ | refine Ev.scg (by omega) ?_)
    exact h1 hr B1 _ hm1 hS1.drop1
  | false =>
    obtain ⟨L', hu⟩ : ∃ L', Upd p ⟨.int .i64 0 :: rest, 73, .fix⟩ ⟨.int .i64 1 :: rest, 73, .fix⟩ L L' := Upd.make hm.mem
    have : UpL p ⟨.int .i64 0 :: rest, 73, .fix⟩ ⟨.int .i64 1 :: rest, 73, .fix⟩ L L' := ⟨hu⟩
    refine Ev.callS (must_false (by decide)) fun v2 B2 H2 hm2 hS2 e2 => ?_
    repeat (first | refine Ev.s ?_ | refine Ev.newC fun _ _ _ => ?_ | refine Ev.boxC fun _ _ _ => ?_ | refine Ev.stC fun _ _ => ?_ | refine Ev.sc (by omega) ?_ | refine Ev.scg (by omega) ?_)
    exact h2 hr B2 _ L' (hm1.trans hm2) hu hS2.drop1
/-- A round behind a fault: nothing changes. -/
theorem right_more {H0 B0 B H : AH} {L : List (Nat × Blk)} {p b len j o : Nat} {rest cs : List Value} {neg : Bool} {m : Value} {e : Int} {xs : List Nat} {Q : Out → Prop} [hS : St H0 B0 B L H] [hm : InL p ⟨.int .i64 1 :: rest, 73, .fix⟩ L]
    [hb : InL b ⟨cs, 26, .fix⟩ L] [ht : TimesL j 3 o] [hc : Cut cs o 3 [.bool neg, m, .int .i64 e]] [hx : RdN B m xs] (hl : xs.length < 34359738368) (hj : j < len) (hlen : len < 10)
    (h1 : ∀ B' H', Mo B B' → St H0 B0 B' L H' → Ev (fun k n => f55_L0 k (ptr p 0) (sl b 0 len len) (i64 len) (i64 (j + 1)) n H') Q) :
    Ev (fun k n => f55_L0 k (ptr p 0) (sl b 0 len len) (i64 len) (i64 j) n H) Q := by
  refine Ev.succ (fun k n => f55_L0_succ k _ _ _ _ n H) ?_
  repeat (first | refine Ev.s ?_ | refine Ev.newC fun _ _ _ => ?_ | refine Ev.boxC fun _ _ _ => ?_ | refine Ev.stC fun _ _ => ?_ | refine Ev.sc (by omega) ?_ | refine Ev.scg (by omega) ?_)
  rw [decide_eq_true hj]
  repeat (first | refine Ev.s ?_ | refine Ev.newC fun _ _ _ => ?_ | refine Ev.boxC fun _ _ _ => ?_ | refine Ev.stC fun _ _ => ?_ | refine Ev.sc (by omega) ?_ | refine Ev.scg (by omega) ?_)
  refine Ev.callC (dRight_spec (d := ⟨neg, xs, e⟩) (by simp only; omega) ⟨m, rfl, hx⟩) fun v1 B1 H1 hm1 hS1 e1 => ?_
  subst e1
  refine Ev.callP (must_more (by decide)) ?_
  repeat (first | refine Ev.s ?_ | refine Ev.newC fun _ _ _ => ?_ | refine Ev.boxC fun _ _ _ => ?_ | refine Ev.stC fun _ _ => ?_ | refine Ev.sc (by omega) ?_ | refine Ev.scg (by omega) ?_)
  exact h1 B1 _ hm1 hS1.drop1
theorem right_out {H0 B0 B H : AH} {L : List (Nat × Blk)} {p b len : Nat} {e0 : Int} {rest : List Value} [hS : St H0 B0 B L H] [hm : InL p ⟨.int .i64 e0 :: rest, 73, .fix⟩ L] (hlen : len < 10) :
    Ev (fun k n => f55_L0 k (ptr p 0) (sl b 0 len len) (i64 len) (i64 len) n H) (fun o => o = (.exit 0, f55_X_L0 (ptr p 0), H)) := by
  refine Ev.succ (fun k n => f55_L0_succ k _ _ _ _ n H) ?_
  repeat (first | refine Ev.s ?_ | refine Ev.newC fun _ _ _ => ?_ | refine Ev.boxC fun _ _ _ => ?_ | refine Ev.stC fun _ _ => ?_ | refine Ev.sc (by omega) ?_ | refine Ev.scg (by omega) ?_)
  rw [decide_eq_false (by omega : ¬ len < len)]
  repeat (first | refine Ev.s ?_ | refine Ev.newC fun _ _ _ => ?_ | refine Ev.boxC fun _ _ _ => ?_ | refine Ev.stC fun _ _ => ?_ | refine Ev.sc (by omega) ?_ | refine Ev.scg (by omega) ?_)
  exact Ev.ret rfl
theorem right1_true {H0 B0 B H : AH} {L : List (Nat × Blk)} {p b : Nat} {rest : List Value} {neg : Bool} {m : Value} {e : Int} {xs : List Nat} [hS : St H0 B0 B L H] [hm : InL p ⟨.int .i64 0 :: rest, 73, .fix⟩ L]
    [hb : InL b ⟨[.bool neg, m, .int .i64 e], 26, .fix⟩ L] [hx : RdN B m xs] (hl : xs.length < 34359738368) (hr : rightD ⟨neg, xs, e⟩ = true) :
    Ev (fun k _ => rn k 55 [ptr p 0, sl b 0 1 1] H) (AnS H0 B0 B L fun _ v => v = .bool true) := by
  refine Ev.fn (fun k => f55_eq k _ _ H) ?_
  repeat (first | refine Ev.s ?_ | refine Ev.newC fun _ _ _ => ?_ | refine Ev.boxC fun _ _ _ => ?_ | refine Ev.stC fun _ _ => ?_ | refine Ev.sc (by omega) ?_ | refine Ev.scg (by omega) ?_)
  refine Ev.bind (Ev.loop (L := fun k n => f55_L0 k (ptr p 0) (sl b 0 1 1) (i64 1) (.int .i64 0) n H) (Q := fun o => ∃ B' H', o = (.exit 0, f55_X_L0 (ptr p 0), H') ∧ Mo B B' ∧ St H0 B0 B' L H') ?_) ?_
  · refine right_round (len := 1) (j := 0) hl (by decide) (by decide) (fun _ B1 H1 hm1 hS1 => ?_) (fun h => by rw [hr] at h; cases h)
    exact (right_out (len := 1) (by decide)).mono fun o ho => ⟨B1, H1, ho, hm1, hS1⟩
  · rintro _ ⟨B1, H1, rfl, hm1, hS1⟩
    exact right_end.mono fun r h => by rw [h]; exact ⟨B1, hm1, hS1, rfl⟩
theorem right1_false {H0 B0 B H : AH} {L L' : List (Nat × Blk)} {p b : Nat} {rest : List Value} {neg : Bool} {m : Value} {e : Int} {xs : List Nat} [hS : St H0 B0 B L H] [hm : InL p ⟨.int .i64 0 :: rest, 73, .fix⟩ L]
    [hb : InL b ⟨[.bool neg, m, .int .i64 e], 26, .fix⟩ L] [hx : RdN B m xs] (hl : xs.length < 34359738368) (hr : rightD ⟨neg, xs, e⟩ = false)
    [hu : UpL p ⟨.int .i64 0 :: rest, 73, .fix⟩ ⟨.int .i64 1 :: rest, 73, .fix⟩ L L'] :
    Ev (fun k _ => rn k 55 [ptr p 0, sl b 0 1 1] H) (AnS H0 B0 B L' fun _ v => v = .bool false) := by
  refine Ev.fn (fun k => f55_eq k _ _ H) ?_
  have hm' : InL p ⟨.int .i64 1 :: rest, 73, .fix⟩ L' := ⟨hu.upd.mem2⟩
  repeat (first | refine Ev.s ?_ | refine Ev.newC fun _ _ _ => ?_ | refine Ev.boxC fun _ _ _ => ?_ | refine Ev.stC fun _ _ => ?_ | refine Ev.sc (by omega) ?_ | refine Ev.scg (by omega) ?_)
  refine Ev.bind (Ev.loop (L := fun k n => f55_L0 k (ptr p 0) (sl b 0 1 1) (i64 1) (.int .i64 0) n H) (Q := fun o => ∃ B' H', o = (.exit 0, f55_X_L0 (ptr p 0), H') ∧ Mo B B' ∧ St H0 B0 B' L' H') ?_) ?_
  · refine right_round (len := 1) (j := 0) hl (by decide) (by decide) (fun h => by rw [hr] at h; cases h) (fun _ B1 H1 L1 hm1 hu1 hS1 => ?_)
    cases hu.upd.fix hS.nd hu1
    exact (right_out (len := 1) (by decide)).mono fun o ho => ⟨B1, H1, ho, hm1, hS1⟩
  · rintro _ ⟨B1, H1, rfl, hm1, hS1⟩
    exact right_end.mono fun r h => by rw [h]; exact ⟨B1, hm1, hS1, rfl⟩
theorem right2_true {H0 B0 B H : AH} {L : List (Nat × Blk)} {p b : Nat} {rest : List Value} {neg neg2 : Bool} {m m2 : Value} {e e2 : Int} {xs xs2 : List Nat} [hS : St H0 B0 B L H] [hm : InL p ⟨.int .i64 0 :: rest, 73, .fix⟩ L]
    [hb : InL b ⟨[.bool neg, m, .int .i64 e, .bool neg2, m2, .int .i64 e2], 26, .fix⟩ L] [hx : RdN B m xs] [hx2 : RdN B m2 xs2] (hl : xs.length < 34359738368) (hl2 : xs2.length < 34359738368) (hr : rightD ⟨neg, xs, e⟩ = true) (hr2 : rightD ⟨neg2, xs2, e2⟩ = true) :
    Ev (fun k _ => rn k 55 [ptr p 0, sl b 0 2 2] H) (AnS H0 B0 B L fun _ v => v = .bool true) := by
  refine Ev.fn (fun k => f55_eq k _ _ H) ?_
  repeat (first | refine Ev.s ?_ | refine Ev.newC fun _ _ _ => ?_ | refine Ev.boxC fun _ _ _ => ?_ | refine Ev.stC fun _ _ => ?_ | refine Ev.sc (by omega) ?_ | refine Ev.scg (by omega) ?_)
  refine Ev.bind (Ev.loop (L := fun k n => f55_L0 k (ptr p 0) (sl b 0 2 2) (i64 2) (.int .i64 0) n H) (Q := fun o => ∃ B' H', o = (.exit 0, f55_X_L0 (ptr p 0), H') ∧ Mo B B' ∧ St H0 B0 B' L H') ?_) ?_
  · refine right_round (len := 2) (j := 0) hl (by decide) (by decide) (fun _ B1 H1 hm1 hS1 => ?_) (fun h => by rw [hr] at h; cases h)
    have hx2 := hx2.mono hm1
    refine right_round (len := 2) (j := 1) hl2 (by decide) (by decide) (fun _ B2 H2 hm2 hS2 => ?_) (fun h => by rw [hr2] at h; cases h)
    exact (right_out (len := 2) (by decide)).mono fun o ho => ⟨B2, H2, ho, hm1.trans hm2, hS2⟩
  · rintro _ ⟨B1, H1, rfl, hm1, hS1⟩
    exact right_end.mono fun r h => by rw [h]; exact ⟨B1, hm1, hS1, rfl⟩
theorem right2_false {H0 B0 B H : AH} {L L' : List (Nat × Blk)} {p b : Nat} {rest : List Value} {neg neg2 : Bool} {m m2 : Value} {e e2 : Int} {xs xs2 : List Nat} [hS : St H0 B0 B L H] [hm : InL p ⟨.int .i64 0 :: rest, 73, .fix⟩ L]
    [hb : InL b ⟨[.bool neg, m, .int .i64 e, .bool neg2, m2, .int .i64 e2], 26, .fix⟩ L] [hx : RdN B m xs] [hx2 : RdN B m2 xs2] (hl : xs.length < 34359738368) (hl2 : xs2.length < 34359738368) (hr : (rightD ⟨neg, xs, e⟩ && rightD ⟨neg2, xs2, e2⟩) = false)
    [hu : UpL p ⟨.int .i64 0 :: rest, 73, .fix⟩ ⟨.int .i64 1 :: rest, 73, .fix⟩ L L'] (hbp : b ≠ p) :
    Ev (fun k _ => rn k 55 [ptr p 0, sl b 0 2 2] H) (AnS H0 B0 B L' fun _ v => v = .bool false) := by
  refine Ev.fn (fun k => f55_eq k _ _ H) ?_
  have hm' : InL p ⟨.int .i64 1 :: rest, 73, .fix⟩ L' := ⟨hu.upd.mem2⟩
  have hb' : InL b ⟨[.bool neg, m, .int .i64 e, .bool neg2, m2, .int .i64 e2], 26, .fix⟩ L' := ⟨hu.upd.other hb.mem hbp⟩
  repeat (first | refine Ev.s ?_ | refine Ev.newC fun _ _ _ => ?_ | refine Ev.boxC fun _ _ _ => ?_ | refine Ev.stC fun _ _ => ?_ | refine Ev.sc (by omega) ?_ | refine Ev.scg (by omega) ?_)
  refine Ev.bind (Ev.loop (L := fun k n => f55_L0 k (ptr p 0) (sl b 0 2 2) (i64 2) (.int .i64 0) n H) (Q := fun o => ∃ B' H', o = (.exit 0, f55_X_L0 (ptr p 0), H') ∧ Mo B B' ∧ St H0 B0 B' L' H') ?_) ?_
  · refine right_round (len := 2) (j := 0) hl (by decide) (by decide) (fun h B1 H1 hm1 hS1 => ?_) (fun h B1 H1 L1 hm1 hu1 hS1 => ?_)
    · have hx2 := hx2.mono hm1
      refine right_round (len := 2) (j := 1) hl2 (by decide) (by decide) (fun h2 => by rw [h, h2] at hr; cases hr) (fun h2 B2 H2 L2 hm2 hu2 hS2 => ?_)
      cases hu.upd.fix hS.nd hu2
      exact (right_out (len := 2) (by decide)).mono fun o ho => ⟨B2, H2, ho, hm1.trans hm2, hS2⟩
    · cases hu.upd.fix hS.nd hu1
      have hx2 := hx2.mono hm1
      refine right_more (len := 2) (j := 1) hl2 (by decide) (by decide) fun B2 H2 hm2 hS2 => ?_
      exact (right_out (len := 2) (by decide)).mono fun o ho => ⟨B2, H2, ho, hm1.trans hm2, hS2⟩
  · rintro _ ⟨B1, H1, rfl, hm1, hS1⟩
    exact right_end.mono fun r h => by rw [h]; exact ⟨B1, hm1, hS1, rfl⟩
end Go.AM.Y
set_option linter.unusedVariables false
set_option linter.unusedSimpArgs false
set_option maxRecDepth 100000
namespace Go.AM.Y
open Go Go.AM Go.Proofs
attribute [local irreducible] run bin un ld st box newV mkS fldA fld ixA ix slc slc3 build buildS cv cvS ap cpy lenV gOp pickV b2 aIf aChk evalK resume iterD Option.bind

theorem zeroDyV {B : AH} : DyV B (.agg #[.bool false, .slice none 0 0, .int .i64 0]) zeroDy := ⟨_, rfl, RdN.nil⟩
def ResV (B : AH) (v : Value) (d : Dy) (c : Int) : Prop := ∃ x, v = .tuple #[x, .int .i64 c] ∧ DyV B x d
theorem told_spec {H0 B0 B H : AH} {L : List (Nat × Blk)} {p : Nat} {e0 : Int} {neg : Bool} {m : Value} {e : Int} {xs : List Nat} (hS : St H0 B0 B ((p, ⟨[.int .i64 e0, .bool neg, m, .int .i64 e], 73, .fix⟩) :: L) H) (hf : Fit ⟨neg, xs, e⟩) (hx : RdN B m xs) :
    Ev (fun k _ => rn k 58 [ptr p 0] H) (AnS H0 B0 B L fun B' v => ResV B' v (toldR e0 ⟨neg, xs, e⟩).1 (toldR e0 ⟨neg, xs, e⟩).2) := by
  refine Ev.fn (fun k => f58_eq k _ H) ?_
  repeat (first | refine Ev.s ?_ | refine Ev.newC fun _ _ _ => ?_ | refine Ev.boxC fun _ _ _ => ?_ | refine Ev.stC fun _ _ => ?_ | refine Ev.sc (by omega) ?_ | refine Ev.scg (by omega) ?_)
  by_cases h0 : e0 = 0
  · subst h0
    rw [decide_eq_false (by decide)]
    repeat (first | refine Ev.s ?_ | refine Ev.newC fun _ _ _ => ?_ | refine Ev.boxC fun _ _ _ => ?_ | refine Ev.stC fun _ _ => ?_ | refine Ev.sc (by omega) ?_ | refine Ev.scg (by omega) ?_)
    refine Ev.callC (inRange_spec hf ⟨m, rfl, hx⟩) fun v1 B1 H1 hm1 hS1 e1 => ?_
    subst e1
    have hx1 := hx.mono hm1
    cases hr : inRangeD ⟨neg, xs, e⟩ with
    | true =>
      have e2 : toldR 0 ⟨neg, xs, e⟩ = (⟨neg, xs, e⟩, 0) := by unfold toldR; rw [if_neg (by decide), if_pos hr]
      rw [e2]
      repeat (first | refine Ev.s ?_ | refine Ev.newC fun _ _ _ => ?_ | refine Ev.boxC fun _ _ _ => ?_ | refine Ev.stC fun _ _ => ?_ | refine Ev.sc (by omega) ?_ | refine Ev.scg (by omega) ?_)
      refine Ev.callP must_true ?_
      rw [decide_eq_true rfl]
      repeat (first | refine Ev.s ?_ | refine Ev.newC fun _ _ _ => ?_ | refine Ev.boxC fun _ _ _ => ?_ | refine Ev.stC fun _ _ => ?_ | refine Ev.sc (by omega) ?_ | refine Ev.scg (by omega) ?_)
      exact Ev.ret ⟨B1, hm1, (St.drop1 (St.drop1 (by assumption))), _, rfl, m, rfl, hx1⟩
    | false =>
      have e2 : toldR 0 ⟨neg, xs, e⟩ = (zeroDy, 4) := by unfold toldR; rw [if_neg (by decide), if_neg (by rw [hr]; decide)]
      rw [e2]
      repeat (first | refine Ev.s ?_ | refine Ev.newC fun _ _ _ => ?_ | refine Ev.boxC fun _ _ _ => ?_ | refine Ev.stC fun _ _ => ?_ | refine Ev.sc (by omega) ?_ | refine Ev.scg (by omega) ?_)
      refine Ev.callS (must_false (by decide)) fun v2 B2 H2 hm2 hS2 e2 => ?_
      subst e2
      repeat (first | refine Ev.s ?_ | refine Ev.newC fun _ _ _ => ?_ | refine Ev.boxC fun _ _ _ => ?_ | refine Ev.stC fun _ _ => ?_ | refine Ev.sc (by omega) ?_ | refine Ev.scg (by omega) ?_)
      exact Ev.ret ⟨B2, hm1.trans hm2, (St.drop1 (St.drop1 (by assumption))), _, rfl, zeroDyV⟩
  · have e2 : toldR e0 ⟨neg, xs, e⟩ = (zeroDy, e0) := by unfold toldR; rw [if_pos h0]
    rw [e2, decide_eq_true h0]
    repeat (first | refine Ev.s ?_ | refine Ev.newC fun _ _ _ => ?_ | refine Ev.boxC fun _ _ _ => ?_ | refine Ev.stC fun _ _ => ?_ | refine Ev.sc (by omega) ?_ | refine Ev.scg (by omega) ?_)
    refine Ev.callP must_true ?_
    rw [decide_eq_false h0]
    repeat (first | refine Ev.s ?_ | refine Ev.newC fun _ _ _ => ?_ | refine Ev.boxC fun _ _ _ => ?_ | refine Ev.stC fun _ _ => ?_ | refine Ev.sc (by omega) ?_ | refine Ev.scg (by omega) ?_)
    exact Ev.ret ⟨B, Mo.refl B, (St.drop1 (St.drop1 (by assumption))), _, rfl, zeroDyV⟩
theorem norm_loop0 {B H : AH} {neg ev rs m : Value} {n : Nat} [hx : RdN B m (limbs n)] (hL : Le B H) (hl : (limbs n).length < 34359738368) :
    ∀ (c i : Nat), i + c = (limbs n).length → (∀ t, t < i → (limbs n).getD t 0 = 0) → (∃ t, t < (limbs n).length ∧ (limbs n).getD t 0 ≠ 0) →
    Ev (fun k l => f78_L0 k neg m ev rs (i64 (32 * i)) l H) (fun o => ∃ i, o = (.exit 0, f78_X_L0 neg m ev rs (i64 (32 * i)), H) ∧ i < (limbs n).length ∧ (∀ t, t < i → (limbs n).getD t 0 = 0) ∧ (limbs n).getD i 0 ≠ 0) := by
  intro c
  have hS := St.start hL
  induction c with
  | zero =>
    intro i hi hz ⟨t, ht, hne⟩
    exact absurd (hz t (by omega)) hne
  | succ c ih =>
    intro i hi hz hex
    refine Ev.succ (fun k l => f78_L0_succ k _ _ _ _ _ l H) ?_
    repeat (first | refine Ev.s ?_ | refine Ev.newC fun _ _ _ => ?_ | refine Ev.boxC fun _ _ _ => ?_ | refine Ev.stC fun _ _ => ?_ | refine Ev.sc (by omega) ?_ | refine Ev.scg (by omega) ?_)
    rw [show 32 * i / 32 = i by omega]
    refine Ev.ixC i rfl (by omega) fun p hp => ?_
    repeat (first | refine Ev.s ?_ | refine Ev.newC fun _ _ _ => ?_ | refine Ev.boxC fun _ _ _ => ?_ | refine Ev.stC fun _ _ => ?_ | refine Ev.sc (by omega) ?_ | refine Ev.scg (by omega) ?_)
    refine Ev.ifp (fun h => ?_) fun h => ?_
    · repeat (first | refine Ev.s ?_ | refine Ev.newC fun _ _ _ => ?_ | refine Ev.boxC fun _ _ _ => ?_ | refine Ev.stC fun _ _ => ?_ | refine Ev.sc (by omega) ?_ | refine Ev.scg (by omega) ?_)
      rw [show 32 * i + 32 = 32 * (i + 1) by omega]
      refine ih (i + 1) (by omega) (fun t ht => ?_) hex
      by_cases e : t < i
      · exact hz t e
      · have : t = i := by omega
        rw [this]; exact h
    · repeat (first | refine Ev.s ?_ | refine Ev.newC fun _ _ _ => ?_ | refine Ev.boxC fun _ _ _ => ?_ | refine Ev.stC fun _ _ => ?_ | refine Ev.sc (by omega) ?_ | refine Ev.scg (by omega) ?_)
      exact Ev.ret ⟨i, rfl, by omega, hz, h⟩
theorem norm_loop1 {B H : AH} {neg ev rs m : Value} {n : Nat} [hx : RdN B m (limbs n)] (hL : Le B H) (hl : (limbs n).length < 34359738368) :
    ∀ (c j : Nat), j + c = nbits n → (∀ t, t < j → n.testBit t = false) → (∃ t, t < nbits n ∧ n.testBit t = true) → nbits n < 4611686018427387904 →
    Ev (fun k l => f78_L1 k neg m ev rs (i64 j) l H) (fun o => o = (.exit 2, f78_X_L1 neg m ev rs (i64 (ctz n)), H)) := by
  intro c
  have hS := St.start hL
  induction c with
  | zero =>
    intro j hj hz ⟨t, ht, hne⟩ _
    rw [hz t (by omega)] at hne; cases hne
  | succ c ih =>
    intro j hj hz hex hnb
    refine Ev.succ (fun k l => f78_L1_succ k _ _ _ _ _ l H) ?_
    refine Ev.callU (Bit_spec (i := j) (by omega) (by omega) hx hL) ?_
    rintro _ rfl
    rw [val_limbs]
    cases hb : n.testBit j with
    | true =>
      repeat (first | refine Ev.s ?_ | refine Ev.newC fun _ _ _ => ?_ | refine Ev.boxC fun _ _ _ => ?_ | refine Ev.stC fun _ _ => ?_ | refine Ev.sc (by omega) ?_ | refine Ev.scg (by omega) ?_)
      rw [ctz_of hz hb]
      exact Ev.ret rfl
    | false =>
      repeat (first | refine Ev.s ?_ | refine Ev.newC fun _ _ _ => ?_ | refine Ev.boxC fun _ _ _ => ?_ | refine Ev.stC fun _ _ => ?_ | refine Ev.sc (by omega) ?_ | refine Ev.scg (by omega) ?_)
      refine ih (j + 1) (by omega) (fun t ht => ?_) hex hnb
      by_cases e : t < j
      · exact hz t e
      · have : t = j := by omega
        rw [this]; exact hb
theorem norm_spec {B H : AH} {xs : List Nat} {m : Value} {neg : Bool} {e : Int} (hl : xs.length < 34359738368) (he : -4611686018427387904 ≤ e ∧ e < 4611686018427387904) (ha : RdN B m xs) (hL : Le B H) :
    Ev (fun k _ => rn k 78 [.bool neg, m, .int .i64 e] H) (An B H fun B' v => DyV B' v (canon (sg neg (val xs)) e)) := by
  refine Ev.fn (fun k => f78_eq k _ _ _ H) ?_
  have hS := St.start hL
  have h32 := nbits_val ha.sm
  repeat (first | refine Ev.s ?_ | refine Ev.newC fun _ _ _ => ?_ | refine Ev.boxC fun _ _ _ => ?_ | refine Ev.stC fun _ _ => ?_ | refine Ev.sc (by omega) ?_ | refine Ev.scg (by omega) ?_)
  have hl1 := limbs_length_le (val_lt ha.sm)
  refine Ev.callC (Trim_spec (by omega) ha) fun w B1 H1 hm1 hS1 h1 => ?_
  generalize val xs = n at *
  repeat (first | refine Ev.s ?_ | refine Ev.newC fun _ _ _ => ?_ | refine Ev.boxC fun _ _ _ => ?_ | refine Ev.stC fun _ _ => ?_ | refine Ev.sc (by omega) ?_ | refine Ev.scg (by omega) ?_)
  by_cases h0 : n = 0
  · subst h0
    rw [decide_eq_true (by rw [limbs_zero]; rfl)]
    repeat (first | refine Ev.s ?_ | refine Ev.newC fun _ _ _ => ?_ | refine Ev.boxC fun _ _ _ => ?_ | refine Ev.stC fun _ _ => ?_ | refine Ev.sc (by omega) ?_ | refine Ev.scg (by omega) ?_)
    refine Ev.doneC ?_
    have : canon (sg neg 0) e = zeroDy := by unfold canon; rw [if_pos (by cases neg <;> rfl)]
    rw [this]
    exact zeroDyV
  have hne : (limbs n).length ≠ 0 := fun h => h0 (limbs_eq_nil.mp (List.length_eq_zero_iff.mp h))
  rw [decide_eq_false hne]
  repeat (first | refine Ev.s ?_ | refine Ev.newC fun _ _ _ => ?_ | refine Ev.boxC fun _ _ _ => ?_ | refine Ev.stC fun _ _ => ?_ | refine Ev.sc (by omega) ?_ | refine Ev.scg (by omega) ?_)
  have hex : ∃ t, t < (limbs n).length ∧ (limbs n).getD t 0 ≠ 0 := by
    refine ⟨(limbs n).length - 1, by omega, limbs_getLast (n := n) _ ?_⟩
    rw [List.getLast?_eq_getElem?, List.getD_eq_getElem?_getD, List.getElem?_eq_getElem (by omega)]; rfl
  refine Ev.bind (Ev.loop (norm_loop0 (St.lel hS1) (by omega) (limbs n).length 0 (by omega) (fun t h => absurd h (by omega)) hex)) ?_
  rintro _ ⟨i, rfl, hi, hz, hnz⟩
  refine Ev.eq (fun k _ => f78_A0_x0 k _ _ _ _ _ _) ?_
  have hz' : ∀ t, t < 32 * i → n.testBit t = false := by
    intro t ht
    have := testBit_val (small_limbs n) t
    rw [val_limbs, hz (t / 32) (by omega), Nat.zero_testBit] at this
    exact this
  have hc := ctz_le_nbits h0
  have hb : n.testBit (ctz n) = true := by
    have h1 := (ctz_spec h0).2
    rw [Nat.testBit_eq_decide_div_mod_eq, h1]; rfl
  have hi2 : 32 * i ≤ nbits n := by
    refine Nat.le_of_not_lt fun hlt => ?_
    rw [hz' (ctz n) (by omega)] at hb; cases hb
  refine Ev.bind (Ev.loop (norm_loop1 (St.lel hS1) (by omega) (nbits n - 32 * i) (32 * i) (by omega) hz' ⟨ctz n, hc, hb⟩ (by omega))) ?_
  rintro _ rfl
  refine Ev.eq (fun k _ => f78_A1_x2 k _ _ _ _ _ _) ?_
  refine Ev.callC (Shr_spec h1 (by omega) (by omega)) fun v2 B2 H2 hm2 hS2 h2 => ?_
  rw [val_limbs] at h2
  have hle : (limbs (n / 2 ^ ctz n)).length ≤ (limbs n).length := limbs_length_mono (Nat.div_le_self _ _)
  refine Ev.callC (Make_spec (by omega) h2) fun v3 B3 H3 hm3 hS3 h3 => ?_
  rw [val_limbs] at h3
  obtain ⟨m3, rfl, hr3⟩ := h3
  rw [sg_abs] at hr3
  repeat (first | refine Ev.s ?_ | refine Ev.newC fun _ _ _ => ?_ | refine Ev.boxC fun _ _ _ => ?_ | refine Ev.stC fun _ _ => ?_ | refine Ev.sc (by omega) ?_ | refine Ev.scg (by omega) ?_)
  refine Ev.doneC ?_
  have hsg : ¬ sg neg n = 0 := by unfold sg; cases neg <;> simp <;> omega
  have hq : n / 2 ^ ctz n ≠ 0 := by have := (ctz_spec h0).2; generalize n / 2 ^ ctz n = q at this; omega
  have : canon (sg neg n) e = ⟨decide (sg neg (n / 2 ^ ctz n) < 0), limbs (n / 2 ^ ctz n), e + ctz n⟩ := by
    unfold canon; rw [if_neg hsg, sg_abs, ← sg_neg, ← sg_neg, decide_eq_true h0, decide_eq_true hq]
  rw [this]
  exact ⟨m3, rfl, hr3⟩
theorem up_loop {H0 B0 : AH} {L : List (Nat × Blk)} : ∀ (c : Nat) (n : Int) (xs : List Nat) (m : Value) (B H : AH), n ≤ 100000 * (c : Int) + 100000 → RdN B m xs → xs.length + 3126 * c < 68719476736 → St H0 B0 B L H → -9223372036854775808 ≤ n → n < 1099511627776 →
    Ev (fun k l => f67_L0 k m (.int .i64 n) l H) (fun o => ∃ B' H' m' ys n', o = (.exit 0, f67_X_L0 m' (.int .i64 n'), H') ∧ n' ≤ 100000 ∧ -9223372036854775808 ≤ n' ∧ val ys * 2 ^ n'.toNat = val xs * 2 ^ n.toNat ∧ ys.length < 68719476736 ∧ RdN B' m' ys ∧ Mo B B' ∧ St H0 B0 B' L H') := by
  intro c
  induction c with
  | zero =>
    intro n xs m B H hn hr hl hS hlo hhi
    refine Ev.succ (fun k l => f67_L0_succ k _ _ l H) ?_
    repeat (first | refine Ev.s ?_ | refine Ev.newC fun _ _ _ => ?_ | refine Ev.boxC fun _ _ _ => ?_ | refine Ev.stC fun _ _ => ?_ | refine Ev.sc (by omega) ?_ | refine Ev.scg (by omega) ?_)
    rw [decide_eq_false (by omega)]
    repeat (first | refine Ev.s ?_ | refine Ev.newC fun _ _ _ => ?_ | refine Ev.boxC fun _ _ _ => ?_ | refine Ev.stC fun _ _ => ?_ | refine Ev.sc (by omega) ?_ | refine Ev.scg (by omega) ?_)
    exact Ev.ret ⟨B, H, m, xs, n, rfl, by omega, hlo, rfl, by omega, hr, Mo.refl B, hS⟩
  | succ c ih =>
    intro n xs m B H hn hr hl hS hlo hhi
    refine Ev.succ (fun k l => f67_L0_succ k _ _ l H) ?_
    repeat (first | refine Ev.s ?_ | refine Ev.newC fun _ _ _ => ?_ | refine Ev.boxC fun _ _ _ => ?_ | refine Ev.stC fun _ _ => ?_ | refine Ev.sc (by omega) ?_ | refine Ev.scg (by omega) ?_)
    by_cases hg : 100000 < n
    · rw [decide_eq_true hg]
      obtain ⟨K, hK⟩ : ∃ K : Nat, K = 100000 := ⟨_, rfl⟩
      rw [show (Value.int .i64 100000) = i64 K by rw [hK]; rfl]
      refine Ev.s ?_
      refine Ev.callC (Shl_spec (n := K) hr (by omega) (by omega)) fun v B1 H1 hm1 hS1 h1 => ?_
      obtain ⟨w, rfl, hw⟩ := h1
      repeat (first | refine Ev.s ?_ | refine Ev.newC fun _ _ _ => ?_ | refine Ev.boxC fun _ _ _ => ?_ | refine Ev.stC fun _ _ => ?_ | refine Ev.sc (by omega) ?_ | refine Ev.scg (by omega) ?_)
      have h2 := limbs_shl_len (x := val xs) (k := K)
      have h3 := limbs_length_le (val_lt hr.sm)
      have e : n.toNat = (n - K).toNat + K := by omega
      have h4 := ih (n - K) _ w B1 H1 (by omega) hw (by omega) hS1 (by omega) (by omega)
      refine h4.mono fun o ho => ?_
      obtain ⟨B', H', m', ys, n', q1, q2, q3, q4, q5, q6, q7, q8⟩ := ho
      refine ⟨B', H', m', ys, n', q1, q2, q3, ?_, q5, q6, hm1.trans q7, q8⟩
      rw [q4, val_limbs, e, Nat.pow_add, Nat.mul_assoc, Nat.mul_comm (2 ^ K)]
    · rw [decide_eq_false hg]
      repeat (first | refine Ev.s ?_ | refine Ev.newC fun _ _ _ => ?_ | refine Ev.boxC fun _ _ _ => ?_ | refine Ev.stC fun _ _ => ?_ | refine Ev.sc (by omega) ?_ | refine Ev.scg (by omega) ?_)
      exact Ev.ret ⟨B, H, m, xs, n, rfl, by omega, hlo, rfl, by omega, hr, Mo.refl B, hS⟩
theorem up_spec {B H : AH} {xs : List Nat} {m : Value} {n : Int} (hl : xs.length < 34359738368) (hn : -9223372036854775808 ≤ n ∧ n < 1099511627) (ha : RdN B m xs) (hL : Le B H) :
    Ev (fun k _ => rn k 67 [m, .int .i64 n] H) (An B H fun B' v => RdN B' v (limbs (val xs * 2 ^ n.toNat))) := by
  refine Ev.fn (fun k => f67_eq k _ _ H) ?_
  have hS := St.start hL
  refine Ev.bind (Ev.loop (up_loop 11000 n xs m B H (by omega) ha (by omega) hS hn.1 (by omega))) ?_
  rintro _ ⟨B1, H1, m1, ys, n1, rfl, q2, q3, q4, q5, q6, q7, q8⟩
  refine Ev.eq (fun k _ => f67_A0_x0 k _ _ _) ?_
  have e : PrimEq (fold1 maxV [.int .i64 n1, .int .i64 0]) (.int .i64 ((n1.toNat : Nat) : Int)) := ⟨by
    show Option.bind (maxV _ _) _ = _
    have : maxV (.int .i64 n1) (.int .i64 0) = some (.int .i64 ((n1.toNat : Nat) : Int)) := by
      show some _ = _
      congr 2; split <;> omega
    rw [this, Option.bind_some]; rfl⟩
  repeat (first | refine Ev.s ?_ | refine Ev.newC fun _ _ _ => ?_ | refine Ev.boxC fun _ _ _ => ?_ | refine Ev.stC fun _ _ => ?_ | refine Ev.sc (by omega) ?_ | refine Ev.scg (by omega) ?_)
  refine Ev.callC (Shl_spec q6 (by omega) (by omega)) fun v B2 H2 hm2 hS2 h2 => ?_
  obtain ⟨w, rfl, hw⟩ := h2
  repeat (first | refine Ev.s ?_ | refine Ev.newC fun _ _ _ => ?_ | refine Ev.boxC fun _ _ _ => ?_ | refine Ev.stC fun _ _ => ?_ | refine Ev.sc (by omega) ?_ | refine Ev.scg (by omega) ?_)
  rw [q4] at hw
  exact Ev.doneC hw
end Go.AM.Y
set_option linter.unusedVariables false
set_option linter.unusedSimpArgs false
set_option maxRecDepth 100000
namespace Go.AM.Y
open Go Go.AM Go.Proofs
attribute [local irreducible] run bin un ld st box newV mkS fldA fld ixA ix slc slc3 build buildS cv cvS ap cpy lenV gOp pickV b2 aIf aChk evalK resume iterD Option.bind

def ResB (B : AH) (v : Value) (d : Dy) (c : Bool) : Prop := ∃ x, v = .tuple #[x, .bool c] ∧ DyV B x d
theorem Make_dspec {B H : AH} {xs : List Nat} {m : Value} {neg : Bool} {e : Int} (hl : xs.length < 34359738368) (ha : RdN B m xs) (hL : Le B H) :
    Ev (fun k _ => rn k 39 [.agg #[.bool neg, m], .int .i64 e] H) (An B H fun B' v => ResB B' v (makeR (sg neg (val xs)) e).1 (makeR (sg neg (val xs)) e).2) := by
  refine Ev.fn (fun k => f39_eq k _ _ H) ?_
  have hS := St.start hL
  have hlim := limbs_length_le (val_lt ha.sm)
  unfold makeR
  repeat (first | refine Ev.s ?_ | refine Ev.newC fun _ _ _ => ?_ | refine Ev.boxC fun _ _ _ => ?_ | refine Ev.stC fun _ _ => ?_ | refine Ev.sc (by omega) ?_ | refine Ev.scg (by omega) ?_)
  refine Ev.callU within_spec ?_
  rintro _ rfl
  by_cases he : -100000 ≤ e ∧ e ≤ 100000
  · rw [decide_eq_true he, if_pos he]
    repeat (first | refine Ev.s ?_ | refine Ev.newC fun _ _ _ => ?_ | refine Ev.boxC fun _ _ _ => ?_ | refine Ev.stC fun _ _ => ?_ | refine Ev.sc (by omega) ?_ | refine Ev.scg (by omega) ?_)
    refine Ev.callC (norm_spec hl (by omega) ha) fun v1 B1 H1 hm1 hS1 h1 => ?_
    have hfit : Fit (canon (sg neg (val xs)) e) := canon_fit (by rw [sg_abs]; exact hlim) hl (by omega)
    generalize canon (sg neg (val xs)) e = d at *
    have h1' := h1
    obtain ⟨m1, rfl, hr1⟩ := h1
    repeat (first | refine Ev.s ?_ | refine Ev.newC fun _ _ _ => ?_ | refine Ev.boxC fun _ _ _ => ?_ | refine Ev.stC fun _ _ => ?_ | refine Ev.sc (by omega) ?_ | refine Ev.scg (by omega) ?_)
    refine Ev.callC (inRange_spec hfit h1') fun v2 B2 H2 hm2 hS2 h2 => ?_
    subst h2
    have hr2 := hr1.mono hm2
    cases hr : inRangeD d with
    | true =>
      repeat (first | refine Ev.s ?_ | refine Ev.newC fun _ _ _ => ?_ | refine Ev.boxC fun _ _ _ => ?_ | refine Ev.stC fun _ _ => ?_ | refine Ev.sc (by omega) ?_ | refine Ev.scg (by omega) ?_)
      exact Ev.doneC ⟨_, rfl, m1, rfl, hr2⟩
    | false =>
      repeat (first | refine Ev.s ?_ | refine Ev.newC fun _ _ _ => ?_ | refine Ev.boxC fun _ _ _ => ?_ | refine Ev.stC fun _ _ => ?_ | refine Ev.sc (by omega) ?_ | refine Ev.scg (by omega) ?_)
      exact Ev.doneC ⟨_, rfl, zeroDyV⟩
  · rw [decide_eq_false he, if_neg he]
    repeat (first | refine Ev.s ?_ | refine Ev.newC fun _ _ _ => ?_ | refine Ev.boxC fun _ _ _ => ?_ | refine Ev.stC fun _ _ => ?_ | refine Ev.sc (by omega) ?_ | refine Ev.scg (by omega) ?_)
    exact Ev.doneC ⟨_, rfl, zeroDyV⟩
theorem From_dspec {B H : AH} {n : Int} (hn : -9223372036854775808 ≤ n ∧ n < 9223372036854775808) (hL : Le B H) :
    Ev (fun k _ => rn k 41 [.int .i64 n] H) (An B H fun B' v => DyV B' v (canon n 0)) := by
  refine Ev.fn (fun k => f41_eq k _ H) ?_
  have hS := St.start hL
  repeat (first | refine Ev.s ?_ | refine Ev.newC fun _ _ _ => ?_ | refine Ev.boxC fun _ _ _ => ?_ | refine Ev.stC fun _ _ => ?_ | refine Ev.sc (by omega) ?_ | refine Ev.scg (by omega) ?_)
  refine Ev.callC (zFrom_spec hn) fun v1 B1 H1 hm1 hS1 h1 => ?_
  obtain ⟨m1, rfl, hr1⟩ := h1
  repeat (first | refine Ev.s ?_ | refine Ev.newC fun _ _ _ => ?_ | refine Ev.boxC fun _ _ _ => ?_ | refine Ev.stC fun _ _ => ?_ | refine Ev.sc (by omega) ?_ | refine Ev.scg (by omega) ?_)
  have hl : (limbs n.natAbs).length ≤ 2 := limbs_length_le (by omega)
  refine Ev.callC (norm_spec (by omega) (by decide) hr1) fun v2 B2 H2 hm2 hS2 h2 => ?_
  rw [val_limbs, sg_int] at h2
  obtain ⟨m2, rfl, hr2⟩ := h2
  repeat (first | refine Ev.s ?_ | refine Ev.newC fun _ _ _ => ?_ | refine Ev.boxC fun _ _ _ => ?_ | refine Ev.stC fun _ _ => ?_ | refine Ev.sc (by omega) ?_ | refine Ev.scg (by omega) ?_)
  exact Ev.doneC ⟨m2, rfl, hr2⟩
end Go.AM.Y
set_option linter.unusedVariables false
set_option linter.unusedSimpArgs false
set_option maxRecDepth 100000
namespace Go.AM.Y
open Go Go.AM Go.Proofs
attribute [local irreducible] run bin un ld st box newV mkS fldA fld ixA ix slc slc3 build buildS cv cvS ap cpy lenV gOp pickV b2 aIf aChk evalK resume iterD Option.bind

theorem DyV.small {B : AH} {v : Value} {d : Dy} (h : DyV B v d) : small d.mag := h.elim fun m hh => hh.2.sm
end Go.AM.Y
set_option linter.unusedVariables false
set_option linter.unusedSimpArgs false
set_option maxRecDepth 100000
namespace Go.AM.Y
open Go Go.AM Go.Proofs
attribute [local irreducible] run bin un ld st box newV mkS fldA fld ixA ix slc slc3 build buildS cv cvS ap cpy lenV gOp pickV b2 aIf aChk evalK resume iterD Option.bind

theorem St.ne01 {H0 B0 B H : AH} {a b : Nat} {K K' : Blk} {L : List (Nat × Blk)} (h : St H0 B0 B ((a, K) :: (b, K') :: L) H) : a ≠ b := by
  have := h.nd
  simp only [List.map_cons, List.nodup_cons, List.mem_cons] at this
  exact fun e => this.1 (.inl e)
end Go.AM.Y
set_option linter.unusedVariables false
set_option linter.unusedSimpArgs false
set_option maxRecDepth 100000
namespace Go.AM.Y
open Go Go.AM Go.Proofs
attribute [local irreducible] run bin un ld st box newV mkS fldA fld ixA ix slc slc3 build buildS cv cvS ap cpy lenV gOp pickV b2 aIf aChk evalK resume iterD Option.bind

theorem cut_loop {B H : AH} {wv neg ev aw m : Value} {x N : Nat} [hx : RdN B m (limbs x)] (hL : Le B H) (hl : (limbs x).length < 34359738368) (hN : N < 4611686018427387904) (s0 : Bool) :
    ∀ (c j : Nat) (s : Bool), j + c = N → s = (s0 || decide (x % 2 ^ j ≠ 0)) →
    Ev (fun k l => f57_L0 k wv neg m ev (.bool s) aw (i64 N) (i64 j) l H) (fun o => o = (.exit 0, f57_X_L0 wv neg m ev (.bool (s0 || decide (x % 2 ^ N ≠ 0))) aw (i64 N), H)) := by
  intro c
  have hS := St.start hL
  induction c with
  | zero =>
    intro j s hj hs
    refine Ev.succ (fun k l => f57_L0_succ k _ _ _ _ _ _ _ _ l H) ?_
    repeat (first | refine Ev.s ?_ | refine Ev.newC fun _ _ _ => ?_ | refine Ev.boxC fun _ _ _ => ?_ | refine Ev.stC fun _ _ => ?_ | refine Ev.sc (by omega) ?_ | refine Ev.scg (by omega) ?_)
    rw [decide_eq_false (by omega)]
    repeat (first | refine Ev.s ?_ | refine Ev.newC fun _ _ _ => ?_ | refine Ev.boxC fun _ _ _ => ?_ | refine Ev.stC fun _ _ => ?_ | refine Ev.sc (by omega) ?_ | refine Ev.scg (by omega) ?_)
    refine Ev.ret ?_
    rw [hs, show j = N by omega]
  | succ c ih =>
    intro j s hj hs
    refine Ev.succ (fun k l => f57_L0_succ k _ _ _ _ _ _ _ _ l H) ?_
    repeat (first | refine Ev.s ?_ | refine Ev.newC fun _ _ _ => ?_ | refine Ev.boxC fun _ _ _ => ?_ | refine Ev.stC fun _ _ => ?_ | refine Ev.sc (by omega) ?_ | refine Ev.scg (by omega) ?_)
    rw [decide_eq_true (by omega)]
    cases s with
    | true =>
      repeat (first | refine Ev.s ?_ | refine Ev.newC fun _ _ _ => ?_ | refine Ev.boxC fun _ _ _ => ?_ | refine Ev.stC fun _ _ => ?_ | refine Ev.sc (by omega) ?_ | refine Ev.scg (by omega) ?_)
      refine Ev.ret ?_
      have : (s0 || decide (x % 2 ^ N ≠ 0)) = true := by
        cases s0 with
        | true => rfl
        | false =>
          have h1 : x % 2 ^ j ≠ 0 := by simpa using hs.symm
          have h2 := mod_more (k := N) h1 (by omega)
          simpa using h2
      rw [this]
    | false =>
      repeat (first | refine Ev.s ?_ | refine Ev.newC fun _ _ _ => ?_ | refine Ev.boxC fun _ _ _ => ?_ | refine Ev.stC fun _ _ => ?_ | refine Ev.sc (by omega) ?_ | refine Ev.scg (by omega) ?_)
      have h1 : s0 = false ∧ x % 2 ^ j = 0 := by
        cases s0 with
        | true => simp at hs
        | false => exact ⟨rfl, by simpa using hs⟩
      refine Ev.callU (Bit_spec (i := j) (by omega) (by omega) hx hL) ?_
      rintro _ rfl
      rw [val_limbs]
      repeat (first | refine Ev.s ?_ | refine Ev.newC fun _ _ _ => ?_ | refine Ev.boxC fun _ _ _ => ?_ | refine Ev.stC fun _ _ => ?_ | refine Ev.sc (by omega) ?_ | refine Ev.scg (by omega) ?_)
      refine ih (j + 1) _ (by omega) ?_
      rw [h1.1, Bool.false_or]
      have := mod_step h1.2
      cases hb : x.testBit j with
      | true => exact (decide_eq_true (this.mpr hb)).symm
      | false => exact (decide_eq_false (fun h => by rw [this.mp h] at hb; cases hb)).symm
theorem cut_spec {H0 B0 B H : AH} {L : List (Nat × Blk)} {p : Nat} {o0 o1 o2 o3 m : Value} {neg sticky away : Bool} {x P : Nat} {e : Int} (hS : St H0 B0 B ((p, ⟨[o0, o1, o2, o3], 73, .fix⟩) :: L) H) (hr : RdN B m (limbs x)) (hl : (limbs x).length < 17179869184) (hP : P < 1000000)
    (he : -2305843009213693952 ≤ e ∧ e < 2305843009213693952) :
    Ev (fun k _ => rn k 57 [ptr p 0, .bool neg, m, .int .i64 e, .bool sticky, i64 P, .bool away] H)
      (fun r => ∃ B' m', r.1 = .tuple #[] ∧ Mo B B' ∧ St H0 B0 B' ((p, ⟨[o0, .bool (cutD neg x e sticky P away).neg, m', .int .i64 (cutD neg x e sticky P away).e], 73, .fix⟩) :: L) r.2 ∧ RdN B' m' (cutD neg x e sticky P away).mag) := by
  have hnb := nbits_val (small_limbs x)
  rw [val_limbs] at hnb
  have j1 : ∀ (q : Nat) (mq : Value) (e' : Int) (B1 H1 : AH), St H0 B0 B1 ((p, ⟨[o0, o1, o2, o3], 73, .fix⟩) :: L) H1 → RdN B1 mq (limbs q) → (limbs q).length < 34359738368 → (-4611686018427387904 ≤ e' ∧ e' < 4611686018427387904) → Mo B B1 →
      canon (sg neg q) e' = cutD neg x e sticky P away →
      Ev (fun k _ => f57_J1 k (ptr p 0) (.bool neg) mq (.int .i64 e') H1) (fun r => ∃ B' m', r.1 = .tuple #[] ∧ Mo B B' ∧ St H0 B0 B' ((p, ⟨[o0, .bool (cutD neg x e sticky P away).neg, m', .int .i64 (cutD neg x e sticky P away).e], 73, .fix⟩) :: L) r.2 ∧ RdN B' m' (cutD neg x e sticky P away).mag) := by
    intro q mq e' B1 H1 hS1 hr1 hl1 he1 hm1 hc
    refine Ev.eq (fun k _ => f57_J1_eq k _ _ _ _ _) ?_
    refine Ev.callC (norm_spec hl1 he1 hr1) fun v3 B3 H3 hm3 hS3 h3 => ?_
    rw [val_limbs, hc] at h3
    obtain ⟨m3, rfl, hr3⟩ := h3
    generalize cutD neg x e sticky P away = d at *
    refine Ev.s ?_
    refine Ev.s ?_
    refine Ev.stC fun H5 hS5 => ?_
    exact Ev.ret ⟨B3, m3, rfl, hm1.trans hm3, hS5, hr3⟩
  have j0 : ∀ (q : Nat) (mq : Value) (e' : Int) (st : Bool) (B1 H1 : AH), St H0 B0 B1 ((p, ⟨[o0, o1, o2, o3], 73, .fix⟩) :: L) H1 → RdN B1 mq (limbs q) → (limbs q).length < 17179869184 → (-4611686018427387904 ≤ e' ∧ e' < 4611686018427387904) → Mo B B1 →
      canon (sg neg (if (st && away) = true then q + 1 else q)) e' = cutD neg x e sticky P away →
      Ev (fun k _ => f57_J0 k (ptr p 0) (.bool neg) mq (.int .i64 e') (.bool st) (.bool away) H1) (fun r => ∃ B' m', r.1 = .tuple #[] ∧ Mo B B' ∧ St H0 B0 B' ((p, ⟨[o0, .bool (cutD neg x e sticky P away).neg, m', .int .i64 (cutD neg x e sticky P away).e], 73, .fix⟩) :: L) r.2 ∧ RdN B' m' (cutD neg x e sticky P away).mag) := by
    intro q mq e' st B1 H1 hS1 hr1 hl1 he1 hm1 hc
    refine Ev.eq (fun k _ => f57_J0_eq k _ _ _ _ _ _ _) ?_
    cases st with
    | false =>
      repeat (first | refine Ev.s ?_ | refine Ev.newC fun _ _ _ => ?_ | refine Ev.boxC fun _ _ _ => ?_ | refine Ev.stC fun _ _ => ?_ | refine Ev.sc (by omega) ?_ | refine Ev.scg (by omega) ?_)
      exact j1 q mq e' B1 H1 hS1 hr1 (by omega) he1 hm1 hc
    | true =>
      cases away with
      | false =>
        repeat (first | refine Ev.s ?_ | refine Ev.newC fun _ _ _ => ?_ | refine Ev.boxC fun _ _ _ => ?_ | refine Ev.stC fun _ _ => ?_ | refine Ev.sc (by omega) ?_ | refine Ev.scg (by omega) ?_)
        exact j1 q mq e' B1 H1 hS1 hr1 (by omega) he1 hm1 hc
      | true =>
        repeat (first | refine Ev.s ?_ | refine Ev.newC fun _ _ _ => ?_ | refine Ev.boxC fun _ _ _ => ?_ | refine Ev.stC fun _ _ => ?_ | refine Ev.sc (by omega) ?_ | refine Ev.scg (by omega) ?_)
        refine Ev.callC (From_spec (n := 1) (by decide)) fun v2 B2 H2 hm2 hS2 h2 => ?_
        have hl1' : (limbs 1).length ≤ 1 := limbs_length_le (by decide)
        refine Ev.callC (Add_spec (hr1.mono hm2) h2 (by omega) (by omega)) fun v3 B3 H3 hm3 hS3 h3 => ?_
        rw [val_limbs, val_limbs] at h3
        have hlen : (limbs (q + 1)).length ≤ (limbs q).length + 1 := by
          refine limbs_length_le ?_
          have := val_lt (small_limbs q)
          rw [val_limbs] at this
          rw [Nat.pow_succ]
          generalize 4294967296 ^ (limbs q).length = PP at *
          omega
        exact j1 (q + 1) v3 e' B3 H3 hS3 h3 (by omega) he1 ((hm1.trans hm2).trans hm3) hc
  refine Ev.fn (fun k => f57_eq k _ _ _ _ _ _ _ H) ?_
  refine Ev.callU (Bits_spec (by omega) hr (St.lel hS)) ?_
  rintro _ rfl
  rw [val_limbs]
  refine Ev.prim (bin_sub64 (by omega)) ?_
  refine Ev.s ?_
  by_cases hn : (0 : Int) < (nbits x : Int) - (P : Int)
  · rw [decide_eq_true hn, show (nbits x : Int) - (P : Int) = ((nbits x - P : Nat) : Int) by omega]
    repeat (first | refine Ev.s ?_ | refine Ev.newC fun _ _ _ => ?_ | refine Ev.boxC fun _ _ _ => ?_ | refine Ev.stC fun _ _ => ?_ | refine Ev.sc (by omega) ?_ | refine Ev.scg (by omega) ?_)
    refine Ev.bind (Ev.loop (cut_loop (N := nbits x - P) (St.lel hS) (by omega) (by omega) sticky (nbits x - P) 0 sticky (by omega) (by rw [Nat.pow_zero, Nat.mod_one]; simp))) ?_
    rintro _ rfl
    refine Ev.eq (fun k _ => f57_A0_x0 k _ _ _ _ _ _ _ _) ?_
    refine Ev.callC (Shr_spec hr (by omega) (by omega)) fun v2 B2 H2 hm2 hS2 h2 => ?_
    rw [val_limbs] at h2
    have hle : (limbs (x / 2 ^ (nbits x - P))).length ≤ (limbs x).length := limbs_length_mono (Nat.div_le_self _ _)
    repeat (first | refine Ev.s ?_ | refine Ev.newC fun _ _ _ => ?_ | refine Ev.boxC fun _ _ _ => ?_ | refine Ev.stC fun _ _ => ?_ | refine Ev.sc (by omega) ?_ | refine Ev.scg (by omega) ?_)
    exact j0 _ v2 _ _ B2 H2 hS2 h2 (by omega) (by omega) hm2 rfl
  · rw [decide_eq_false hn]
    repeat (first | refine Ev.s ?_ | refine Ev.newC fun _ _ _ => ?_ | refine Ev.boxC fun _ _ _ => ?_ | refine Ev.stC fun _ _ => ?_ | refine Ev.sc (by omega) ?_ | refine Ev.scg (by omega) ?_)
    refine j0 x m e sticky B H hS hr hl (by omega) (Mo.refl B) ?_
    unfold cutD
    have : nbits x - P = 0 := by omega
    rw [this, Nat.pow_zero, Nat.mod_one, Nat.div_one]
    simp
end Go.AM.Y
set_option linter.unusedVariables false
set_option linter.unusedSimpArgs false
set_option maxRecDepth 100000
namespace Go.AM.Y
open Go Go.AM Go.Proofs
attribute [local irreducible] run bin un ld st box newV mkS fldA fld ixA ix slc slc3 build buildS cv cvS ap cpy lenV gOp pickV b2 aIf aChk evalK resume iterD Option.bind

theorem Round_dspec {B H : AH} {x : Dy} {v : Value} {p : Int} {up : Bool} (hlx : x.mag.length < 8589934592) (hx : DyV B v x) (hL : Le B H) :
    Ev (fun k _ => rn k 18 [v, .int .i64 p, .bool up] H) (An B H fun B' v => ResV B' v (roundR x p up).1 (roundR x p up).2) := by
  refine Ev.fn (fun k => f18_eq k _ _ _ H) ?_
  obtain ⟨mx, rfl, hrx⟩ := hx
  have hS := St.start hL
  unfold roundR
  repeat (first | refine Ev.s ?_ | refine Ev.newC fun _ _ _ => ?_ | refine Ev.boxC fun _ _ _ => ?_ | refine Ev.stC fun _ _ => ?_ | refine Ev.sc (by omega) ?_ | refine Ev.scg (by omega) ?_)
  refine Ev.bsE (by decide) fun bs H2 hS2 => ?_
  cases hr : rightD x with
  | true =>
    have bx := right_bounds hr
    refine Ev.callS (right1_true (xs := x.mag) (by omega) hr) fun v3 B3 H3 hm3 hS3 e3 => ?_
    subst e3
    have hrx := hrx.mono hm3
    repeat (first | refine Ev.s ?_ | refine Ev.newC fun _ _ _ => ?_ | refine Ev.boxC fun _ _ _ => ?_ | refine Ev.stC fun _ _ => ?_ | refine Ev.sc (by omega) ?_ | refine Ev.scg (by omega) ?_)
    by_cases hp : 2 ≤ p ∧ p ≤ 400
    · rw [if_pos ⟨rfl, hp⟩]
      refine Ev.callP (prec_true hp) ?_
      repeat (first | refine Ev.s ?_ | refine Ev.newC fun _ _ _ => ?_ | refine Ev.boxC fun _ _ _ => ?_ | refine Ev.stC fun _ _ => ?_ | refine Ev.sc (by omega) ?_ | refine Ev.scg (by omega) ?_)
      have hS4 := hS3.drop1
      have hrx' : RdN B3 mx (limbs (val x.mag)) := by rw [← right_limbs hr hrx.sm]; exact hrx
      have hlen := limbs_length_le (val_lt hrx.sm)
      obtain ⟨P, rfl⟩ : ∃ P : Nat, p = (P : Int) := ⟨p.toNat, by omega⟩
      rw [Int.toNat_natCast]
      refine Ev.b2 (cut_spec (P := P) hS4 hrx' (by omega) (by omega) (by omega)) fun v5 H5 h5 => ?_
      obtain ⟨B5, m5, e5, hm5, hS5, hr5⟩ := h5
      simp only at e5 hS5
      subst e5
      refine Ev.eq (fun k _ => f18_J0_eq k _ _ _) ?_
      refine Ev.callS (told_spec hS5 (cutD_fit (by omega) (by omega)) hr5) fun v6 B6 H6 hm6 hS6 h6 => ?_
      obtain ⟨o, rfl, mo, rfl, hro⟩ := h6
      repeat (first | refine Ev.s ?_ | refine Ev.newC fun _ _ _ => ?_ | refine Ev.boxC fun _ _ _ => ?_ | refine Ev.stC fun _ _ => ?_ | refine Ev.sc (by omega) ?_ | refine Ev.scg (by omega) ?_)
      exact Ev.doneC ⟨_, rfl, mo, rfl, hro⟩
    · rw [if_neg (fun h => hp h.2)]
      refine Ev.callS (prec_false hp) fun v4 B4 H4 hm4 hS4 e4 => ?_
      subst e4
      repeat (first | refine Ev.s ?_ | refine Ev.newC fun _ _ _ => ?_ | refine Ev.boxC fun _ _ _ => ?_ | refine Ev.stC fun _ _ => ?_ | refine Ev.sc (by omega) ?_ | refine Ev.scg (by omega) ?_)
      refine Ev.eq (fun k _ => f18_J0_eq k _ _ _) ?_
      refine Ev.callS (told_spec (xs := []) hS4.drop1 zeroFit RdN.nil) fun v6 B6 H6 hm6 hS6 h6 => ?_
      rw [told_one] at h6
      obtain ⟨o, rfl, mo, rfl, hro⟩ := h6
      repeat (first | refine Ev.s ?_ | refine Ev.newC fun _ _ _ => ?_ | refine Ev.boxC fun _ _ _ => ?_ | refine Ev.stC fun _ _ => ?_ | refine Ev.sc (by omega) ?_ | refine Ev.scg (by omega) ?_)
      exact Ev.doneC ⟨_, rfl, mo, rfl, hro⟩
  | false =>
    refine Ev.callS (right1_false (xs := x.mag) (by omega) hr) fun v3 B3 H3 hm3 hS3 e3 => ?_
    subst e3
    rw [if_neg (fun h => by cases h.1)]
    repeat (first | refine Ev.s ?_ | refine Ev.newC fun _ _ _ => ?_ | refine Ev.boxC fun _ _ _ => ?_ | refine Ev.stC fun _ _ => ?_ | refine Ev.sc (by omega) ?_ | refine Ev.scg (by omega) ?_)
    refine Ev.eq (fun k _ => f18_J0_eq k _ _ _) ?_
    refine Ev.callS (told_spec (xs := []) hS3.drop1 zeroFit RdN.nil) fun v6 B6 H6 hm6 hS6 h6 => ?_
    rw [told_one] at h6
    obtain ⟨o, rfl, mo, rfl, hro⟩ := h6
    repeat (first | refine Ev.s ?_ | refine Ev.newC fun _ _ _ => ?_ | refine Ev.boxC fun _ _ _ => ?_ | refine Ev.stC fun _ _ => ?_ | refine Ev.sc (by omega) ?_ | refine Ev.scg (by omega) ?_)
    exact Ev.doneC ⟨_, rfl, mo, rfl, hro⟩
end Go.AM.Y
set_option linter.unusedVariables false
set_option linter.unusedSimpArgs false
set_option maxRecDepth 100000
namespace Go.AM.Y
open Go Go.AM Go.Proofs
attribute [local irreducible] run bin un ld st box newV mkS fldA fld ixA ix slc slc3 build buildS cv cvS ap cpy lenV gOp pickV b2 aIf aChk evalK resume iterD Option.bind

theorem Div_dspec {B H : AH} {x y : Dy} {v w : Value} {p : Int} {away : Bool} (hlx : x.mag.length < 33554432) (hly : y.mag.length < 33554432) (hx : DyV B v x) (hy : DyV B w y) (hL : Le B H) :
    Ev (fun k _ => rn k 22 [v, w, .int .i64 p, .bool away] H) (An B H fun B' v => ResV B' v (divR x y p away).1 (divR x y p away).2) := by
  refine Ev.fn (fun k => f22_eq k _ _ _ _ H) ?_
  obtain ⟨mx, rfl, hrx⟩ := hx
  obtain ⟨my, rfl, hry⟩ := hy
  have hS := St.start hL
  unfold divR
  repeat (first | refine Ev.s ?_ | refine Ev.newC fun _ _ _ => ?_ | refine Ev.boxC fun _ _ _ => ?_ | refine Ev.stC fun _ _ => ?_ | refine Ev.sc (by omega) ?_ | refine Ev.scg (by omega) ?_)
  refine Ev.bsE (by decide) fun bs H2 hS2 => ?_
  have hne := St.ne01 hS2
  cases hr : (rightD x && rightD y) with
  | true =>
    have hrr := hr
    rw [Bool.and_eq_true] at hrr
    have bx := right_bounds hrr.1
    have bY := right_bounds hrr.2
    refine Ev.callS (right2_true (xs := x.mag) (xs2 := y.mag) (by omega) (by omega) hrr.1 hrr.2) fun v3 B3 H3 hm3 hS3 e3 => ?_
    subst e3
    have hrx := hrx.mono hm3
    have hry := hry.mono hm3
    repeat (first | refine Ev.s ?_ | refine Ev.newC fun _ _ _ => ?_ | refine Ev.boxC fun _ _ _ => ?_ | refine Ev.stC fun _ _ => ?_ | refine Ev.sc (by omega) ?_ | refine Ev.scg (by omega) ?_)
    by_cases hp : 2 ≤ p ∧ p ≤ 400
    · rw [if_pos ⟨rfl, hp⟩]
      refine Ev.callP (prec_true hp) ?_
      repeat (first | refine Ev.s ?_ | refine Ev.newC fun _ _ _ => ?_ | refine Ev.boxC fun _ _ _ => ?_ | refine Ev.stC fun _ _ => ?_ | refine Ev.sc (by omega) ?_ | refine Ev.scg (by omega) ?_)
      refine Ev.callC (dzero_spec (d := y) ⟨my, rfl, hry⟩) fun v4 B4 H4 hm4 hS4 e4 => ?_
      subst e4
      have hrx := hrx.mono hm4
      have hry := hry.mono hm4
      by_cases hy0 : y.mag.length = 0
      · rw [if_pos hy0, decide_eq_true hy0]
        repeat (first | refine Ev.s ?_ | refine Ev.newC fun _ _ _ => ?_ | refine Ev.boxC fun _ _ _ => ?_ | refine Ev.stC fun _ _ => ?_ | refine Ev.sc (by omega) ?_ | refine Ev.scg (by omega) ?_)
        refine Ev.callS (must_false (by decide)) fun v5 B5 H5 hm5 hS5 e5 => ?_
        subst e5
        repeat (first | refine Ev.s ?_ | refine Ev.newC fun _ _ _ => ?_ | refine Ev.boxC fun _ _ _ => ?_ | refine Ev.stC fun _ _ => ?_ | refine Ev.sc (by omega) ?_ | refine Ev.scg (by omega) ?_)
        refine Ev.eq (fun k _ => f22_J0_eq k _ _ _) ?_
        refine Ev.callS (told_spec (xs := []) hS5.drop1 zeroFit RdN.nil) fun v6 B6 H6 hm6 hS6 h6 => ?_
        rw [told_three] at h6
        obtain ⟨o, rfl, mo, rfl, hro⟩ := h6
        repeat (first | refine Ev.s ?_ | refine Ev.newC fun _ _ _ => ?_ | refine Ev.boxC fun _ _ _ => ?_ | refine Ev.stC fun _ _ => ?_ | refine Ev.sc (by omega) ?_ | refine Ev.scg (by omega) ?_)
        exact Ev.doneC ⟨_, rfl, mo, rfl, hro⟩
      rw [if_neg hy0, decide_eq_false hy0]
      repeat (first | refine Ev.s ?_ | refine Ev.newC fun _ _ _ => ?_ | refine Ev.boxC fun _ _ _ => ?_ | refine Ev.stC fun _ _ => ?_ | refine Ev.sc (by omega) ?_ | refine Ev.scg (by omega) ?_)
      refine Ev.callP must_true ?_
      rw [decide_eq_true rfl]
      repeat (first | refine Ev.s ?_ | refine Ev.newC fun _ _ _ => ?_ | refine Ev.boxC fun _ _ _ => ?_ | refine Ev.stC fun _ _ => ?_ | refine Ev.sc (by omega) ?_ | refine Ev.scg (by omega) ?_)
      refine Ev.callC (dzero_spec (d := x) ⟨mx, rfl, hrx⟩) fun v5 B5 H5 hm5 hS5 e5 => ?_
      subst e5
      have hrx := hrx.mono hm5
      have hry := hry.mono hm5
      by_cases hx0 : x.mag.length = 0
      · rw [if_pos hx0, decide_eq_true hx0]
        repeat (first | refine Ev.s ?_ | refine Ev.newC fun _ _ _ => ?_ | refine Ev.boxC fun _ _ _ => ?_ | refine Ev.stC fun _ _ => ?_ | refine Ev.sc (by omega) ?_ | refine Ev.scg (by omega) ?_)
        refine Ev.eq (fun k _ => f22_J0_eq k _ _ _) ?_
        refine Ev.callS (told_spec (xs := []) hS5.drop1 zeroFit RdN.nil) fun v6 B6 H6 hm6 hS6 h6 => ?_
        rw [told_zero] at h6
        obtain ⟨o, rfl, mo, rfl, hro⟩ := h6
        repeat (first | refine Ev.s ?_ | refine Ev.newC fun _ _ _ => ?_ | refine Ev.boxC fun _ _ _ => ?_ | refine Ev.stC fun _ _ => ?_ | refine Ev.sc (by omega) ?_ | refine Ev.scg (by omega) ?_)
        exact Ev.doneC ⟨_, rfl, mo, rfl, hro⟩
      rw [if_neg hx0, decide_eq_false hx0]
      have hnx := nbits_val hrx.sm
      have hny := nbits_val hry.sm
      repeat (first | refine Ev.s ?_ | refine Ev.newC fun _ _ _ => ?_ | refine Ev.boxC fun _ _ _ => ?_ | refine Ev.stC fun _ _ => ?_ | refine Ev.sc (by omega) ?_ | refine Ev.scg (by omega) ?_)
      refine Ev.callU (Bits_spec (by omega) hry (St.lel hS5)) ?_
      rintro _ rfl
      repeat (first | refine Ev.s ?_ | refine Ev.newC fun _ _ _ => ?_ | refine Ev.boxC fun _ _ _ => ?_ | refine Ev.stC fun _ _ => ?_ | refine Ev.sc (by omega) ?_ | refine Ev.scg (by omega) ?_)
      refine Ev.callU (Bits_spec (by omega) hrx (St.lel hS5)) ?_
      rintro _ rfl
      repeat (first | refine Ev.s ?_ | refine Ev.newC fun _ _ _ => ?_ | refine Ev.boxC fun _ _ _ => ?_ | refine Ev.stC fun _ _ => ?_ | refine Ev.sc (by omega) ?_ | refine Ev.scg (by omega) ?_)
      obtain ⟨P, rfl⟩ : ∃ P : Nat, p = (P : Int) := ⟨p.toNat, by omega⟩
      rw [show (if (P : Int) + 2 + (nbits (val y.mag) : Int) - (nbits (val x.mag) : Int) > 0 then (P : Int) + 2 + (nbits (val y.mag) : Int) - (nbits (val x.mag) : Int) else 0) = ((divK x y P : Nat) : Int) by unfold divK; split <;> omega]
      have hK : divK x y P ≤ P + 2 + nbits (val y.mag) := Nat.sub_le _ _
      refine Ev.callC (up_spec (by omega) (by omega) hrx) fun v6 B6 H6 hm6 hS6 h6 => ?_
      rw [Int.toNat_natCast] at h6 ⊢
      have hry := hry.mono hm6
      repeat (first | refine Ev.s ?_ | refine Ev.newC fun _ _ _ => ?_ | refine Ev.boxC fun _ _ _ => ?_ | refine Ev.stC fun _ _ => ?_ | refine Ev.sc (by omega) ?_ | refine Ev.scg (by omega) ?_)
      have hlim := limbs_length_le (val_lt hrx.sm)
      have hsl := limbs_shl_len (x := val x.mag) (k := divK x y P)
      have hyne : val y.mag ≠ 0 := val_ne (right_limbs hrr.2 hry.sm) hy0
      refine Ev.callC (DivMod_spec h6 hry (by omega) (by omega) hyne) fun v7 B7 H7 hm7 hS7 h7 => ?_
      obtain ⟨q, r, rfl, hq, hrem⟩ := h7
      rw [val_limbs] at hq hrem
      repeat (first | refine Ev.s ?_ | refine Ev.newC fun _ _ _ => ?_ | refine Ev.boxC fun _ _ _ => ?_ | refine Ev.stC fun _ _ => ?_ | refine Ev.sc (by omega) ?_ | refine Ev.scg (by omega) ?_)
      have hS8 := hS7.drop1
      have hql := limbs_length_mono (Nat.div_le_self (val x.mag * 2 ^ divK x y P) (val y.mag))
      refine Ev.b2 (cut_spec (P := P) hS8 hq (by omega) (by omega) (by omega)) fun v9 H9 h9 => ?_
      have hsame : cutD (x.neg != y.neg) (val x.mag * 2 ^ divK x y P / val y.mag) (x.e - y.e - (divK x y P : Nat)) (decide (0 < (limbs (val x.mag * 2 ^ divK x y P % val y.mag)).length)) P (away != (x.neg != y.neg)) = divD x y P away := by
        unfold divD; congr 1; exact decide_eq_decide.mpr (by rw [Nat.pos_iff_ne_zero, ne_eq, List.length_eq_zero_iff, limbs_eq_nil])
      rw [hsame] at h9
      have hfit : Fit (divD x y P away) := cutD_fit (by omega) (by omega)
      obtain ⟨B9, m9, e9, hm9, hS9, hr9⟩ := h9
      simp only at e9 hS9
      subst e9
      refine Ev.eq (fun k _ => f22_J0_eq k _ _ _) ?_
      refine Ev.callS (told_spec hS9 hfit hr9) fun v6 B6 H6 hm6 hS6 h6 => ?_
      obtain ⟨o, rfl, mo, rfl, hro⟩ := h6
      repeat (first | refine Ev.s ?_ | refine Ev.newC fun _ _ _ => ?_ | refine Ev.boxC fun _ _ _ => ?_ | refine Ev.stC fun _ _ => ?_ | refine Ev.sc (by omega) ?_ | refine Ev.scg (by omega) ?_)
      exact Ev.doneC ⟨_, rfl, mo, rfl, hro⟩
    · rw [if_neg (fun h => hp h.2)]
      refine Ev.callS (prec_false hp) fun v4 B4 H4 hm4 hS4 e4 => ?_
      subst e4
      repeat (first | refine Ev.s ?_ | refine Ev.newC fun _ _ _ => ?_ | refine Ev.boxC fun _ _ _ => ?_ | refine Ev.stC fun _ _ => ?_ | refine Ev.sc (by omega) ?_ | refine Ev.scg (by omega) ?_)
      refine Ev.eq (fun k _ => f22_J0_eq k _ _ _) ?_
      refine Ev.callS (told_spec (xs := []) hS4.drop1 zeroFit RdN.nil) fun v6 B6 H6 hm6 hS6 h6 => ?_
      rw [told_one] at h6
      obtain ⟨o, rfl, mo, rfl, hro⟩ := h6
      repeat (first | refine Ev.s ?_ | refine Ev.newC fun _ _ _ => ?_ | refine Ev.boxC fun _ _ _ => ?_ | refine Ev.stC fun _ _ => ?_ | refine Ev.sc (by omega) ?_ | refine Ev.scg (by omega) ?_)
      exact Ev.doneC ⟨_, rfl, mo, rfl, hro⟩
  | false =>
    refine Ev.callS (right2_false (xs := x.mag) (xs2 := y.mag) (by omega) (by omega) hr hne) fun v3 B3 H3 hm3 hS3 e3 => ?_
    subst e3
    rw [if_neg (fun h => by cases h.1)]
    repeat (first | refine Ev.s ?_ | refine Ev.newC fun _ _ _ => ?_ | refine Ev.boxC fun _ _ _ => ?_ | refine Ev.stC fun _ _ => ?_ | refine Ev.sc (by omega) ?_ | refine Ev.scg (by omega) ?_)
    refine Ev.eq (fun k _ => f22_J0_eq k _ _ _) ?_
    refine Ev.callS (told_spec (xs := []) hS3.drop1 zeroFit RdN.nil) fun v6 B6 H6 hm6 hS6 h6 => ?_
    rw [told_one] at h6
    obtain ⟨o, rfl, mo, rfl, hro⟩ := h6
    repeat (first | refine Ev.s ?_ | refine Ev.newC fun _ _ _ => ?_ | refine Ev.boxC fun _ _ _ => ?_ | refine Ev.stC fun _ _ => ?_ | refine Ev.sc (by omega) ?_ | refine Ev.scg (by omega) ?_)
    exact Ev.doneC ⟨_, rfl, mo, rfl, hro⟩
end Go.AM.Y
set_option linter.unusedVariables false
set_option linter.unusedSimpArgs false
set_option maxRecDepth 100000
namespace Go.AM.Y
open Go Go.AM Go.Proofs
attribute [local irreducible] run bin un ld st box newV mkS fldA fld ixA ix slc slc3 build buildS cv cvS ap cpy lenV gOp pickV b2 aIf aChk evalK resume iterD Option.bind

theorem same_loop {H0 B0 B H : AH} {L : List (Nat × Blk)} {p q : Nat} {nx ny mx my : Value} {xs ys : List Nat} [hS : St H0 B0 B L H] [hp : InL p ⟨[nx, mx], 24, .fix⟩ L] [hq : InL q ⟨[ny, my], 24, .fix⟩ L] [hx : RdN B mx xs] [hy : RdN B my ys]
    (hl : xs.length = ys.length) (hlx : xs.length < 34359738368) : ∀ (c i : Nat), i + c = xs.length → (∀ t, t < i → xs.getD t 0 = ys.getD t 0) →
    Ev (fun k n => f103_L0 k (ptr p 0) (ptr q 0) (i64 i) n H) (fun o => (o = (.exit 0, f103_X_L0 unk, H) ∧ xs = ys) ∨ (o = (.ret, f103_X_L0 (.bool false), H) ∧ xs ≠ ys)) := by
  intro c
  induction c with
  | zero =>
    intro i hi hz
    refine Ev.succ (fun k n => f103_L0_succ k _ _ _ n H) ?_
    repeat (first | refine Ev.s ?_ | refine Ev.newC fun _ _ _ => ?_ | refine Ev.boxC fun _ _ _ => ?_ | refine Ev.stC fun _ _ => ?_ | refine Ev.sc (by omega) ?_ | refine Ev.scg (by omega) ?_)
    rw [decide_eq_false (by omega)]
    repeat (first | refine Ev.s ?_ | refine Ev.newC fun _ _ _ => ?_ | refine Ev.boxC fun _ _ _ => ?_ | refine Ev.stC fun _ _ => ?_ | refine Ev.sc (by omega) ?_ | refine Ev.scg (by omega) ?_)
    refine Ev.ret (.inl ⟨rfl, ?_⟩)
    apply List.ext_getElem? 
    intro t
    by_cases ht : t < xs.length
    · have := hz t (by omega)
      rw [List.getD_eq_getElem?_getD, List.getD_eq_getElem?_getD, List.getElem?_eq_getElem ht, List.getElem?_eq_getElem (by omega)] at this
      rw [List.getElem?_eq_getElem ht, List.getElem?_eq_getElem (by omega)]
      exact congrArg some this
    · rw [List.getElem?_eq_none (by omega), List.getElem?_eq_none (by omega)]
  | succ c ih =>
    intro i hi hz
    refine Ev.succ (fun k n => f103_L0_succ k _ _ _ n H) ?_
    repeat (first | refine Ev.s ?_ | refine Ev.newC fun _ _ _ => ?_ | refine Ev.boxC fun _ _ _ => ?_ | refine Ev.stC fun _ _ => ?_ | refine Ev.sc (by omega) ?_ | refine Ev.scg (by omega) ?_)
    rw [decide_eq_true (by omega)]
    repeat (first | refine Ev.s ?_ | refine Ev.newC fun _ _ _ => ?_ | refine Ev.boxC fun _ _ _ => ?_ | refine Ev.stC fun _ _ => ?_ | refine Ev.sc (by omega) ?_ | refine Ev.scg (by omega) ?_)
    refine Ev.ixC i rfl (by omega) fun a ha => ?_
    repeat (first | refine Ev.s ?_ | refine Ev.newC fun _ _ _ => ?_ | refine Ev.boxC fun _ _ _ => ?_ | refine Ev.stC fun _ _ => ?_ | refine Ev.sc (by omega) ?_ | refine Ev.scg (by omega) ?_)
    refine Ev.ixC i rfl (by omega) fun b hb => ?_
    repeat (first | refine Ev.s ?_ | refine Ev.newC fun _ _ _ => ?_ | refine Ev.boxC fun _ _ _ => ?_ | refine Ev.stC fun _ _ => ?_ | refine Ev.sc (by omega) ?_ | refine Ev.scg (by omega) ?_)
    refine Ev.ifp (fun h => ?_) fun h => ?_
    · repeat (first | refine Ev.s ?_ | refine Ev.newC fun _ _ _ => ?_ | refine Ev.boxC fun _ _ _ => ?_ | refine Ev.stC fun _ _ => ?_ | refine Ev.sc (by omega) ?_ | refine Ev.scg (by omega) ?_)
      exact Ev.ret (.inr ⟨rfl, fun e => h (by rw [e])⟩)
    · repeat (first | refine Ev.s ?_ | refine Ev.newC fun _ _ _ => ?_ | refine Ev.boxC fun _ _ _ => ?_ | refine Ev.stC fun _ _ => ?_ | refine Ev.sc (by omega) ?_ | refine Ev.scg (by omega) ?_)
      refine ih (i + 1) (by omega) fun t ht => ?_
      by_cases e : t < i
      · exact hz t e
      · rw [show t = i by omega]; exact Decidable.of_not_not h
theorem Same_ispec {B H : AH} {xs ys : List Nat} {mx my : Value} {nx ny : Bool} (hlx : xs.length < 34359738368) (hx : RdN B mx xs) (hy : RdN B my ys) (hL : Le B H) :
    Ev (fun k _ => rn k 103 [.agg #[.bool nx, mx], .agg #[.bool ny, my]] H) (An B H fun _ v => v = .bool (decide (nx = ny ∧ xs = ys))) := by
  refine Ev.fn (fun k => f103_eq k _ _ H) ?_
  have hS := St.start hL
  repeat (first | refine Ev.s ?_ | refine Ev.newC fun _ _ _ => ?_ | refine Ev.boxC fun _ _ _ => ?_ | refine Ev.stC fun _ _ => ?_ | refine Ev.sc (by omega) ?_ | refine Ev.scg (by omega) ?_)
  cases hb : (nx != ny) with
  | true =>
    have h3 : nx ≠ ny := by simpa using hb
    repeat (first | refine Ev.s ?_ | refine Ev.newC fun _ _ _ => ?_ | refine Ev.boxC fun _ _ _ => ?_ | refine Ev.stC fun _ _ => ?_ | refine Ev.sc (by omega) ?_ | refine Ev.scg (by omega) ?_)
    exact Ev.doneC (by simp [h3])
  | false =>
    have h3 : nx = ny := by simpa using hb
    repeat (first | refine Ev.s ?_ | refine Ev.newC fun _ _ _ => ?_ | refine Ev.boxC fun _ _ _ => ?_ | refine Ev.stC fun _ _ => ?_ | refine Ev.sc (by omega) ?_ | refine Ev.scg (by omega) ?_)
    by_cases h : xs.length ≠ ys.length
    · rw [decide_eq_true h]
      repeat (first | refine Ev.s ?_ | refine Ev.newC fun _ _ _ => ?_ | refine Ev.boxC fun _ _ _ => ?_ | refine Ev.stC fun _ _ => ?_ | refine Ev.sc (by omega) ?_ | refine Ev.scg (by omega) ?_)
      exact Ev.doneC (by rw [decide_eq_false]; intro e; exact h (by rw [e.2]))
    · rw [decide_eq_false h]
      repeat (first | refine Ev.s ?_ | refine Ev.newC fun _ _ _ => ?_ | refine Ev.boxC fun _ _ _ => ?_ | refine Ev.stC fun _ _ => ?_ | refine Ev.sc (by omega) ?_ | refine Ev.scg (by omega) ?_)
      refine Ev.bind (Ev.loop (same_loop (xs := xs) (ys := ys) (Decidable.of_not_not h) hlx xs.length 0 (by omega) (fun t ht => absurd ht (by omega)))) ?_
      rintro _ (⟨rfl, e⟩ | ⟨rfl, e⟩)
      · refine Ev.eq (fun k _ => f103_A0_x0 k _ _) ?_
        exact Ev.doneC (by rw [decide_eq_true ⟨h3, e⟩])
      · refine Ev.eq (fun k _ => f103_A0_ret k _ _) ?_
        exact Ev.doneC (by rw [decide_eq_false fun h => e h.2])
theorem Same_dspec {B H : AH} {x y : Dy} {v w : Value} (hlx : x.mag.length < 34359738368) (hx : DyV B v x) (hy : DyV B w y) (hL : Le B H) :
    Ev (fun k _ => rn k 59 [v, w] H) (An B H fun _ v => v = .bool (decide (sameD x y))) := by
  refine Ev.fn (fun k => f59_eq k _ _ H) ?_
  obtain ⟨mx, rfl, hrx⟩ := hx
  obtain ⟨my, rfl, hry⟩ := hy
  have hS := St.start hL
  repeat (first | refine Ev.s ?_ | refine Ev.newC fun _ _ _ => ?_ | refine Ev.boxC fun _ _ _ => ?_ | refine Ev.stC fun _ _ => ?_ | refine Ev.sc (by omega) ?_ | refine Ev.scg (by omega) ?_)
  by_cases h : x.e = y.e
  · rw [decide_eq_true h]
    repeat (first | refine Ev.s ?_ | refine Ev.newC fun _ _ _ => ?_ | refine Ev.boxC fun _ _ _ => ?_ | refine Ev.stC fun _ _ => ?_ | refine Ev.sc (by omega) ?_ | refine Ev.scg (by omega) ?_)
    refine Ev.callC (Same_ispec hlx hrx hry) fun v2 B2 H2 hm2 hS2 h2 => ?_
    subst h2
    repeat (first | refine Ev.s ?_ | refine Ev.newC fun _ _ _ => ?_ | refine Ev.boxC fun _ _ _ => ?_ | refine Ev.stC fun _ _ => ?_ | refine Ev.sc (by omega) ?_ | refine Ev.scg (by omega) ?_)
    exact Ev.doneC (by unfold sameD; simp [h])
  · rw [decide_eq_false h]
    repeat (first | refine Ev.s ?_ | refine Ev.newC fun _ _ _ => ?_ | refine Ev.boxC fun _ _ _ => ?_ | refine Ev.stC fun _ _ => ?_ | refine Ev.sc (by omega) ?_ | refine Ev.scg (by omega) ?_)
    exact Ev.doneC (by rw [decide_eq_false fun e => h e.1])
theorem same_spec {B H : AH} {x y : Dy} {v w : Value} (hlx : x.mag.length < 34359738368) (hx : DyV B v x) (hy : DyV B w y) (hL : Le B H) :
    Ev (fun k _ => rn k 19 [v, w] H) (An B H fun _ v => v = .bool (decide (sameD x y))) := by
  refine Ev.fn (fun k => f19_eq k _ _ H) ?_
  have hx' := hx
  have hy' := hy
  obtain ⟨mx, rfl, hrx⟩ := hx
  obtain ⟨my, rfl, hry⟩ := hy
  have hS := St.start hL
  repeat (first | refine Ev.s ?_ | refine Ev.newC fun _ _ _ => ?_ | refine Ev.boxC fun _ _ _ => ?_ | refine Ev.stC fun _ _ => ?_ | refine Ev.sc (by omega) ?_ | refine Ev.scg (by omega) ?_)
  refine Ev.callC (Same_dspec hlx hx' hy') fun v2 B2 H2 hm2 hS2 h2 => ?_
  subst h2
  exact Ev.doneC rfl
end Go.AM.Y
set_option linter.unusedVariables false
set_option linter.unusedSimpArgs false
set_option maxRecDepth 100000
namespace Go.AM.Y
open Go Go.AM Go.Proofs
attribute [local irreducible] run bin un ld st box newV mkS fldA fld ixA ix slc slc3 build buildS cv cvS ap cpy lenV gOp pickV b2 aIf aChk evalK resume iterD Option.bind

theorem ex1 : roundR (canon 13 0) 3 false = (canon 12 0, 0) := by kernel_rfl
theorem ex2 : roundR (canon 13 0) 3 true = (canon 14 0, 0) := by kernel_rfl
theorem ex3 : divR (canon 1 0) (canon 3 0) 4 false = (⟨false, [5], -4⟩, 0) := by kernel_rfl
theorem ex4 : rightD ⟨false, [], 1⟩ = false := by kernel_rfl
theorem ex_len13 : (canon 13 0).mag.length = 1 := by kernel_rfl
theorem ex_len12 : (canon 12 0).mag.length = 1 := by kernel_rfl
theorem ex_len14 : (canon 14 0).mag.length = 1 := by kernel_rfl
theorem ex_len1 : (canon 1 0).mag.length = 1 := by kernel_rfl
theorem ex_len3 : (canon 3 0).mag.length = 1 := by kernel_rfl
theorem examples_spec {B H : AH} (hL : Le B H) : Ev (fun k _ => rn k 15 [] H) (An B H fun _ v => v = .bool true) := by
  refine Ev.fn (fun k => f15_eq k H) ?_
  have hS := St.start hL
  refine Ev.callC (From_dspec (n := 13) (by decide)) fun v1 B1 H1 hm1 hS1 h1 => ?_
  refine Ev.callC (Round_dspec (by rw [ex_len13]; decide) h1) fun v2 B2 H2 hm2 hS2 h2 => ?_
  rw [ex1] at h2
  obtain ⟨a, rfl, ha⟩ : ResV B2 v2 (canon 12 0) 0 := h2
  have ha' := ha
  obtain ⟨ma, rfl, hra⟩ := ha
  repeat (first | refine Ev.s ?_ | refine Ev.newC fun _ _ _ => ?_ | refine Ev.boxC fun _ _ _ => ?_ | refine Ev.stC fun _ _ => ?_ | refine Ev.sc (by omega) ?_ | refine Ev.scg (by omega) ?_)
  refine Ev.callC (From_dspec (n := 13) (by decide)) fun v3 B3 H3 hm3 hS3 h3 => ?_
  refine Ev.callC (Round_dspec (by rw [ex_len13]; decide) h3) fun v4 B4 H4 hm4 hS4 h4 => ?_
  rw [ex2] at h4
  obtain ⟨b, rfl, hb⟩ : ResV B4 v4 (canon 14 0) 0 := h4
  have hb' := hb
  obtain ⟨mb, rfl, hrb⟩ := hb
  repeat (first | refine Ev.s ?_ | refine Ev.newC fun _ _ _ => ?_ | refine Ev.boxC fun _ _ _ => ?_ | refine Ev.stC fun _ _ => ?_ | refine Ev.sc (by omega) ?_ | refine Ev.scg (by omega) ?_)
  refine Ev.callC (From_dspec (n := 1) (by decide)) fun v5 B5 H5 hm5 hS5 h5 => ?_
  refine Ev.callC (From_dspec (n := 3) (by decide)) fun v6 B6 H6 hm6 hS6 h6 => ?_
  refine Ev.callC (Div_dspec (by rw [ex_len1]; decide) (by rw [ex_len3]; decide) (h5.mono hm6) h6) fun v7 B7 H7 hm7 hS7 h7 => ?_
  rw [ex3] at h7
  obtain ⟨c, rfl, hc⟩ : ResV B7 v7 ⟨false, [5], -4⟩ 0 := h7
  have hc' := hc
  obtain ⟨mc, rfl, hrc⟩ := hc
  repeat (first | refine Ev.s ?_ | refine Ev.newC fun _ _ _ => ?_ | refine Ev.boxC fun _ _ _ => ?_ | refine Ev.stC fun _ _ => ?_ | refine Ev.sc (by omega) ?_ | refine Ev.scg (by omega) ?_)
  refine Ev.callC (From_dspec (n := 12) (by decide)) fun v8 B8 H8 hm8 hS8 h8 => ?_
  have ha8 := (((((((ha'.mono hm3).mono hm4).mono hm5).mono hm6).mono hm7)).mono hm8)
  repeat (first | refine Ev.s ?_ | refine Ev.newC fun _ _ _ => ?_ | refine Ev.boxC fun _ _ _ => ?_ | refine Ev.stC fun _ _ => ?_ | refine Ev.sc (by omega) ?_ | refine Ev.scg (by omega) ?_)
  refine Ev.callC (same_spec (by rw [ex_len12]; decide) ha8 h8) fun v9 B9 H9 hm9 hS9 h9 => ?_
  rw [decide_eq_true ⟨rfl, rfl, rfl⟩] at h9
  subst h9
  repeat (first | refine Ev.s ?_ | refine Ev.newC fun _ _ _ => ?_ | refine Ev.boxC fun _ _ _ => ?_ | refine Ev.stC fun _ _ => ?_ | refine Ev.sc (by omega) ?_ | refine Ev.scg (by omega) ?_)
  refine Ev.callC (From_dspec (n := 14) (by decide)) fun v10 B10 H10 hm10 hS10 h10 => ?_
  have hb10 := (((((hb'.mono hm5).mono hm6).mono hm7).mono hm8).mono hm9).mono hm10
  repeat (first | refine Ev.s ?_ | refine Ev.newC fun _ _ _ => ?_ | refine Ev.boxC fun _ _ _ => ?_ | refine Ev.stC fun _ _ => ?_ | refine Ev.sc (by omega) ?_ | refine Ev.scg (by omega) ?_)
  refine Ev.callC (same_spec (by rw [ex_len14]; decide) hb10 h10) fun v11 B11 H11 hm11 hS11 h11 => ?_
  rw [decide_eq_true ⟨rfl, rfl, rfl⟩] at h11
  subst h11
  repeat (first | refine Ev.s ?_ | refine Ev.newC fun _ _ _ => ?_ | refine Ev.boxC fun _ _ _ => ?_ | refine Ev.stC fun _ _ => ?_ | refine Ev.sc (by omega) ?_ | refine Ev.scg (by omega) ?_)
  refine Ev.bsC (by decide) fun b12 H12 hS12 => ?_
  obtain ⟨B13, hm13, hr13, hS13⟩ := hS12.freezeN (xs := [5]) (n := 1) (cap := 1) (by intro x hx; simp at hx; omega) rfl (by decide)
  repeat (first | refine Ev.s ?_ | refine Ev.newC fun _ _ _ => ?_ | refine Ev.boxC fun _ _ _ => ?_ | refine Ev.stC fun _ _ => ?_ | refine Ev.sc (by omega) ?_ | refine Ev.scg (by omega) ?_)
  have hc13 := ((((hc'.mono hm8).mono hm9).mono hm10).mono hm11).mono hm13
  refine Ev.callC (same_spec (y := ⟨false, [5], -4⟩) (by decide) hc13 ⟨_, rfl, hr13⟩) fun v14 B14 H14 hm14 hS14 h14 => ?_
  rw [decide_eq_true ⟨rfl, rfl, rfl⟩] at h14
  subst h14
  repeat (first | refine Ev.s ?_ | refine Ev.newC fun _ _ _ => ?_ | refine Ev.boxC fun _ _ _ => ?_ | refine Ev.stC fun _ _ => ?_ | refine Ev.sc (by omega) ?_ | refine Ev.scg (by omega) ?_)
  refine Ev.callC (dRight_spec (d := ⟨false, [], 1⟩) (by decide) ⟨_, rfl, RdN.nil⟩) fun v15 B15 H15 hm15 hS15 h15 => ?_
  rw [ex4] at h15
  subst h15
  repeat (first | refine Ev.s ?_ | refine Ev.newC fun _ _ _ => ?_ | refine Ev.boxC fun _ _ _ => ?_ | refine Ev.stC fun _ _ => ?_ | refine Ev.sc (by omega) ?_ | refine Ev.scg (by omega) ?_)
  exact Ev.doneC rfl
theorem wrap_neg {n : Int} (h : -9223372036854775808 ≤ n ∧ n < 0) : IntKind.i64.wrap (0 - (n + 1)) = ((-(n + 1)).toNat : Int) := by rw [wrap64 (by omega)]; omega
theorem i64_of {p : Int} (h : 0 ≤ p) : Value.int .i64 p = i64 p.toNat := by show _ = Value.int .i64 ((p.toNat : Nat) : Int); rw [Int.toNat_of_nonneg h]
/-- Without its sign, from nought on. -/
def abs1 (n : Int) : Nat := if n < 0 then (-(n + 1)).toNat else n.toNat
def tameD (d : Dy) : Dy := (makeR (sg d.neg (val (d.mag.take 6))) (((abs1 d.e % 601 : Nat) : Int) - 300)).1
theorem tame_spec {B H : AH} {d : Dy} {v : Value} (hl : d.mag.length < 9223372036854775808) (he : -9223372036854775808 ≤ d.e ∧ d.e < 9223372036854775808) (hx : DyV B v d) (hL : Le B H) :
    Ev (fun k _ => rn k 16 [v] H) (An B H fun B' v => DyV B' v (tameD d)) := by
  refine Ev.fn (fun k => f16_eq k _ H) ?_
  obtain ⟨m, rfl, hr⟩ := hx
  have hS := St.start hL
  have j : ∀ (n : Nat) (b1 b2 : Nat) (B1 H1 : AH) (L : List (Nat × Blk)), n = abs1 d.e → St H B B1 [(b2, ⟨[.bool false, .slice none 0 0, .int .i64 0], 26, .fix⟩), (b1, ⟨[.bool d.neg, m, .int .i64 d.e], 26, .fix⟩)] H1 → RdN B1 m d.mag →
      Ev (fun k _ => f16_J0 k (ptr b1 0) (ptr b2 0) (i64 n) H1) (An B H fun B' v => DyV B' v (tameD d)) := by
    intro n b1 b2 B1 H1 L hn hS1 hr1
    refine Ev.eq (fun k _ => f16_J0_eq k _ _ _ _) ?_
    repeat (first | refine Ev.s ?_ | refine Ev.newC fun _ _ _ => ?_ | refine Ev.boxC fun _ _ _ => ?_ | refine Ev.stC fun _ _ => ?_ | refine Ev.sc (by omega) ?_ | refine Ev.scg (by omega) ?_)
    refine Ev.uptoC (min d.mag.length 6) (by split <;> omega) (by omega) fun w hw => ?_
    refine Ev.callC (Make_spec (by rw [List.length_take]; omega) hw) fun v2 B2 H2 hm2 hS2 h2 => ?_
    obtain ⟨m2, rfl, hr2⟩ := h2
    rw [sg_abs] at hr2
    repeat (first | refine Ev.s ?_ | refine Ev.newC fun _ _ _ => ?_ | refine Ev.boxC fun _ _ _ => ?_ | refine Ev.stC fun _ _ => ?_ | refine Ev.sc (by omega) ?_ | refine Ev.scg (by omega) ?_)
    have hl2 := limbs_length_le (val_lt hw.sm)
    rw [List.length_take] at hl2
    refine Ev.prim (bin_sub64 (by omega)) ?_
    refine Ev.callC (Make_dspec (by omega) hr2) fun v3 B3 H3 hm3 hS3 h3 => ?_
    have htk : d.mag.take (min d.mag.length 6) = d.mag.take 6 := by
      by_cases h6 : d.mag.length ≤ 6
      · rw [Nat.min_eq_left h6, List.take_length, List.take_of_length_le h6]
      · rw [Nat.min_eq_right (by omega)]
    have e : sg (decide (sg d.neg (val (d.mag.take (min d.mag.length 6))) < 0)) (val (limbs (val (d.mag.take (min d.mag.length 6))))) = sg d.neg (val (d.mag.take 6)) := by
      rw [val_limbs, ← htk]
      have := sg_int (sg d.neg (val (d.mag.take (min d.mag.length 6))))
      rw [sg_abs] at this
      exact this
    rw [e, hn] at h3
    have htd : (makeR (sg d.neg (val (d.mag.take 6))) (((abs1 d.e % 601 : Nat) : Int) - 300)).1 = tameD d := rfl
    rw [htd] at h3
    generalize tameD d = t at *
    obtain ⟨x, rfl, mx, rfl, hrx⟩ := h3
    repeat (first | refine Ev.s ?_ | refine Ev.newC fun _ _ _ => ?_ | refine Ev.boxC fun _ _ _ => ?_ | refine Ev.stC fun _ _ => ?_ | refine Ev.sc (by omega) ?_ | refine Ev.scg (by omega) ?_)
    exact Ev.doneC ⟨mx, rfl, hrx⟩
  repeat (first | refine Ev.s ?_ | refine Ev.newC fun _ _ _ => ?_ | refine Ev.boxC fun _ _ _ => ?_ | refine Ev.stC fun _ _ => ?_ | refine Ev.sc (by omega) ?_ | refine Ev.scg (by omega) ?_)
  by_cases h : d.e < 0
  · rw [decide_eq_true h]
    repeat (first | refine Ev.s ?_ | refine Ev.newC fun _ _ _ => ?_ | refine Ev.boxC fun _ _ _ => ?_ | refine Ev.stC fun _ _ => ?_ | refine Ev.sc (by omega) ?_ | refine Ev.scg (by omega) ?_)
    rw [wrap_neg ⟨he.1, h⟩]
    exact j _ _ _ _ _ [] (by unfold abs1; rw [if_pos h]) inferInstance hr
  · rw [decide_eq_false h]
    repeat (first | refine Ev.s ?_ | refine Ev.newC fun _ _ _ => ?_ | refine Ev.boxC fun _ _ _ => ?_ | refine Ev.stC fun _ _ => ?_ | refine Ev.sc (by omega) ?_ | refine Ev.scg (by omega) ?_)
    rw [i64_of (by omega : 0 ≤ d.e)]
    exact j _ _ _ _ _ [] (by unfold abs1; rw [if_neg h]) inferInstance hr
end Go.AM.Y
set_option linter.unusedVariables false
namespace Go.AM
theorem canon_zero {e : Int} : canon 0 e = zeroDy := by unfold canon; rw [if_pos rfl]
theorem canon_mul {z e : Int} (k : Nat) : canon (z * ((2 ^ k : Nat) : Int)) e = canon z (e + k) := by
  have hp : (2 ^ k : Nat) ≠ 0 := Nat.pos_iff_ne_zero.mp (Nat.pow_pos (by decide))
  by_cases h : z = 0
  · subst h; rw [Int.zero_mul, canon_zero, canon_zero]
  · have hz : z.natAbs ≠ 0 := by omega
    have h1 : z * ((2 ^ k : Nat) : Int) ≠ 0 := Int.mul_ne_zero h (by generalize (2 ^ k : Nat) = K at *; omega)
    have h2 : (z * ((2 ^ k : Nat) : Int)).natAbs = 2 ^ k * z.natAbs := by rw [Int.natAbs_mul, Int.natAbs_natCast, Nat.mul_comm]
    have h3 : decide (z * ((2 ^ k : Nat) : Int) < 0) = decide (z < 0) := by
      generalize (2 ^ k : Nat) = K at *
      refine decide_eq_decide.mpr ⟨fun hh => ?_, fun hh => Int.mul_neg_of_neg_of_pos hh (by omega)⟩
      refine Int.lt_of_not_ge fun hge => ?_
      have := Int.mul_nonneg hge (show (0 : Int) ≤ (K : Int) by omega)
      omega
    unfold canon
    rw [if_neg h1, if_neg h, h2, ctz_mul hz, h3, Nat.pow_add, Nat.mul_comm (2 ^ ctz z.natAbs) (2 ^ k), Nat.mul_div_mul_left _ _ (Nat.pos_of_ne_zero hp)]
    congr 1
    omega
/-- What a number in its one form is. -/
theorem canon_val {z e : Int} (h : z ≠ 0) : ∃ q t : Nat, q % 2 = 1 ∧ z.natAbs = 2 ^ t * q ∧ t = ctz z.natAbs ∧ canon z e = ⟨decide (z < 0), limbs q, e + t⟩ := by
  have hz : z.natAbs ≠ 0 := by omega
  obtain ⟨h1, h2⟩ := ctz_spec hz
  exact ⟨_, _, h2, h1.symm, rfl, by unfold canon; rw [if_neg h]⟩
theorem dz_canon {z e : Int} (h : z ≠ 0) : z = dz (canon z e) * ((2 ^ ctz z.natAbs : Nat) : Int) := by
  obtain ⟨q, t, h1, h2, h3, h4⟩ := canon_val (e := e) h
  rw [h4, ← h3]
  unfold dz
  rw [val_limbs, ← sg_mul, Nat.mul_comm q, ← h2, sg_int]
/-- An odd number has its digits. -/
theorem rightI_limbs {neg : Bool} {n : Nat} (h : neg = true → n ≠ 0) : rightI neg (limbs n) = true := by
  unfold rightI
  by_cases h0 : n = 0
  · subst h0
    rw [limbs_zero]
    cases neg with
    | true => exact absurd rfl (h rfl)
    | false => rfl
  · have hl : (limbs n).length ≠ 0 := fun e => h0 (limbs_eq_nil.mp (List.length_eq_zero_iff.mp e))
    rw [if_neg hl]
    refine decide_eq_true ?_
    refine limbs_getLast (n := n) _ ?_
    rw [List.getLast?_eq_getElem?, List.getD_eq_getElem?_getD, List.getElem?_eq_getElem (by omega)]; rfl
theorem limbs_getD_zero (n : Nat) : (limbs n).getD 0 0 = n % 4294967296 := by
  have := val_head (limbs n) (small_limbs n)
  rw [val_limbs] at this; exact this.symm
theorem right_canon {z e : Int} (h : z = 0 ∨ (-131072 ≤ (canon z e).e ∧ (canon z e).e ≤ 131072)) : rightD (canon z e) = true := by
  by_cases hz : z = 0
  · subst hz; rw [canon_zero]; rfl
  · have h := h.resolve_left hz
    obtain ⟨q, t, h1, h2, h3, h4⟩ := canon_val (e := e) hz
    rw [h4] at h ⊢
    have hq : q ≠ 0 := by omega
    have hl : (limbs q).length ≠ 0 := fun e => hq (limbs_eq_nil.mp (List.length_eq_zero_iff.mp e))
    unfold rightD
    rw [rightI_limbs (fun _ => hq), Bool.true_and]
    refine decide_eq_true ?_
    rw [if_neg hl]
    refine ⟨?_, h⟩
    rw [limbs_getD_zero]; omega
/-- A number that is right is in its one form. -/
theorem canon_right {d : Dy} (h : rightD d = true) (hs : small d.mag) : canon (dz d) d.e = d := by
  have hl := right_limbs h hs
  have h' := h
  unfold rightD at h
  rw [Bool.and_eq_true, decide_eq_true_eq] at h
  obtain ⟨hI, hE⟩ := h
  by_cases h0 : d.mag.length = 0
  · rw [if_pos h0] at hE
    have hm : d.mag = [] := List.length_eq_zero_iff.mp h0
    unfold rightI at hI
    rw [if_pos h0] at hI
    have hn : d.neg = false := by cases hh : d.neg with | false => rfl | true => rw [hh] at hI; cases hI
    have : dz d = 0 := by unfold dz; rw [hm, hn]; rfl
    rw [this, canon_zero]
    cases d; simp only at hm hn hE; subst hm hn hE; rfl
  · rw [if_neg h0] at hE
    have hv := val_ne hl h0
    have hz : dz d ≠ 0 := by unfold dz sg; cases d.neg <;> simp <;> omega
    have ha : (dz d).natAbs = val d.mag := sg_abs
    have hodd : val d.mag % 2 = 1 := by
      have h1 := hE.1
      rw [hl, limbs_getD_zero] at h1
      omega
    unfold canon
    rw [if_neg hz, ha, ctz_odd hodd, Nat.pow_zero, Nat.div_one, ← hl]
    have hn : decide (dz d < 0) = d.neg := by
      unfold dz; rw [← sg_neg, decide_eq_true hv, Bool.and_true]
    rw [hn]
    cases d; simp
theorem dz_zeroDy : dz zeroDy = 0 := rfl
theorem canon_bounds {z e : Int} (h : z ≠ 0) : e ≤ (canon z e).e ∧ (canon z e).e + (nbits (val (canon z e).mag) : Int) = e + (nbits z.natAbs : Int) ∧ nbits (val (canon z e).mag) ≤ nbits z.natAbs ∧ 0 < nbits (val (canon z e).mag) := by
  obtain ⟨q, t, h1, h2, h3, h4⟩ := canon_val (e := e) h
  rw [h4]
  simp only
  have hq : q ≠ 0 := by omega
  have := nbits_mul_pow (k := t) hq
  have hpos := nbits_pos hq
  rw [val_limbs, h2, Nat.mul_comm, this]
  omega
theorem canon_right' {z e : Int} (h1 : -131072 ≤ e) (h2 : e + (nbits z.natAbs : Int) ≤ 131073) : rightD (canon z e) = true := by
  refine right_canon ?_
  by_cases h : z = 0
  · exact .inl h
  · have := canon_bounds (e := e) h
    exact .inr (by omega)
theorem inRange_canon {z e : Int} (h1 : -131072 ≤ e) (h2 : z = 0 ∨ -65536 ≤ e + (nbits z.natAbs : Int)) (h3 : e + (nbits z.natAbs : Int) ≤ 65536) (h4 : nbits z.natAbs ≤ 262144) : inRangeD (canon z e) = true := by
  by_cases h : z = 0
  · subst h; rw [canon_zero]; rfl
  · have h2 := h2.resolve_left h
    have := canon_bounds (e := e) h
    unfold inRangeD
    exact decide_eq_true (.inr (by omega))
end Go.AM
set_option linter.unusedVariables false
namespace Go.AM
structure Ok (X E : Int) : Prop where
  lo : -20000 ≤ E
  hi : E ≤ 20000
  nb : nbits X.natAbs ≤ 20000
theorem Ok.right {X E : Int} (h : Ok X E) : rightD (canon X E) = true := canon_right' (by have := h.lo; omega) (by have := h.hi; have := h.nb; omega)
theorem Ok.inRange {X E : Int} (h : Ok X E) : inRangeD (canon X E) = true :=
  inRange_canon (by have := h.lo; omega) (.inr (by have := h.lo; omega)) (by have := h.hi; have := h.nb; omega) (by have := h.nb; omega)
theorem canon_len {z e : Int} {l : Nat} (h : nbits z.natAbs ≤ 32 * l) : (canon z e).mag.length ≤ l := by
  by_cases hz : z = 0
  · subst hz; rw [canon_zero]; simp
  · obtain ⟨q, t, h1, h2, h3, h4⟩ := canon_val (e := e) hz
    rw [h4]
    refine limbs_length_le ?_
    rw [show (4294967296 : Nat) = 2 ^ 32 by decide, ← Nat.pow_mul]
    have := nbits_le.mp h
    have h5 : q ≤ z.natAbs := by rw [h2]; exact Nat.le_mul_of_pos_left _ (Nat.pow_pos (by decide))
    omega
theorem Ok.len {X E : Int} (h : Ok X E) : (canon X E).mag.length ≤ 625 := canon_len (by have := h.nb; omega)
theorem canon_mag_zero {z e : Int} : (canon z e).mag.length = 0 ↔ z = 0 := by
  constructor
  · intro h
    refine Decidable.byContradiction fun hz => ?_
    have := (canon_bounds (e := e) hz).2.2.2
    rw [List.length_eq_zero_iff.mp h] at this
    exact absurd this (by decide)
  · intro h; subst h; rw [canon_zero]; rfl
theorem canon_neg {z e : Int} : (canon z e).neg = decide (z < 0) := by
  unfold canon; split
  · rename_i h; subst h; rfl
  · rfl
/-- The number itself, whatever its exponent: z times 2^e as dz times 2^.. . -/
theorem canon_scale {z e : Int} : ∃ t : Nat, z = dz (canon z e) * ((2 ^ t : Nat) : Int) ∧ (z ≠ 0 → (canon z e).e = e + t) := by
  by_cases h : z = 0
  · subst h; rw [canon_zero]; exact ⟨0, by rw [dz_zeroDy, Int.zero_mul], fun h => absurd rfl h⟩
  · obtain ⟨q, t, h1, h2, h3, h4⟩ := canon_val (e := e) h
    refine ⟨t, ?_, fun _ => by rw [h4]⟩
    have := dz_canon (e := e) h
    rw [← h3] at this; exact this
theorem Ok.neg {X E : Int} (h : Ok X E) : Ok (-X) E := ⟨h.lo, h.hi, by rw [Int.natAbs_neg]; exact h.nb⟩
theorem same_c {X Y E : Int} : sameD (canon X E) (canon Y E) ↔ X = Y := by
  constructor
  · intro ⟨h1, h2, h3⟩
    have hd : dz (canon X E) = dz (canon Y E) := by unfold dz; rw [h2, h3]
    obtain ⟨s, s1, s2⟩ := canon_scale (z := X) (e := E)
    obtain ⟨t, t1, t2⟩ := canon_scale (z := Y) (e := E)
    by_cases hX : X = 0
    · have : (canon Y E).mag.length = 0 := by rw [← h3]; exact canon_mag_zero.mpr hX
      rw [hX, canon_mag_zero.mp this]
    · have hY : Y ≠ 0 := fun hY => hX (canon_mag_zero.mp (by rw [h3]; exact canon_mag_zero.mpr hY))
      have s2 := s2 hX
      have t2 := t2 hY
      rw [s1, t1, hd, show s = t by omega]
  · intro h; subst h; exact ⟨rfl, rfl, rfl⟩
end Go.AM
namespace Go.AM
open Go.RowKit

structure Loc where
  blk : Nat
  base : Nat
  kind : BK
  csize : Nat
  esz : Nat
abbrev Mp := Nat → Option Loc

inductive VRel (m : Mp) : Value → Value → Prop
  | unk (v : Value) : VRel m (.chan (some 0)) v
  | flat (v : Value) : flat1 v = true → VRel m v v
  | ptr (b off : Nat) (L : Loc) : m b = some L → VRel m (.pointer (some ⟨b, off, none⟩)) (.pointer (some ⟨L.blk, L.base + off, none⟩))
  | slice (b off off' len cap cap' : Nat) (L : Loc) : m b = some L → len ≤ cap → len ≤ cap' → (off' = L.base + off ∨ len = 0) → (L.kind = .fix → off' = L.base + off ∧ cap' = cap) →
      (L.kind = .grow → off = 0 → 0 < cap → off' + cap' * L.esz ≤ L.csize) → (L.kind ≠ .fix → len < cap ∨ (cap = 0 ∧ cap' = 0)) → VRel m (.slice (some ⟨b, off, none⟩) len cap) (.slice (some ⟨L.blk, off', none⟩) len cap')
  | agg (xs ys : Array Value) : xs.size = ys.size → (∀ (i : Nat) (x y : Value), xs[i]? = some x → ys[i]? = some y → VRel m x y) → VRel m (.agg xs) (.agg ys)
  | tuple (xs ys : Array Value) : xs.size = ys.size → (∀ (i : Nat) (x y : Value), xs[i]? = some x → ys[i]? = some y → VRel m x y) → VRel m (.tuple xs) (.tuple ys)
  | func (f : FuncId) (a b a' b' : Array Value) : a.size = a'.size → (∀ (i : Nat) (x y : Value), a[i]? = some x → a'[i]? = some y → VRel m x y) → b.size = b'.size → (∀ (i : Nat) (x y : Value), b[i]? = some x → b'[i]? = some y → VRel m x y) →
      VRel m (.func (.func f) a b) (.func (.func f) a' b')

theorem VRel.mono {m m' : Mp} (hm : ∀ b L, m b = some L → m' b = some L) {x y : Value} (h : VRel m x y) : VRel m' x y := by
  induction h with
  | unk v => exact .unk v
  | flat v h => exact .flat v h
  | ptr b off L h => exact .ptr b off L (hm _ _ h)
  | slice b off off' len cap cap' L h h1 h2 h3 h4 h5 h6 => exact .slice b off off' len cap cap' L (hm _ _ h) h1 h2 h3 h4 h5 h6
  | agg xs ys h _ ih => exact .agg xs ys h ih
  | tuple xs ys h _ ih => exact .tuple xs ys h ih
  | func f a b a' b' h1 _ h2 _ ih1 ih2 => exact .func f a b a' b' h1 ih1 h2 ih2

theorem VRel.undef (m : Mp) : VRel m undef undef := .tuple _ _ rfl fun i x y h _ => by simp at h

def LRel (m : Mp) (xs ys : List Value) : Prop := xs.length = ys.length ∧ ∀ (i : Nat) (x y : Value), xs[i]? = some x → ys[i]? = some y → VRel m x y
theorem LRel.mono {m m' : Mp} (hm : ∀ b L, m b = some L → m' b = some L) {xs ys : List Value} (h : LRel m xs ys) : LRel m' xs ys := ⟨h.1, fun i x y hx hy => (h.2 i x y hx hy).mono hm⟩
theorem LRel.nil (m : Mp) : LRel m [] [] := ⟨rfl, fun i x y h => by simp at h⟩
theorem LRel.cons {m : Mp} {x y : Value} {xs ys : List Value} (h : VRel m x y) (hs : LRel m xs ys) : LRel m (x :: xs) (y :: ys) := by
  refine ⟨by simp [hs.1], fun i a b ha hb => ?_⟩
  cases i with
  | zero => simp at ha hb; subst ha hb; exact h
  | succ i => simp at ha hb; exact hs.2 i a b ha hb
theorem LRel.cons_inv {m : Mp} {x : Value} {xs ys : List Value} (h : LRel m (x :: xs) ys) : ∃ y zs, ys = y :: zs ∧ VRel m x y ∧ LRel m xs zs := by
  cases ys with
  | nil => have := h.1; simp at this
  | cons y zs => exact ⟨y, zs, rfl, h.2 0 x y rfl rfl, by have := h.1; simpa using this, fun i a b ha hb => h.2 (i + 1) a b (by simpa using ha) (by simpa using hb)⟩
theorem LRel.nil_inv {m : Mp} {ys : List Value} (h : LRel m [] ys) : ys = [] := List.eq_nil_of_length_eq_zero (by rw [← h.1]; rfl)
theorem LRel.append {m : Mp} {xs ys xs' ys' : List Value} (h : LRel m xs ys) (h' : LRel m xs' ys') : LRel m (xs ++ xs') (ys ++ ys') := by
  refine ⟨by simp [h.1, h'.1], fun i a b ha hb => ?_⟩
  rw [List.getElem?_append] at ha hb
  rw [← h.1] at hb
  split at ha
  · rename_i hi; rw [if_pos hi] at hb; exact h.2 i a b ha hb
  · rename_i hi; rw [if_neg hi] at hb; exact h'.2 _ a b ha hb
theorem LRel.take {m : Mp} {xs ys : List Value} (h : LRel m xs ys) (n : Nat) : LRel m (xs.take n) (ys.take n) := by
  refine ⟨by simp [h.1], fun i a b ha hb => ?_⟩
  rw [List.getElem?_take] at ha hb
  split at ha
  · rename_i hi; rw [if_pos hi] at hb; exact h.2 i a b ha hb
  · cases ha
theorem LRel.drop {m : Mp} {xs ys : List Value} (h : LRel m xs ys) (n : Nat) : LRel m (xs.drop n) (ys.drop n) := by
  refine ⟨by simp [h.1], fun i a b ha hb => ?_⟩
  rw [List.getElem?_drop] at ha hb
  exact h.2 _ a b ha hb
theorem LRel.set {m : Mp} {xs ys : List Value} (h : LRel m xs ys) (n : Nat) {x y : Value} (hv : VRel m x y) : LRel m (xs.set n x) (ys.set n y) := by
  refine ⟨by simp [h.1], fun i a b ha hb => ?_⟩
  by_cases hn : n = i
  · subst hn
    have h1 : n < xs.length := by
      rcases Nat.lt_or_ge n xs.length with h1 | h1
      · exact h1
      · rw [List.getElem?_eq_none (by simpa using h1)] at ha; cases ha
    rw [List.getElem?_set_self h1] at ha
    rw [List.getElem?_set_self (by rw [← h.1]; exact h1)] at hb
    cases ha
    cases hb
    exact hv
  · rw [List.getElem?_set_ne hn] at ha hb
    exact h.2 i a b ha hb
theorem LRel.map {m : Mp} {α : Type} (f g : α → Value) (l : List α) (h : ∀ a ∈ l, VRel m (f a) (g a)) : LRel m (l.map f) (l.map g) := by
  induction l with
  | nil => exact LRel.nil m
  | cons a l ih => exact LRel.cons (h a (by simp)) (ih fun b hb => h b (by simp [hb]))
theorem LRel.spl {m : Mp} {xs ys us vs : List Value} (h : LRel m xs ys) (h' : LRel m us vs) (o : Nat) : LRel m (spl xs o us) (spl ys o vs) := by
  unfold AM.spl
  rw [← h'.1]
  exact (h.take o).append (h'.append (h.drop _))
theorem length_spl (xs : List Value) (o : Nat) (ys : List Value) (h : o + ys.length ≤ xs.length) : (spl xs o ys).length = xs.length := by
  unfold spl; simp; omega
theorem LRel.of_flat {m : Mp} : ∀ (l : List Value), l.all flat1 = true → LRel m l l := fun l h => ⟨rfl, fun i x y hx hy => by
  rw [hx] at hy
  cases hy
  exact .flat x (List.all_eq_true.1 h x (List.mem_of_getElem? hx))⟩

theorem VRel.aggL {m : Mp} {xs ys : Array Value} (h : LRel m xs.toList ys.toList) : VRel m (.agg xs) (.agg ys) :=
  .agg xs ys (by simpa using h.1) fun i x y hx hy => h.2 i x y (by simpa using hx) (by simpa using hy)
theorem VRel.agg_inv {m : Mp} {xs : Array Value} {v : Value} (h : VRel m (.agg xs) v) : ∃ ys, v = .agg ys ∧ LRel m xs.toList ys.toList := by
  cases h with
  | flat v h => simp [flat1] at h
  | agg xs ys h1 h2 => exact ⟨ys, rfl, by simpa using h1, fun i x y hx hy => h2 i x y (by simpa using hx) (by simpa using hy)⟩
theorem VRel.tuple_inv {m : Mp} {xs : Array Value} {v : Value} (h : VRel m (.tuple xs) v) : ∃ ys, v = .tuple ys ∧ LRel m xs.toList ys.toList := by
  cases h with
  | flat v h => simp [flat1] at h
  | tuple xs ys h1 h2 => exact ⟨ys, rfl, by simpa using h1, fun i x y hx hy => h2 i x y (by simpa using hx) (by simpa using hy)⟩
theorem VRel.flat_inv {m : Mp} {x v : Value} (hf : flat1 x = true) (h : VRel m x v) : v = x := by
  cases h <;> first | rfl | simp [flat1] at hf
theorem VRel.of_flat {m : Mp} {v : Value} (h : AM.flat v = true) : VRel m v v := by
  unfold AM.flat at h
  split at h
  · exact VRel.aggL (LRel.of_flat _ h)
  · exact .flat _ h
theorem VRel.ptr_inv {m : Mp} {b off : Nat} {v : Value} (h : VRel m (.pointer (some ⟨b, off, none⟩)) v) : ∃ L, m b = some L ∧ v = .pointer (some ⟨L.blk, L.base + off, none⟩) := by
  cases h with
  | flat v h => simp [flat1] at h
  | ptr b off L h => exact ⟨L, h, rfl⟩
theorem VRel.slice_inv {m : Mp} {b off len cap : Nat} {v : Value} (h : VRel m (.slice (some ⟨b, off, none⟩) len cap) v) : ∃ L off' cap', m b = some L ∧ v = .slice (some ⟨L.blk, off', none⟩) len cap' ∧ len ≤ cap ∧ len ≤ cap' ∧
    (off' = L.base + off ∨ len = 0) ∧ (L.kind = .fix → off' = L.base + off ∧ cap' = cap) ∧ (L.kind = .grow → off = 0 → 0 < cap → off' + cap' * L.esz ≤ L.csize) ∧ (L.kind ≠ .fix → len < cap ∨ (cap = 0 ∧ cap' = 0)) := by
  cases h with
  | flat v h => simp [flat1] at h
  | slice b off off' len cap cap' L h h1 h2 h3 h4 h5 h6 => exact ⟨L, off', cap', h, rfl, h1, h2, h3, h4, h5, h6⟩
/-- Cells: each is one, on both sides. -/
theorem VRel.isCell {m : Mp} {x y : Value} (h : VRel m x y) (hc : AM.isCell x = true) : y.oneCell' = true ∧ y.cells = #[y] := by
  cases h <;> first
    | (simp [AM.isCell] at hc; done)
    | exact ⟨rfl, rfl⟩
    | (rename_i hf; cases x <;> simp [flat1] at hf <;> exact ⟨rfl, rfl⟩)
theorem VRel.cells {m : Mp} {x y : Value} (h : VRel m x y) (hc : okCells x = true) : LRel m x.cells.toList y.cells.toList ∧ ∀ u ∈ y.cells.toList, u.oneCell' = true := by
  by_cases ha : ∃ cs, x = .agg cs
  · obtain ⟨cs, rfl⟩ := ha
    obtain ⟨ys, rfl, hl⟩ := h.agg_inv
    refine ⟨hl, fun u hu => ?_⟩
    obtain ⟨i, hi⟩ := List.getElem?_of_mem hu
    have hlt : i < cs.toList.length := by rw [hl.1]; exact (List.getElem?_eq_some_iff.1 hi).1
    have hx := List.getElem?_eq_getElem hlt
    exact (VRel.isCell (hl.2 i _ _ hx hi) (List.all_eq_true.1 hc _ (List.mem_of_getElem? hx))).1
  · have hx : x.cells = #[x] := by cases x <;> first | rfl | exact (ha ⟨_, rfl⟩).elim
    have hc' : AM.isCell x = true := by unfold okCells at hc; cases x <;> first | exact hc | exact (ha ⟨_, rfl⟩).elim
    obtain ⟨h1, h2⟩ := h.isCell hc'
    rw [hx, h2]
    exact ⟨LRel.cons h (LRel.nil m), fun u hu => by simp at hu; subst hu; exact h1⟩

/-- One block. -/
structure BRel (P : Program) (B0 : Nat) (m : Mp) (L : Loc) (k : Blk) (w : World) : Prop where
  kind : L.kind = k.kind
  there : ∃ c e fr, w.heap[L.blk]? = some (.cells c e fr) ∧ LRel m k.cells ((c.toList.drop L.base).take k.cells.length) ∧ (k.kind ≠ .ro → fr = (0, 0) ∧ e = k.elem ∧ L.base ≤ c.size) ∧ (k.kind = .fix → L.base = 0 ∧ c.size = k.cells.length) ∧
    (k.kind = .grow → c.size = L.csize)
  own : k.kind ≠ .ro → B0 ≤ L.blk
  esz : k.kind = .grow → L.esz = szT P k.elem
structure Rel (P : Program) (B0 : Nat) (w0 : World) (m : Mp) (H : AH) (w : World) : Prop where
  below : Below B0 w0 w
  hB : B0 ≤ w.heap.size
  dom : ∀ b L, m b = some L → b < H.length ∧ L.blk < w.heap.size
  blks : ∀ b L k, m b = some L → blk H b = some k → BRel P B0 m L k w
  inj : ∀ b1 b2 L1 L2 k1 k2, m b1 = some L1 → m b2 = some L2 → blk H b1 = some k1 → blk H b2 = some k2 → k1.kind ≠ .ro → b1 ≠ b2 → L1.blk ≠ L2.blk
structure Ext (m : Mp) (H : AH) (w : World) (m' : Mp) (H' : AH) (w' : World) : Prop where
  mono : ∀ b L, m b = some L → m' b = some L
  len : H.length ≤ H'.length
  size : w.heap.size ≤ w'.heap.size
  alive : ∀ b k', b < H.length → blk H' b = some k' → ∃ k, blk H b = some k ∧ k.kind = k'.kind
  new : ∀ b L, m' b = some L → m b = some L ∨ (H.length ≤ b ∧ (w.heap.size ≤ L.blk ∨ ∃ b0 L0 k0, m b0 = some L0 ∧ blk H b0 = some k0 ∧ k0.kind ≠ .ro ∧ L0.blk = L.blk))
  frame : ∀ B, B < w.heap.size → (∀ b L k, m b = some L → blk H b = some k → k.kind ≠ .ro → L.blk ≠ B) → w'.heap[B]? = w.heap[B]?
theorem Ext.refl (m : Mp) (H : AH) (w : World) : Ext m H w m H w := ⟨fun _ _ h => h, Nat.le_refl _, Nat.le_refl _, fun _ k' _ h => ⟨k', h, rfl⟩, fun _ _ h => .inl h, fun _ _ _ => rfl⟩
theorem Ext.trans {m m' m'' : Mp} {H H' H'' : AH} {w w' w'' : World} (hd : ∀ b L, m b = some L → b < H.length) (h : Ext m H w m' H' w') (k : Ext m' H' w' m'' H'' w'') : Ext m H w m'' H'' w'' := by
  refine ⟨fun b L hb => k.mono b L (h.mono b L hb), Nat.le_trans h.len k.len, Nat.le_trans h.size k.size, ?_, ?_, ?_⟩
  · intro b k'' hb hk
    obtain ⟨k', h1, h2⟩ := k.alive b k'' (Nat.lt_of_lt_of_le hb h.len) hk
    obtain ⟨k0, h3, h4⟩ := h.alive b k' hb h1
    exact ⟨k0, h3, h4.trans h2⟩
  · intro b L hb
    rcases k.new b L hb with h1 | ⟨h1, h2⟩
    · exact h.new b L h1
    · refine .inr ⟨Nat.le_trans h.len h1, ?_⟩
      rcases h2 with h2 | ⟨b0, L0, k0, h3, h4, h5, h6⟩
      · exact .inl (Nat.le_trans h.size h2)
      · rcases h.new b0 L0 h3 with h7 | ⟨h7, h8⟩
        · obtain ⟨k1, h9, h10⟩ := h.alive b0 k0 (hd _ _ h7) h4
          exact .inr ⟨b0, L0, k1, h7, h9, by rw [h10]; exact h5, h6⟩
        · rw [h6] at h8
          exact h8
  · intro B hB hr
    rw [k.frame B (Nat.lt_of_lt_of_le hB h.size), h.frame B hB hr]
    intro b L k' hb hk hne
    rcases h.new b L hb with h1 | ⟨h1, h2⟩
    · obtain ⟨k0, h3, h4⟩ := h.alive b k' (hd _ _ h1) hk
      exact hr b L k0 h1 h3 (by rw [h4]; exact hne)
    · rcases h2 with h2 | ⟨b0, L0, k0, h3, h4, h5, h6⟩
      · omega
      · rw [← h6]; exact hr b0 L0 k0 h3 h4 h5
end Go.AM
namespace Go.AM
open Go.RowKit

theorem blk_lt' {H : AH} {b : Nat} {k : Blk} (h : blk H b = some k) : b < H.length := by
  unfold blk at h
  rcases Nat.lt_or_ge b H.length with h1 | h1
  · exact h1
  · rw [List.getElem?_eq_none h1] at h; cases h
theorem blk_mkB_old' {H : AH} {b : Nat} (cs : List Value) (e : TypeId) (kd : BK) (h : b < H.length) : blk (mkB H cs e kd) b = blk H b := by
  unfold blk mkB
  rw [List.getElem?_append_left h]
theorem blk_mkB_new' (H : AH) (cs : List Value) (e : TypeId) (kd : BK) : blk (mkB H cs e kd) H.length = some ⟨cs, e, kd⟩ := by
  unfold blk mkB
  simp
theorem length_mkB' (H : AH) (cs : List Value) (e : TypeId) (kd : BK) : (mkB H cs e kd).length = H.length + 1 := by simp [mkB]
theorem blk_put_same {H : AH} {b : Nat} (k : Blk) (cs : List Value) (h : b < H.length) : blk (put H b k cs) b = some ⟨cs, k.elem, k.kind⟩ := by
  unfold blk put
  rw [List.getElem?_set_self h]
  rfl
theorem blk_put_ne {H : AH} {b c : Nat} (k : Blk) (cs : List Value) (h : b ≠ c) : blk (put H b k cs) c = blk H c := by
  unfold blk put
  rw [List.getElem?_set_ne h]
theorem length_put' (H : AH) (b : Nat) (k : Blk) (cs : List Value) : (put H b k cs).length = H.length := by simp [put]
theorem blk_kill_same (H : AH) (b : Nat) : blk (kill H b) b = none := by
  unfold blk kill
  rcases Nat.lt_or_ge b H.length with h1 | h1
  · rw [List.getElem?_set_self h1]; rfl
  · rw [List.getElem?_eq_none (by simpa using h1)]; rfl
theorem blk_kill_ne {H : AH} {b c : Nat} (h : b ≠ c) : blk (kill H b) c = blk H c := by
  unfold blk kill
  rw [List.getElem?_set_ne h]
theorem length_kill' (H : AH) (b : Nat) : (kill H b).length = H.length := by simp [kill]

section
variable {P : Program} {B0 : Nat} {w0 : World} {m : Mp} {H : AH} {w : World}

theorem addAddr (b o j : Nat) : (⟨b, o, none⟩ : Addr).add j = ⟨b, o + j, none⟩ := Addr.add_lit b o j
theorem BRel.row {L : Loc} {k : Blk} (h : BRel P B0 m L k w) {off n : Nat} {cs : List Value} (hr : rdN k off n = some cs) :
    ∃ ds, LRel m cs ds ∧ ∀ (j : Nat) (u : Value), ds[j]? = some u → w.cell? ((⟨L.blk, L.base + off, none⟩ : Addr).add j) = some u := by
  obtain ⟨c, e, fr, hw, hl, _⟩ := h.there
  unfold rdN at hr
  split at hr
  · rename_i hle
    cases hr
    refine ⟨_, (hl.drop off).take n, fun j u hu => ?_⟩
    rw [addAddr]
    unfold World.cell?
    rw [hw]
    rw [List.getElem?_take] at hu
    split at hu
    · rename_i hj
      rw [List.getElem?_drop, List.getElem?_take, if_pos (by omega), List.getElem?_drop] at hu
      simp only [Option.isSome_none, Bool.false_eq_true, if_false]
      rw [← Array.getElem?_toList, ← hu]
      congr 1
      omega
    · cases hu
  · cases hr
theorem BRel.cell {L : Loc} {k : Blk} (h : BRel P B0 m L k w) {off : Nat} {x : Value} (hx : k.cells[off]? = some x) :
    ∃ y, VRel m x y ∧ w.cell? ⟨L.blk, L.base + off, none⟩ = some y := by
  have hlt := (List.getElem?_eq_some_iff.1 hx).1
  obtain ⟨ds, hl, hc⟩ := h.row (off := off) (n := 1) (cs := (k.cells.drop off).take 1) (by unfold rdN; rw [if_pos (by omega)])
  have h0 : ((k.cells.drop off).take 1)[0]? = some x := by simp [hx]
  have hlen := hl.1
  cases ds with
  | nil => simp at hlen; omega
  | cons y ds => exact ⟨y, hl.2 0 x y h0 rfl, by simpa [addAddr] using hc 0 y rfl⟩

theorem setRow_size (w : World) (g : Nat) (cs : Array Value) : (w.setRow g cs).heap.size = w.heap.size := by simp [World.setRow]
theorem setRow_ne (w : World) {g k : Nat} (cs : Array Value) (h : g ≠ k) : (w.setRow g cs).heap[k]? = w.heap[k]? := by
  simp only [World.setRow, Array.getElem?_modify]
  rw [if_neg h]
/-- A block of the call's own is written. -/
theorem Rel.write (h : Rel P B0 w0 m H w) {b : Nat} {L : Loc} {k : Blk} (hm : m b = some L) (hb : blk H b = some k) (hk : k.kind ≠ .ro) {c : Array Value} {e : TypeId} {fr : Nat × Nat} (hw : w.heap[L.blk]? = some (.cells c e fr))
    (cs : List Value) (c' : Array Value) (hs : c'.size = c.size) (hlen : cs.length = k.cells.length) (hl : LRel m cs ((c'.toList.drop L.base).take cs.length)) :
    Rel P B0 w0 m (put H b k cs) (w.setRow L.blk c') ∧ Ext m H w m (put H b k cs) (w.setRow L.blk c') := by
  have hB := (h.blks b L k hm hb)
  have hfr : Ext m H w m (put H b k cs) (w.setRow L.blk c') := by
    refine ⟨fun _ _ h => h, Nat.le_of_eq (length_put' ..).symm, Nat.le_of_eq (setRow_size ..).symm, ?_, fun _ _ h => .inl h, ?_⟩
    · intro b2 k2 _ hk2
      by_cases hbb : b = b2
      · subst hbb
        rw [blk_put_same _ _ (blk_lt' hb)] at hk2
        cases hk2
        exact ⟨k, hb, rfl⟩
      · rw [blk_put_ne _ _ hbb] at hk2
        exact ⟨k2, hk2, rfl⟩
    · intro B _ hr
      exact setRow_ne _ _ (hr b L k hm hb hk)
  refine ⟨⟨?_, ?_, ?_, ?_, ?_⟩, hfr⟩
  · refine h.below.trans ⟨rfl, rfl, rfl, hfr.size, fun j hj => setRow_ne _ _ ?_⟩
    have := hB.own hk
    omega
  · rw [setRow_size]; exact h.hB
  · intro b2 L2 h2
    rw [length_put', setRow_size]
    exact h.dom b2 L2 h2
  · intro b2 L2 k2 hm2 hk2
    by_cases hbb : b = b2
    · subst hbb
      rw [hm] at hm2
      cases hm2
      rw [blk_put_same _ _ (blk_lt' hb)] at hk2
      cases hk2
      obtain ⟨c0, e0, fr0, hw0, _, h3, h4, h5⟩ := hB.there
      rw [hw] at hw0
      cases hw0
      exact ⟨hB.kind, ⟨c', e, fr, setRow_heap w _ _ _ _ _ hw, hl, (fun hx => by rw [hs]; exact h3 hx), fun hf => ⟨(h4 hf).1, by rw [hs, (h4 hf).2, hlen]⟩, fun hg => by rw [hs, h5 hg]⟩, hB.own, hB.esz⟩
    · rw [blk_put_ne _ _ hbb] at hk2
      have hne : L.blk ≠ L2.blk := h.inj b b2 L L2 k k2 hm hm2 hb hk2 hk hbb
      obtain ⟨q1, ⟨c2, e2, fr2, hw2, r⟩, q3, q4⟩ := h.blks b2 L2 k2 hm2 hk2
      exact ⟨q1, ⟨c2, e2, fr2, by rw [setRow_ne _ _ hne]; exact hw2, r⟩, q3, q4⟩
  · intro b1 b2 L1 L2 k1 k2 hm1 hm2 hk1 hk2 hne hbb
    have up : ∀ b3 k3, blk (put H b k cs) b3 = some k3 → ∃ k4, blk H b3 = some k4 ∧ k4.kind = k3.kind := fun b3 k3 h3 => hfr.alive b3 k3 (by have := blk_lt' h3; rwa [length_put'] at this) h3
    obtain ⟨k3, h3, h4⟩ := up b1 k1 hk1
    obtain ⟨k4, h5, _⟩ := up b2 k2 hk2
    exact h.inj b1 b2 L1 L2 k3 k4 hm1 hm2 h3 h5 (by rw [h4]; exact hne) hbb
def upd (m : Mp) (b : Nat) (L : Loc) : Mp := fun i => if i = b then some L else m i
theorem upd_same (m : Mp) (b : Nat) (L : Loc) : upd m b L b = some L := by simp [upd]
theorem upd_mono (h : ∀ b L, m b = some L → b < H.length) (L0 : Loc) : ∀ b L, m b = some L → upd m H.length L0 b = some L := by
  intro b L hb
  unfold upd
  rw [if_neg (by have := h b L hb; omega)]
  exact hb
theorem Rel.drew (h : Rel P B0 w0 m H w) : Rel P B0 w0 m H w.drew :=
  ⟨h.below.drew, h.hB, h.dom, fun b L k h1 h2 => let ⟨q1, q2, q3, q4⟩ := h.blks b L k h1 h2; ⟨q1, q2, q3, q4⟩, h.inj⟩
theorem Ext.drew {m' : Mp} {H' : AH} {w' : World} (h : Ext m H w m' H' w') : Ext m H w m' H' w'.drew := ⟨h.mono, h.len, h.size, h.alive, h.new, h.frame⟩
theorem Ext.drewL {m' : Mp} {H' : AH} {w' : World} (h : Ext m H w.drew m' H' w') : Ext m H w m' H' w' := ⟨h.mono, h.len, h.size, h.alive, h.new, h.frame⟩
/-- A block is made. -/
theorem Rel.make (h : Rel P B0 w0 m H w) (cs : List Value) (e : TypeId) (kd : BK) (c : Array Value) (hkd : kd ≠ .ro) (hl : LRel m cs (c.toList.take cs.length)) (hf : kd = .fix → c.size = cs.length) :
    let L : Loc := ⟨w.heap.size, 0, kd, c.size, szT P e⟩
    Rel P B0 w0 (upd m H.length L) (mkB H cs e kd) (w.alloc (.cells c e)) ∧ Ext m H w (upd m H.length L) (mkB H cs e kd) (w.alloc (.cells c e)) := by
  intro L
  have hmono := upd_mono (m := m) (H := H) (fun b L hb => (h.dom b L hb).1) L
  have old : ∀ b2 L2, upd m H.length L b2 = some L2 → (b2 = H.length ∧ L2 = L) ∨ (b2 ≠ H.length ∧ m b2 = some L2) := by
    intro b2 L2 h2
    unfold upd at h2
    split at h2
    · rename_i hb; cases h2; exact .inl ⟨hb, rfl⟩
    · rename_i hb; exact .inr ⟨hb, h2⟩
  have hfr : Ext m H w (upd m H.length L) (mkB H cs e kd) (w.alloc (.cells c e)) := by
    refine ⟨hmono, by rw [length_mkB']; omega, by simp, ?_, ?_, fun B hB _ => heap_alloc_old w _ _ hB⟩
    · intro b2 k2 hb2 hk2
      rw [blk_mkB_old' _ _ _ hb2] at hk2
      exact ⟨k2, hk2, rfl⟩
    · intro b2 L2 h2
      rcases old b2 L2 h2 with ⟨rfl, rfl⟩ | ⟨_, h3⟩
      · exact .inr ⟨Nat.le_refl _, .inl (Nat.le_refl _)⟩
      · exact .inl h3
  refine ⟨⟨h.below.alloc h.hB _, by simp; exact Nat.le_succ_of_le h.hB, ?_, ?_, ?_⟩, hfr⟩
  · intro b2 L2 h2
    rw [length_mkB']
    simp only [World.size_alloc]
    rcases old b2 L2 h2 with ⟨rfl, rfl⟩ | ⟨_, h3⟩
    · exact ⟨by omega, by show w.heap.size < _; omega⟩
    · have := h.dom b2 L2 h3; omega
  · intro b2 L2 k2 h2 hk2
    rcases old b2 L2 h2 with ⟨rfl, rfl⟩ | ⟨hne, h3⟩
    · rw [blk_mkB_new'] at hk2
      cases hk2
      refine ⟨rfl, ⟨c, e, (0, 0), heap_alloc_new w _, ?_, fun _ => ⟨rfl, rfl, Nat.zero_le _⟩, fun hk => ⟨rfl, hf hk⟩, fun _ => rfl⟩, fun _ => h.hB, fun _ => rfl⟩
      show LRel _ cs ((c.toList.drop 0).take cs.length)
      rw [List.drop_zero]
      exact hl.mono hmono
    · have hlt := (h.dom b2 L2 h3)
      rw [blk_mkB_old' _ _ _ hlt.1] at hk2
      obtain ⟨q1, ⟨c2, e2, fr2, hw2, r1, r2⟩, q3, q4⟩ := h.blks b2 L2 k2 h3 hk2
      exact ⟨q1, ⟨c2, e2, fr2, by rw [heap_alloc_old w _ _ hlt.2]; exact hw2, r1.mono hmono, r2⟩, q3, q4⟩
  · intro b1 b2 L1 L2 k1 k2 hm1 hm2 hk1 hk2 hne hbb
    rcases old b1 L1 hm1 with ⟨rfl, rfl⟩ | ⟨hn1, h1⟩
    · rcases old b2 L2 hm2 with ⟨rfl, rfl⟩ | ⟨hn2, h2⟩
      · exact (hbb rfl).elim
      · have := (h.dom b2 L2 h2).2
        show w.heap.size ≠ L2.blk
        omega
    · have hd1 := h.dom b1 L1 h1
      rw [blk_mkB_old' _ _ _ hd1.1] at hk1
      rcases old b2 L2 hm2 with ⟨rfl, rfl⟩ | ⟨hn2, h2⟩
      · show L1.blk ≠ w.heap.size
        omega
      · have hd2 := h.dom b2 L2 h2
        rw [blk_mkB_old' _ _ _ hd2.1] at hk2
        exact h.inj b1 b2 L1 L2 k1 k2 h1 h2 hk1 hk2 hne hbb
/-- A block is given up. -/
theorem Rel.killed (h : Rel P B0 w0 m H w) (b : Nat) : Rel P B0 w0 m (kill H b) w ∧ Ext m H w m (kill H b) w := by
  have up : ∀ b3 k3, blk (kill H b) b3 = some k3 → blk H b3 = some k3 := by
    intro b3 k3 h3
    by_cases hb : b = b3
    · subst hb; rw [blk_kill_same] at h3; cases h3
    · rwa [blk_kill_ne hb] at h3
  refine ⟨⟨h.below, h.hB, fun b2 L2 h2 => by rw [length_kill']; exact h.dom b2 L2 h2, fun b2 L2 k2 h2 hk2 => h.blks b2 L2 k2 h2 (up _ _ hk2), fun b1 b2 L1 L2 k1 k2 hm1 hm2 hk1 hk2 => h.inj b1 b2 L1 L2 k1 k2 hm1 hm2 (up _ _ hk1) (up _ _ hk2)⟩,
    ⟨fun _ _ h => h, Nat.le_of_eq (length_kill' ..).symm, Nat.le_refl _, fun b2 k2 _ hk2 => ⟨k2, up _ _ hk2, rfl⟩, fun _ _ h => .inl h, fun _ _ _ => rfl⟩⟩
/-- A row that has room is written behind its end: the elder block is given up, the new one lies where it lay. -/
theorem Rel.regrow (h : Rel P B0 w0 m H w) {b : Nat} {L : Loc} {k : Blk} (hm : m b = some L) (hb : blk H b = some k) (hk : k.kind = .grow) {c : Array Value} {e : TypeId} {fr : Nat × Nat} (hw : w.heap[L.blk]? = some (.cells c e fr))
    (base : Nat) (cs : List Value) (c' : Array Value) (hs : c'.size = c.size) (hbs : base ≤ c'.size) (hl : LRel m cs ((c'.toList.drop base).take cs.length)) :
    let L' : Loc := ⟨L.blk, base, .grow, L.csize, L.esz⟩
    Rel P B0 w0 (upd m H.length L') (mkB (kill H b) cs k.elem .grow) (w.setRow L.blk c') ∧ Ext m H w (upd m H.length L') (mkB (kill H b) cs k.elem .grow) (w.setRow L.blk c') := by
  intro L'
  have hk' : k.kind ≠ .ro := by rw [hk]; decide
  have hmono := upd_mono (m := m) (H := H) (fun b L hb => (h.dom b L hb).1) L'
  have old : ∀ b2 L2, upd m H.length L' b2 = some L2 → (b2 = H.length ∧ L2 = L') ∨ (b2 ≠ H.length ∧ m b2 = some L2) := by
    intro b2 L2 h2
    unfold upd at h2
    split at h2
    · rename_i hb; cases h2; exact .inl ⟨hb, rfl⟩
    · rename_i hb; exact .inr ⟨hb, h2⟩
  have hlk : (kill H b).length = H.length := length_kill' ..
  have back : ∀ b3 k3, b3 < H.length → blk (mkB (kill H b) cs k.elem .grow) b3 = some k3 → b ≠ b3 ∧ blk H b3 = some k3 := by
    intro b3 k3 h3 hk3
    rw [blk_mkB_old' _ _ _ (by rw [hlk]; exact h3)] at hk3
    by_cases hbb : b = b3
    · subst hbb; rw [blk_kill_same] at hk3; cases hk3
    · exact ⟨hbb, by rwa [blk_kill_ne hbb] at hk3⟩
  have hB := h.blks b L k hm hb
  have hfr : Ext m H w (upd m H.length L') (mkB (kill H b) cs k.elem .grow) (w.setRow L.blk c') := by
    refine ⟨hmono, by rw [length_mkB', hlk]; omega, Nat.le_of_eq (setRow_size ..).symm, ?_, ?_, ?_⟩
    · intro b2 k2 hb2 hk2
      exact ⟨k2, (back b2 k2 hb2 hk2).2, rfl⟩
    · intro b2 L2 h2
      rcases old b2 L2 h2 with ⟨rfl, rfl⟩ | ⟨_, h3⟩
      · exact .inr ⟨Nat.le_refl _, .inr ⟨b, L, k, hm, hb, hk', rfl⟩⟩
      · exact .inl h3
    · intro B _ hr
      exact setRow_ne _ _ (hr b L k hm hb hk')
  refine ⟨⟨?_, by rw [setRow_size]; exact h.hB, ?_, ?_, ?_⟩, hfr⟩
  · refine h.below.trans ⟨rfl, rfl, rfl, hfr.size, fun j hj => setRow_ne _ _ ?_⟩
    have := hB.own hk'
    omega
  · intro b2 L2 h2
    rw [length_mkB', hlk, setRow_size]
    rcases old b2 L2 h2 with ⟨rfl, rfl⟩ | ⟨_, h3⟩
    · have := (h.dom b L hm).2
      exact ⟨by omega, this⟩
    · have := h.dom b2 L2 h3; omega
  · intro b2 L2 k2 h2 hk2
    rcases old b2 L2 h2 with ⟨rfl, rfl⟩ | ⟨hne, h3⟩
    · rw [← hlk, blk_mkB_new'] at hk2
      cases hk2
      obtain ⟨c0, e0, fr0, hw0, _, h4, _, h6⟩ := hB.there
      rw [hw] at hw0
      cases hw0
      exact ⟨rfl, ⟨c', e, fr, setRow_heap w _ _ _ _ _ hw, hl.mono hmono, fun _ => ⟨(h4 hk').1, (h4 hk').2.1, hbs⟩, (fun hx => by cases hx), fun _ => by rw [hs]; exact h6 hk⟩, fun _ => hB.own hk', fun _ => hB.esz hk⟩
    · have hlt := (h.dom b2 L2 h3)
      obtain ⟨hbb, hk3⟩ := back b2 k2 hlt.1 hk2
      have hne2 : L.blk ≠ L2.blk := h.inj b b2 L L2 k k2 hm h3 hb hk3 hk' hbb
      obtain ⟨q1, ⟨c2, e2, fr2, hw2, r1, r2⟩, q3, q4⟩ := h.blks b2 L2 k2 h3 hk3
      exact ⟨q1, ⟨c2, e2, fr2, by rw [setRow_ne _ _ hne2]; exact hw2, r1.mono hmono, r2⟩, q3, q4⟩
  · intro b1 b2 L1 L2 k1 k2 hm1 hm2 hk1 hk2 hne hbb
    rcases old b1 L1 hm1 with ⟨rfl, rfl⟩ | ⟨hn1, h1⟩
    · rcases old b2 L2 hm2 with ⟨rfl, rfl⟩ | ⟨hn2, h2⟩
      · exact (hbb rfl).elim
      · obtain ⟨hb2, hk3⟩ := back b2 k2 (h.dom b2 L2 h2).1 hk2
        exact h.inj b b2 L L2 k k2 hm h2 hb hk3 hk' hb2
    · obtain ⟨hb1, hk3⟩ := back b1 k1 (h.dom b1 L1 h1).1 hk1
      rcases old b2 L2 hm2 with ⟨rfl, rfl⟩ | ⟨hn2, h2⟩
      · exact h.inj b1 b L1 L k1 k h1 hm hk3 hb hne (Ne.symm hb1)
      · obtain ⟨_, hk4⟩ := back b2 k2 (h.dom b2 L2 h2).1 hk2
        exact h.inj b1 b2 L1 L2 k1 k2 h1 h2 hk3 hk4 hne hbb
end
end Go.AM
set_option linter.unusedVariables false
set_option linter.unusedSimpArgs false
namespace Go.AM
open Go.RowKit

theorem info_of_underlying {P : Program} {t : TypeId} {d : TypeDesc} (h : P.underlying t = some d) : ∃ i, P.info? t = some i := by
  unfold Program.underlying at h
  cases hi : P.info? t with
  | none => rw [hi] at h; cases h
  | some i => exact ⟨i, rfl⟩
theorem szT_eq {P : Program} {t : TypeId} {i : TypeInfo} (h : P.info? t = some i) : szT P t = i.size := by simp [szT, Program.cellsOf, h]
theorem byT_eq {P : Program} {t : TypeId} {i : TypeInfo} (h : P.info? t = some i) : byT P t = i.bytes := by simp [byT, Program.bytesOf, h]
theorem run_sizeOf {P : Program} {t : TypeId} {i : TypeInfo} (h : P.info? t = some i) (w : World) : (sizeOf t).run P w = .ok (szT P t) w := by
  simp [sizeOf, typeInfo, h, szT_eq h]
theorem aggT_true {P : Program} {t : TypeId} (h : aggT P t = some true) (w : World) : (isAgg t).run P w = .ok true w ∧ ∃ i, P.info? t = some i := by
  unfold aggT at h
  split at h
  · rename_i fs hd; exact ⟨by simp [isAgg, run_underlying hd], info_of_underlying hd⟩
  · rename_i n e hd; exact ⟨by simp [isAgg, run_underlying hd], info_of_underlying hd⟩
  · cases h
  · cases h
theorem aggT_false {P : Program} {t : TypeId} (h : aggT P t = some false) (w : World) : (isAgg t).run P w = .ok false w ∧ ∃ i, P.info? t = some i := by
  unfold aggT at h
  split at h
  · cases h
  · cases h
  · rename_i d h1 h2 hd
    refine ⟨?_, info_of_underlying hd⟩
    cases d <;> first | (simp [isAgg, run_underlying hd]; done) | exact (h1 _ rfl).elim | exact (h2 _ _ rfl).elim
  · cases h
theorem zeroT_inv {P : Program} {t : TypeId} {z : Value} (h : zeroT P t = some z) : ∃ i, P.info? t = some i ∧ i.zero = some z ∧ flat z = true := by
  unfold zeroT at h
  cases hi : P.info? t with
  | none => rw [hi] at h; cases h
  | some i =>
    rw [hi] at h
    cases hz : i.zero with
    | none => simp [hz] at h
    | some z' =>
      simp only [hz, Option.bind_some] at h
      split at h
      · rename_i hf; cases h; exact ⟨i, rfl, hz, hf⟩
      · cases h
theorem run_zeroValue {P : Program} {t : TypeId} {z : Value} {i : TypeInfo} (h : P.info? t = some i) (hz : i.zero = some z) (w : World) : (zeroValue t).run P w = .ok z w := by
  simp [zeroValue, typeInfo, h, hz]

section
variable {P : Program} {B0 : Nat} {w0 : World} {m : Mp} {H : AH} {w : World}

theorem ldC_inv {a v : Value} (h : ldC H a = some v) : ∃ b off k, a = .pointer (some ⟨b, off, none⟩) ∧ blk H b = some k ∧ k.cells[off]? = some v := by
  unfold ldC at h
  split at h
  · rename_i b off
    cases hb : blk H b with
    | none => rw [hb] at h; cases h
    | some k => rw [hb] at h; exact ⟨b, off, k, rfl, hb, h⟩
  · cases h
theorem ld_sound (R : Rel P B0 w0 m H w) {t : TypeId} {a a' v : Value} (ha : VRel m a a') (h : ld P t H a = some v) :
    ∃ v', (Instr.loadAt t a').run P w = .ok v' w ∧ VRel m v v' := by
  unfold ld at h
  split at h
  · rename_i hg
    obtain ⟨h1, i, hi⟩ := aggT_true hg w
    unfold ldA at h
    split at h
    · rename_i b off
      cases hb : blk H b with
      | none => rw [hb] at h; cases h
      | some k =>
        rw [hb] at h
        simp only [Option.bind_some] at h
        cases hr : rdN k off (szT P t) with
        | none => rw [hr] at h; cases h
        | some cs =>
          rw [hr] at h
          cases h
          obtain ⟨L, hm, rfl⟩ := ha.ptr_inv
          obtain ⟨ds, hl, hc⟩ := (R.blks b L k hm hb).row hr
          have hlen : ds.length = szT P t := by
            rw [← hl.1]
            unfold rdN at hr
            split at hr
            · cases hr; simp; omega
            · cases hr
          refine ⟨.agg ds.toArray, ?_, VRel.aggL (by simpa using hl)⟩
          have := run_loadCells_list (P := P) w _ ds hc
          rw [hlen] at this
          simp [Instr.loadAt, Instr.sureAddr, loadVar, h1, run_sizeOf hi, this]
    · cases h
  · rename_i hg
    obtain ⟨h1, i, hi⟩ := aggT_false hg w
    obtain ⟨b, off, k, rfl, hb, hx⟩ := ldC_inv h
    obtain ⟨L, hm, rfl⟩ := ha.ptr_inv
    obtain ⟨y, hy, hc⟩ := (R.blks b L k hm hb).cell hx
    exact ⟨y, by simp [Instr.loadAt, Instr.sureAddr, loadVar, h1, hc], hy⟩
  · cases h

/-- Cells are stored into a block of the call's own. -/
theorem store_sound (R : Rel P B0 w0 m H w) {b off : Nat} {k : Blk} {L : Loc} (hm : m b = some L) (hb : blk H b = some k) (hk : k.kind ≠ .ro) {cs ds : List Value} (hle : off + cs.length ≤ k.cells.length) (hl : LRel m cs ds) (h1 : ∀ u ∈ ds, u.oneCell' = true) :
    ∃ w', (storeCells ⟨L.blk, L.base + off, none⟩ ds).run P w = .ok () w' ∧ Rel P B0 w0 m (put H b k (spl k.cells off cs)) w' ∧ Ext m H w m (put H b k (spl k.cells off cs)) w' := by
  obtain ⟨c, e, fr, hw, hlr, h3, h4, h5⟩ := (R.blks b L k hm hb).there
  obtain ⟨rfl, _, hbs⟩ := h3 hk
  have hsz : L.base + k.cells.length ≤ c.size := by
    have := hlr.1
    simp at this
    omega
  have hst := run_storeCells_at P L.blk (L.base + off) e ds 0 c w hw (by have := hl.1; omega) h1
  have hlen := length_spl k.cells off cs hle
  refine ⟨_, hst, R.write hm hb hk hw _ _ ?_ hlen ?_⟩
  · have := hl.1
    simp
    omega
  · rw [hlen]
    have e1 : ((c.toList.take (L.base + off + 0) ++ ds ++ c.toList.drop (L.base + off + 0 + ds.length)).toArray.toList.drop L.base).take k.cells.length = spl ((c.toList.drop L.base).take k.cells.length) off ds := by
      have hd := hl.1
      have hcl : c.toList.length = c.size := by simp
      apply List.ext_getElem?
      intro j
      unfold AM.spl
      simp only [List.getElem?_take, List.getElem?_drop, List.getElem?_append, List.length_take, List.length_drop, Nat.add_zero, List.length_append]
      rw [hcl]
      by_cases hj : j < k.cells.length
      · rw [if_pos hj]
        by_cases h6 : j < off
        · rw [if_pos (by omega), if_pos (by omega), if_pos (by omega), if_pos (by omega), if_pos (by omega), if_pos (by omega)]
        · by_cases h7 : j < off + ds.length
          · rw [if_pos (by omega), if_neg (by omega), if_neg (by omega), if_pos (by omega)]
            congr 1
            omega
          · rw [if_neg (by omega), if_neg (by omega), if_neg (by omega), if_pos (by omega)]
            congr 1
            omega
      · rw [if_neg hj]
        by_cases h7 : j < off + ds.length
        · omega
        · rw [if_neg (by omega), if_neg (by omega), if_neg (by omega)]
    rw [e1]
    exact hlr.spl hl off
theorem st_sound (R : Rel P B0 w0 m H w) {t : TypeId} {a a' v v' : Value} {H' : AH} (ha : VRel m a a') (hv : VRel m v v') (h : st P t H a v = some H') :
    ∃ w', (Instr.storeAt t a' v').run P w = .ok () w' ∧ Rel P B0 w0 m H' w' ∧ Ext m H w m H' w' := by
  unfold st at h
  split at h
  · rename_i hg
    obtain ⟨h1, i, hi⟩ := aggT_true hg w
    unfold stA at h
    split at h
    · rename_i b off cs
      cases hb : blk H b with
      | none => rw [hb] at h; cases h
      | some k =>
        rw [hb] at h
        simp only [Option.bind_some] at h
        split at h
        · rename_i hc
          obtain ⟨c1, c2, c3, c4⟩ := hc
          cases h
          obtain ⟨L, hm, rfl⟩ := ha.ptr_inv
          obtain ⟨q1, q2⟩ := hv.cells (x := .agg cs) c4
          obtain ⟨w', h5, h6, h7⟩ := store_sound R hm hb c1 (off := off) (cs := cs.toList) (by simpa [c3] using c2) q1 q2
          have hsz : v'.cells.size = szT P t := by have := q1.1; simp [Value.cells] at this; simp [Value.cells]; omega
          exact ⟨w', by simp [Instr.storeAt, Instr.sureAddr, storeVar, run_sizeOf hi, hsz, h5], h6, h7⟩
        · cases h
    · cases h
  · rename_i hg
    obtain ⟨h1, i, hi⟩ := aggT_false hg w
    split at h
    · rename_i hs
      unfold stC at h
      split at h
      · rename_i b off
        cases hb : blk H b with
        | none => rw [hb] at h; cases h
        | some k =>
          rw [hb] at h
          simp only [Option.bind_some] at h
          split at h
          · rename_i hc
            obtain ⟨c1, c2, c3⟩ := hc
            cases h
            obtain ⟨L, hm, rfl⟩ := ha.ptr_inv
            obtain ⟨q1, q2⟩ := hv.isCell c3
            obtain ⟨w', h5, h6, h7⟩ := store_sound R hm hb c1 (off := off) (cs := [v]) (ds := [v']) (by simp; omega) (LRel.cons hv (LRel.nil m)) (by simp [q1])
            have e1 : spl k.cells off [v] = k.cells.set off v := by
              unfold spl
              rw [List.set_eq_take_append_cons_drop, if_pos c2]
              simp
            rw [e1] at h6 h7
            exact ⟨w', by simp [Instr.storeAt, Instr.sureAddr, storeVar, run_sizeOf hi, hs, q2, h5], h6, h7⟩
          · cases h
      · cases h
    · cases h
  · cases h
theorem VRel.newPtr {L : Loc} {b : Nat} (hm : m b = some L) (h0 : L.base = 0) : VRel m (AM.ptr b 0) (.pointer (some ⟨L.blk, 0, none⟩)) := by
  have := VRel.ptr (m := m) b 0 L hm
  rw [h0] at this
  exact this
theorem box_sound (R : Rel P B0 w0 m H w) {t : TypeId} {v v' u : Value} {H' : AH} (hv : VRel m v v') (h : box t H v = some (u, H')) :
    ∃ u' m' w', (Instr.box t v').run P w = .ok u' w' ∧ VRel m' u u' ∧ Rel P B0 w0 m' H' w' ∧ Ext m H w m' H' w' := by
  unfold box at h
  split at h
  · rename_i hc
    cases h
    obtain ⟨q1, q2⟩ := hv.cells hc
    have hsz : v'.cells.size = v.cells.toList.length := by have := q1.1; simp at this ⊢; omega
    obtain ⟨h1, h2⟩ := R.make (P := P) v.cells.toList t .fix v'.cells (by decide) (by rw [List.take_of_length_le (by simp; simp at hsz; omega)]; exact q1) (fun _ => hsz)
    exact ⟨_, _, _, by simp [Instr.box, newVar, newRow], VRel.newPtr (upd_same _ _ _) rfl, h1, h2⟩
  · cases h
theorem newV_sound (R : Rel P B0 w0 m H w) {t : TypeId} {u : Value} {H' : AH} (h : newV P t H = some (u, H')) (old : Value) :
    ∃ u' m' w', (Instr.alloc t true old).run P w = .ok u' w' ∧ VRel m' u u' ∧ Rel P B0 w0 m' H' w' ∧ Ext m H w m' H' w' := by
  unfold newV at h
  cases hz : zeroT P t with
  | none => rw [hz] at h; cases h
  | some z =>
    rw [hz] at h
    obtain ⟨i, hi, h1, h2⟩ := zeroT_inv hz
    obtain ⟨u', m', w', h3, h4⟩ := box_sound R (VRel.of_flat h2) h
    refine ⟨u', m', w', ?_, h4⟩
    simp [Instr.box] at h3
    simp [Instr.alloc, run_zeroValue hi h1, h3]
end
end Go.AM
set_option linter.unusedVariables false
set_option linter.unusedSimpArgs false
namespace Go.AM
open Go.RowKit

theorem rep_length (z : List Value) : ∀ n, (rep z n).length = n * z.length
  | 0 => by simp [rep]
  | n + 1 => by rw [rep, List.length_append, rep_length z n, Nat.add_mul, Nat.one_mul, Nat.add_comm]
theorem rep_get (z : List Value) : ∀ (n j : Nat), j < n * z.length → (rep z n)[j]? = z[j % z.length]?
  | 0, j, h => by omega
  | n + 1, j, h => by
    rw [rep, List.getElem?_append]
    split
    · rename_i hj; rw [Nat.mod_eq_of_lt hj]
    · rename_i hj
      rw [rep_get z n (j - z.length) (by rw [Nat.add_mul] at h; omega)]
      congr 1
      rw [Nat.mod_eq_sub_mod (a := j) (by omega)]
theorem madeCells_toList (z : Array Value) (n : Nat) : (madeCells z (n * z.size)).toList = rep z.toList n := by
  apply List.ext_getElem?
  intro j
  have hs : (madeCells z (n * z.size)).toList.length = n * z.size := by simp [madeCells]
  by_cases hj : j < n * z.size
  · rw [rep_get z.toList n j (by simpa using hj)]
    have hz : 0 < z.size := by
      rcases Nat.eq_zero_or_pos z.size with h | h
      · rw [h] at hj; omega
      · exact h
    have hm : j % z.size < z.size := Nat.mod_lt _ hz
    simp only [madeCells, Array.toList_map, Array.toList_range, List.getElem?_map, List.getElem?_range hj, Option.map_some, Array.length_toList]
    rw [Array.getElem?_toList]
    simp [hm]
  · rw [List.getElem?_eq_none (by omega), List.getElem?_eq_none (by rw [rep_length]; simp; omega)]

section
variable {P : Program} {B0 : Nat} {w0 : World} {m : Mp} {H : AH} {w : World}

theorem flat_cells {z : Value} (h : flat z = true) : LRel m z.cells.toList z.cells.toList := by
  have := VRel.of_flat (m := m) h
  unfold flat at h
  split at h
  · exact LRel.of_flat _ h
  · rename_i hz
    have : z.cells = #[z] := by cases z <;> first | rfl | exact (hz _ rfl).elim
    rw [this]
    exact LRel.cons (.flat _ h) (LRel.nil m)
theorem LRel.rep {xs ys : List Value} (h : LRel m xs ys) : ∀ n, LRel m (rep xs n) (rep ys n)
  | 0 => LRel.nil m
  | n + 1 => h.append (LRel.rep h n)
theorem VRel.int_inv {k : IntKind} {n : Int} {v : Value} (h : VRel m (.int k n) v) : v = .int k n := h.flat_inv rfl
theorem VRel.bool_inv {b : Bool} {v : Value} (h : VRel m (.bool b) v) : v = .bool b := h.flat_inv rfl
theorem VRel.str_inv {s : ByteArray} {v : Value} (h : VRel m (.string s) v) : v = .string s := h.flat_inv rfl
theorem VRel.newSl {L : Loc} {b n c c' : Nat} (hm : m b = some L) (h0 : L.base = 0) (h1 : n ≤ c) (h2 : n ≤ c') (h3 : L.kind = .fix → c' = c) (h4 : L.kind = .grow → c' * L.esz ≤ L.csize) (h5 : L.kind ≠ .fix → n < c) : VRel m (sl b 0 n c) (.slice (some ⟨L.blk, 0, none⟩) n c') :=
  .slice b 0 0 n c c' L hm h1 h2 (.inl (by omega)) (fun hk => ⟨by omega, h3 hk⟩) (fun hk _ _ => by have := h4 hk; omega) (fun hk => .inl (h5 hk))
theorem mkS_sound (R : Rel P B0 w0 m H w) {t : TypeId} {l l' c c' u : Value} {H' : AH} (hl : VRel m l l') (hc : VRel m c c') (h : mkS P t H l c = some (u, H')) :
    ∃ u' m' w', (Instr.makeSlice t l' c').run P w = .ok u' w' ∧ VRel m' u u' ∧ Rel P B0 w0 m' H' w' ∧ Ext m H w m' H' w' := by
  unfold mkS at h
  split at h
  · rename_i e k1 n k2 q hd
    cases hz : zeroT P e with
    | none => rw [hz] at h; cases h
    | some z =>
      rw [hz] at h
      simp only [Option.bind_some] at h
      split at h
      · rename_i hcond
        obtain ⟨c1, c2, c3, c4, c5, c6⟩ := hcond
        cases h
        obtain ⟨i, hi, hz1, hz2⟩ := zeroT_inv hz
        cases hl.int_inv
        cases hc.int_inv
        rw [byT_eq hi] at c3
        rw [szT_eq hi] at c5
        have hrun := run_make (P := P) w t e i z hd hi hz1 k1 k2 n q c1 c2 (by rw [Int.mul_comm]; exact c3) c4
        rw [← c5] at hrun
        have hml := madeCells_toList z.cells q.toNat
        obtain ⟨h1, h2⟩ := R.make (P := P) (rep z.cells.toList q.toNat) e .fix (madeCells z.cells (q.toNat * z.cells.size)) (by decide)
          (by rw [hml, List.take_of_length_le (Nat.le_refl _)]; exact (flat_cells hz2).rep _) (fun _ => by rw [size_madeCells, rep_length]; simp)
        exact ⟨_, _, _, hrun, VRel.newSl (upd_same _ _ _) rfl (by omega) (by omega) (fun _ => rfl) (fun hk => by cases hk) (fun hk => (hk rfl).elim), h1, h2⟩
      · cases h
  · cases h
theorem fldA_sound (R : Rel P B0 w0 m H w) {s : TypeId} {a a' v : Value} {i : Nat} (ha : VRel m a a') (h : fldA P s a i = some v) : ∃ v', (Instr.fieldAt s a' i).run P w = .ok v' w ∧ VRel m v v' := by
  unfold fldA at h
  split at h
  · rename_i fs b off hd
    cases hf : fs[i]? with
    | none => rw [hf] at h; cases h
    | some f =>
      rw [hf] at h
      simp only [Option.bind_some] at h
      split at h
      · cases h
      · rename_i hz
        cases h
        obtain ⟨L, hm, rfl⟩ := ha.ptr_inv
        have hinfo : ∃ j, P.info? f.type = some j := by
          cases hj : P.info? f.type with
          | some j => exact ⟨j, rfl⟩
          | none => exfalso; apply hz; simp [szT, Program.cellsOf, hj]
        obtain ⟨j, hj⟩ := hinfo
        refine ⟨.pointer (some ⟨L.blk, L.base + (off + f.offset), none⟩), ?_, .ptr b (off + f.offset) L hm⟩
        simp [Instr.fieldAt, run_underlying hd, hf, Instr.sureAddr, fieldPlace, run_sizeOf hj, hz, Addr.add_lit, Nat.add_assoc]
  · cases h
theorem prt_sound {t : TypeId} {cs ds : List Value} {off : Nat} {v : Value} (hl : LRel m cs ds) (h : prt P t cs off = some v) : ∃ v', (part t ds.toArray off).run P w = .ok v' w ∧ VRel m v v' := by
  unfold prt at h
  split at h
  · rename_i hg
    obtain ⟨h1, i, hi⟩ := aggT_true hg w
    cases h
    refine ⟨.agg ((ds.drop off).take (szT P t)).toArray, ?_, VRel.aggL (by simpa using (hl.drop off).take _)⟩
    simp [part, h1, run_sizeOf hi]
  · rename_i hg
    obtain ⟨h1, i, hi⟩ := aggT_false hg w
    have hlt := (List.getElem?_eq_some_iff.1 h).1
    have hd : ds[off]? = some (ds[off]'(by rw [← hl.1]; exact hlt)) := List.getElem?_eq_getElem _
    exact ⟨_, by simp [part, h1, hd], hl.2 off _ _ h hd⟩
  · cases h
theorem fld_sound {s : TypeId} {x x' v : Value} {i : Nat} (hx : VRel m x x') (h : fld P s x i = some v) : ∃ v', (Instr.field s x' i).run P w = .ok v' w ∧ VRel m v v' := by
  unfold fld at h
  split at h
  · rename_i fs cs hd
    cases hf : fs[i]? with
    | none => rw [hf] at h; cases h
    | some f =>
      rw [hf] at h
      obtain ⟨ys, rfl, hl⟩ := hx.agg_inv
      obtain ⟨v', h1, h2⟩ := prt_sound (P := P) (w := w) hl h
      exact ⟨v', by simpa [Instr.field, run_underlying hd, hf, asAgg] using h1, h2⟩
  · cases h
theorem isSome_info {t : TypeId} (h : (P.info? t).isSome = true) : ∃ i, P.info? t = some i := Option.isSome_iff_exists.1 h
theorem ixA_sound {t : TypeId} {x x' i i' v : Value} (hx : VRel m x x') (hi : VRel m i i') (h : ixA P t x i = some v) : ∃ v', (Instr.indexAt t x' i').run P w = .ok v' w ∧ VRel m v v' := by
  unfold ixA at h
  split at h
  · rename_i e b off len cap k n hd
    split at h
    · rename_i hc
      cases h
      cases hi.int_inv
      obtain ⟨L, off', cap', hm, rfl, h1, h2, h3, h4, h5, h6⟩ := hx.slice_inv
      obtain ⟨ie, hie⟩ := isSome_info hc.1
      rcases h3 with h3 | h3
      · subst h3
        refine ⟨.pointer (some ⟨L.blk, L.base + (off + n.toNat * szT P e), none⟩), ?_, .ptr b _ L hm⟩
        simp [Instr.indexAt, asIntOf, run_underlying hd, hc.2, run_sizeOf hie, Addr.add_lit, Nat.add_assoc]
      · omega
    · cases h
  · rename_i len e b off k n hd
    split at h
    · rename_i hc
      cases h
      cases hi.int_inv
      obtain ⟨L, hm, rfl⟩ := hx.ptr_inv
      obtain ⟨ie, hie⟩ := isSome_info hc.1
      refine ⟨.pointer (some ⟨L.blk, L.base + (off + n.toNat * szT P e), none⟩), ?_, .ptr b _ L hm⟩
      simp [Instr.indexAt, asIntOf, run_underlying hd, hc.2, Instr.sureAddr, run_sizeOf hie, Addr.add_lit, Nat.add_assoc]
    · cases h
  · cases h
theorem ix_sound {t : TypeId} {x x' i i' v : Value} (hx : VRel m x x') (hi : VRel m i i') (h : ix P t x i = some v) : ∃ v', (Instr.index t x' i').run P w = .ok v' w ∧ VRel m v v' := by
  unfold ix at h
  split at h
  · rename_i s k n hd
    split at h
    · rename_i hc
      cases h
      cases hi.int_inv
      cases hx.str_inv
      have hlt : n.toNat < s.size := by omega
      have e1 : s[n.toNat]? = some s[n.toNat] := by rw [getElem?_pos s n.toNat hlt]
      have e2 : s.data[n.toNat]?.getD 0 = s[n.toNat] := by
        rw [Array.getElem?_eq_getElem (by exact hlt)]; rfl
      exact ⟨_, by simp [Instr.index, asIntOf, run_underlying hd, hc.1, e1]; rfl, by rw [e2]; exact .flat _ rfl⟩
    · cases h
  · rename_i len e cs k n hd
    split at h
    · rename_i hc
      cases hi.int_inv
      obtain ⟨ys, rfl, hl⟩ := hx.agg_inv
      obtain ⟨ie, hie⟩ := isSome_info hc.1
      obtain ⟨v', h1, h2⟩ := prt_sound (P := P) (w := w) hl h
      exact ⟨v', by simpa [Instr.index, asIntOf, run_underlying hd, hc.2, run_sizeOf hie] using h1, h2⟩
    · cases h
  · cases h
/-- An optional bound. -/
def ORel (m : Mp) (x x' : Option Value) : Prop := (x = none ∧ x' = none) ∨ ∃ v v', x = some v ∧ x' = some v' ∧ VRel m v v'
theorem intOr_inv {x x' : Option Value} {d : Nat} {n : Int} (hx : ORel m x x') (h : intOr x d = some n) : (x' = none ∧ n = d) ∨ ∃ k, x' = some (.int k n) := by
  rcases hx with ⟨rfl, rfl⟩ | ⟨v, v', rfl, rfl, hv⟩
  · simp [intOr] at h; exact .inl ⟨rfl, h.symm⟩
  · unfold intOr at h
    split at h
    · rename_i he; cases he
    · rename_i k n' he; cases he; cases h; cases hv.int_inv; exact .inr ⟨k, rfl⟩
    · cases h
theorem sliceBounds_run {lo hi : Option Value} {l h : Int} {len cap d : Nat} (s : Bool) (hl : (lo = none ∧ l = 0) ∨ ∃ k, lo = some (.int k l)) (hh : (hi = none ∧ h = len) ∨ ∃ k, hi = some (.int k h)) (h0 : 0 ≤ l) (h1 : l ≤ h) (h2 : h ≤ cap) :
    (Instr.sliceBounds s len cap lo hi none).run P w = .ok (l.toNat, h.toNat, cap) w := by
  have e1 : (0 : Int) ≤ h := by omega
  rcases hl with ⟨rfl, rfl⟩ | ⟨k, rfl⟩ <;> rcases hh with ⟨rfl, rfl⟩ | ⟨k2, rfl⟩
  · simp [Instr.sliceBounds]
  · simp [Instr.sliceBounds, Instr.sliceBound, asIntOf, e1, h2]
  · simp [Instr.sliceBounds, Instr.sliceBound, asIntOf, h0]
    omega
  · have : l ≤ (h.toNat : Int) := by omega
    simp only [Instr.sliceBounds, Instr.sliceBound, asIntOf, Sem.run_bind, Sem.run_pure, Result.andThen_ok, Sem.run_ite, h0, e1, h2, this, and_self, if_true, Option.isSome_none, Bool.false_eq_true, if_false]
theorem slc_sound {t : TypeId} {x x' v : Value} {lo lo' hi hi' : Option Value} (hx : VRel m x x') (hlo : ORel m lo lo') (hhi : ORel m hi hi') (h : slc P t x lo hi = some v) :
    ∃ v', (Instr.sliceAt t x' lo' hi' none).run P w = .ok v' w ∧ VRel m v v' := by
  unfold slc at h
  split at h
  · rename_i s hd
    cases hl : intOr lo 0 with
    | none => rw [hl] at h; cases h
    | some l =>
      rw [hl] at h
      simp only [Option.bind_some] at h
      cases hh : intOr hi s.size with
      | none => rw [hh] at h; cases h
      | some q =>
        rw [hh] at h
        simp only [Option.bind_some] at h
        split at h
        · rename_i hc
          cases h
          cases hx.str_inv
          have := sliceBounds_run (P := P) (w := w) (d := 0) (len := s.size) (cap := s.size) false (by simpa using intOr_inv hlo hl) (intOr_inv hhi hh) hc.1 hc.2.1 hc.2.2
          exact ⟨_, by simp [Instr.sliceAt, Instr.slice, run_underlying hd, this], .flat _ rfl⟩
        · cases h
  · rename_i e b off len cap hd
    cases hl : intOr lo 0 with
    | none => rw [hl] at h; cases h
    | some l =>
      rw [hl] at h
      simp only [Option.bind_some] at h
      cases hh : intOr hi len with
      | none => rw [hh] at h; cases h
      | some q =>
        rw [hh] at h
        simp only [Option.bind_some] at h
        split at h
        · rename_i hc
          cases h
          obtain ⟨L, off', cap', hm, rfl, h1, h2, h3, h4, h5, h6⟩ := hx.slice_inv
          obtain ⟨ie, hie⟩ := isSome_info hc.1
          have := sliceBounds_run (P := P) (w := w) (d := 0) (len := len) (cap := cap') true (by simpa using intOr_inv hlo hl) (intOr_inv hhi hh) hc.2.1 hc.2.2.1 (by omega)
          refine ⟨.slice (some ⟨L.blk, if cap' = l.toNat then off' else off' + l.toNat * szT P e, none⟩) (q.toNat - l.toNat) (cap' - l.toNat), ?_, ?_⟩
          · simp only [Instr.sliceAt, Instr.slice, Sem.run_bind, run_underlying hd, Result.andThen_ok, this, run_sizeOf hie, Sem.run_pure]
            by_cases he : cap' = l.toNat
            · simp [he]
            · simp [he, Addr.add_lit]
          · refine .slice _ _ _ _ _ _ L hm (by omega) (by omega) ?_ ?_ ?_ (fun hk => by rcases h6 hk with h7 | h7 <;> omega)
            · rcases h3 with h3 | h3
              · by_cases he : cap' = l.toNat
                · exact .inr (by omega)
                · by_cases he2 : cap = l.toNat
                  · exact .inr (by omega)
                  · rw [if_neg he, if_neg he2]; exact .inl (by omega)
              · exact .inr (by omega)
            · intro hk
              obtain ⟨h8, h7⟩ := h4 hk
              subst h7
              refine ⟨?_, rfl⟩
              split <;> omega
            · intro hk ho hcp
              have hle : (cap' - l.toNat) * L.esz ≤ cap' * L.esz := Nat.mul_le_mul_right _ (Nat.sub_le _ _)
              rw [if_neg (by omega)] at ho
              have h8 := h5 hk (by omega) (by omega)
              have hz : l.toNat * szT P e = 0 := by omega
              rw [hz]
              split <;> omega
        · cases h
  · rename_i e hd
    cases hl : intOr lo 0 with
    | none => rw [hl] at h; cases h
    | some l =>
      rw [hl] at h
      simp only [Option.bind_some] at h
      cases hh : intOr hi 0 with
      | none => rw [hh] at h; cases h
      | some q =>
        rw [hh] at h
        simp only [Option.bind_some] at h
        split at h
        · rename_i hc
          cases h
          obtain ⟨hc1, rfl, rfl⟩ := hc
          obtain ⟨ie, hie⟩ := isSome_info hc1
          cases hx.flat_inv rfl
          have := sliceBounds_run (P := P) (w := w) (d := 0) (len := 0) (cap := 0) true (l := 0) (h := 0) (intOr_inv hlo hl) (intOr_inv hhi hh) (by omega) (by omega) (by omega)
          exact ⟨.slice none 0 0, by simp [Instr.sliceAt, Instr.slice, run_underlying hd, this, run_sizeOf hie], .flat _ rfl⟩
        · cases h
  · cases h
theorem slc3_sound {t : TypeId} {x x' v mx mx' : Value} {lo lo' hi hi' : Option Value} (hx : VRel m x x') (hlo : ORel m lo lo') (hhi : ORel m hi hi') (hmx : VRel m mx mx') (h : slc3 P t x lo hi mx = some v) :
    ∃ v', (Instr.sliceAt t x' lo' hi' (some mx')).run P w = .ok v' w ∧ VRel m v v' := by
  unfold slc3 at h
  split at h
  · rename_i e b off len cap k k2 hd hl0
    split at h
    · rename_i hc
      cases h
      obtain ⟨ie, hie⟩ := isSome_info hc
      obtain ⟨L, off', cap', hm, rfl, h1, h2, h3, h4, h5, h6⟩ := hx.slice_inv
      cases hmx.int_inv
      obtain ⟨u, rfl, hu⟩ : ∃ u, hi' = some u ∧ VRel m (.int k 0) u := by
        rcases hhi with ⟨hh, _⟩ | ⟨v, v', hh, rfl, hv⟩
        · cases hh
        · cases hh; exact ⟨v', rfl, hv⟩
      cases hu.int_inv
      refine ⟨.slice (some ⟨L.blk, off', none⟩) 0 0, ?_, .slice b off off' 0 0 0 L hm (Nat.le_refl _) (Nat.le_refl _) (.inr rfl) (fun hk => ⟨(h4 hk).1, rfl⟩) (fun _ _ hh => absurd hh (by decide)) (fun _ => .inr ⟨rfl, rfl⟩)⟩
      rcases intOr_inv hlo hl0 with ⟨rfl, _⟩ | ⟨k3, rfl⟩ <;> simp [Instr.sliceAt, Instr.slice, run_underlying hd, Instr.sliceBounds, Instr.sliceBound, asIntOf, run_sizeOf hie]
    · cases h
  · rename_i e k k2 hd hl0
    split at h
    · rename_i hc
      cases h
      obtain ⟨ie, hie⟩ := isSome_info hc
      cases hx.flat_inv rfl
      cases hmx.int_inv
      obtain ⟨u, rfl, hu⟩ : ∃ u, hi' = some u ∧ VRel m (.int k 0) u := by
        rcases hhi with ⟨hh, _⟩ | ⟨v, v', hh, rfl, hv⟩
        · cases hh
        · cases hh; exact ⟨v', rfl, hv⟩
      cases hu.int_inv
      refine ⟨.slice none 0 0, ?_, .flat _ rfl⟩
      rcases intOr_inv hlo hl0 with ⟨rfl, _⟩ | ⟨k3, rfl⟩ <;> simp [Instr.sliceAt, Instr.slice, run_underlying hd, Instr.sliceBounds, Instr.sliceBound, asIntOf, run_sizeOf hie]
    · cases h
  · cases h
end
end Go.AM
set_option linter.unusedVariables false
set_option linter.unusedSimpArgs false
namespace Go.AM
open Go.RowKit

section
variable {P : Program} {B0 : Nat} {w0 : World} {m : Mp} {H : AH} {w : World}

theorem foldl_set_spl : ∀ (l : List Value) (j off : Nat) (cs : Array Value), off + j + l.length ≤ cs.size →
    ((l.zipIdx j).foldl (fun (cs : Array Value) (p : Value × Nat) => cs.setIfInBounds (off + p.2) p.1) cs).toList = spl cs.toList (off + j) l
  | [], j, off, cs, _ => by simp [spl]
  | v :: l, j, off, cs, h => by
    simp only [List.length_cons] at h
    rw [List.zipIdx_cons, List.foldl_cons, foldl_set_spl l (j + 1) off _ (by simp; omega)]
    have hcl : cs.toList.length = cs.size := by simp
    unfold spl
    rw [Array.toList_setIfInBounds]
    apply List.ext_getElem?
    intro i
    simp only [List.getElem?_append, List.getElem?_take, List.getElem?_drop, List.getElem?_set, List.length_take, List.length_set, List.length_cons]
    rw [hcl]
    by_cases h1 : i < off + j
    · rw [if_pos (by omega), if_pos (by omega), if_neg (by omega), if_pos (by omega), if_pos (by omega)]
    · by_cases h2 : i = off + j
      · subst h2
        have e1 : min (off + (j + 1)) cs.size = off + (j + 1) := by omega
        have e2 : min (off + j) cs.size = off + j := by omega
        rw [e1, e2]
        simp [show off + j < off + (j + 1) by omega, show off + j < cs.size by omega]
      · by_cases h3 : i < off + j + 1 + l.length
        · rw [if_neg (by omega), if_pos (by omega), if_neg (by omega), if_pos (by omega)]
          rw [show i - min (off + j) cs.size = (i - min (off + (j + 1)) cs.size) + 1 by omega, List.getElem?_cons_succ]
        · rw [if_neg (by omega), if_neg (by omega), if_neg (by omega), if_neg (by omega)]
          rw [if_neg (by omega)]
          congr 1
          omega
def PRel (m : Mp) : List (Nat × Value) → List (Nat × Value) → Prop
  | [], [] => True
  | p :: ps, q :: qs => p.1 = q.1 ∧ VRel m p.2 q.2 ∧ PRel m ps qs
  | _, _ => False
theorem fill_sound (place : Nat → Option (Nat × Nat)) : ∀ (ps qs : List (Nat × Value)) (cs : List Value) (ds : Array Value) (es : List Value), PRel m ps qs → LRel m cs ds.toList → fillB place cs ps = some es →
    ∃ fs, Instr.fill place ds qs = some fs ∧ LRel m es fs.toList
  | [], [], cs, ds, es, _, hl, h => by
    cases h
    exact ⟨ds, rfl, hl⟩
  | (i, v) :: ps, (j, u) :: qs, cs, ds, es, hp, hl, h => by
    obtain ⟨rfl, hv, hr⟩ := hp
    unfold fillB at h
    unfold Instr.fill
    cases hpl : place i with
    | none => rw [hpl] at h; cases h
    | some on =>
      obtain ⟨off, n⟩ := on
      rw [hpl] at h
      simp only at h ⊢
      split at h
      · rename_i hc
        obtain ⟨c1, c2, c3⟩ := hc
        obtain ⟨q1, q2⟩ := hv.cells c3
        have hsz : u.cells.size = n := by have := q1.1; simp at this; omega
        have hds : ds.size = cs.length := by have := hl.1; simp at this; omega
        rw [if_neg (by simp [hsz]; omega)]
        refine fill_sound place ps qs _ _ es hr ?_ h
        rw [← Array.foldl_toList, Array.toList_zipIdx]
        have := foldl_set_spl u.cells.toList 0 off ds (by simp [hsz]; omega)
        rw [this]
        exact hl.spl q1 _
      · cases h
  | [], _ :: _, _, _, _, hp, _, _ => hp.elim
  | _ :: _, [], _, _, _, hp, _, _ => hp.elim
theorem build_sound {t : TypeId} {ps qs : List (Nat × Value)} {v : Value} (hp : PRel m ps qs) (h : build P t ps = some v) : ∃ v', (Instr.build t qs.toArray).run P w = .ok v' w ∧ VRel m v v' := by
  unfold build at h
  cases hz : zeroT P t with
  | none => rw [hz] at h; cases h
  | some z =>
    rw [hz] at h
    simp only [Option.bind_some] at h
    obtain ⟨i, hi, hz1, hz2⟩ := zeroT_inv hz
    split at h
    · rename_i fs hd
      split at h
      · cases h
      · rename_i hall
        simp only [Bool.not_eq_false] at hall
        cases hf : fillB (fun i => (fs[i]?).map fun f => (f.offset, szT P f.type)) z.cells.toList ps with
        | none => rw [hf] at h; cases h
        | some cs =>
          rw [hf] at h
          cases h
          obtain ⟨es, h1, h2⟩ := fill_sound (m := m) _ ps qs _ z.cells _ hp (flat_cells hz2) hf
          refine ⟨.agg es, run_build w t qs.toArray es ?_, VRel.aggL (by simpa using h2)⟩
          unfold Program.built
          rw [hi, hd]
          simp only
          have hm : fs.toList.mapM (fun f => (P.info? f.type).map fun i => (f.offset, i.size)) = some (fs.toList.map fun f => (f.offset, szT P f.type)) := by
            have : ∀ l : List Field, l.all (fun f => (P.info? f.type).isSome) = true → l.mapM (fun f => (P.info? f.type).map fun i => (f.offset, i.size)) = some (l.map fun f => (f.offset, szT P f.type)) := by
              intro l
              induction l with
              | nil => intro _; rfl
              | cons f l ih =>
                intro h
                simp only [List.all_cons, Bool.and_eq_true] at h
                obtain ⟨j, hj⟩ := isSome_info h.1
                simp [List.mapM_cons, hj, ih h.2, szT_eq hj]
            exact this _ hall
          rw [hz1, hm]
          simp only
          rw [← h1]
          congr 1
          funext x
          simp
    · rename_i n e hd
      split at h
      · cases h
      · rename_i hall
        simp only [Bool.not_eq_false] at hall
        obtain ⟨j, hj⟩ := isSome_info hall
        cases hf : fillB (fun i => some (i * szT P e, szT P e)) z.cells.toList ps with
        | none => rw [hf] at h; cases h
        | some cs =>
          rw [hf] at h
          cases h
          obtain ⟨es, h1, h2⟩ := fill_sound (m := m) _ ps qs _ z.cells _ hp (flat_cells hz2) hf
          refine ⟨.agg es, run_build w t qs.toArray es ?_, VRel.aggL (by simpa using h2)⟩
          unfold Program.built
          rw [hi, hd]
          simp only [hz1, hj]
          rw [szT_eq hj] at h1
          exact h1
    · cases h
theorem buildS_sound (R : Rel P B0 w0 m H w) {t : TypeId} {len : Nat} {ps qs : List (Nat × Value)} {u : Value} {H' : AH} (hp : PRel m ps qs) (h : buildS P t H len ps = some (u, H')) :
    ∃ u' m' w', (Instr.buildSlice t len qs.toArray).run P w = .ok u' w' ∧ VRel m' u u' ∧ Rel P B0 w0 m' H' w' ∧ Ext m H w m' H' w' := by
  unfold buildS at h
  split at h
  · rename_i e hd
    cases hz : zeroT P e with
    | none => rw [hz] at h; cases h
    | some z =>
      rw [hz] at h
      simp only [Option.bind_some] at h
      obtain ⟨i, hi, hz1, hz2⟩ := zeroT_inv hz
      split at h
      · rename_i hc
        cases hf : fillB (fun i => some (i * szT P e, szT P e)) (rep z.cells.toList len) ps with
        | none => rw [hf] at h; cases h
        | some cs =>
          rw [hf] at h
          cases h
          have hml := madeCells_toList z.cells len
          rw [hc.2] at hml
          obtain ⟨es, h1, h2⟩ := fill_sound (m := m) _ ps qs _ (madeCells z.cells (len * szT P e)) _ hp (by rw [hml]; exact (flat_cells hz2).rep _) hf
          obtain ⟨h3, h4⟩ := R.make (P := P) cs e .fix es (by decide) (by rw [List.take_of_length_le (by have := h2.1; simp at this ⊢; omega)]; exact h2) (fun _ => by have := h2.1; simp at this; omega)
          refine ⟨_, _, _, ?_, VRel.newSl (upd_same _ _ _) rfl (Nat.le_refl _) (Nat.le_refl _) (fun _ => rfl) (fun hk => by cases hk) (fun hk => (hk rfl).elim), h3, h4⟩
          have hle : ¬ (16777216 < len * szT P e) := by omega
          by_cases h0 : len * szT P e = 0
          · have e0 : madeCells z.cells 0 = #[] := by simp [madeCells]
            rw [h0, e0] at h1
            simp [Instr.buildSlice, run_underlying hd, run_sizeOf hi, h0, newRow, Array.range_zero']
            rw [h1]
            simp
          · simp [Instr.buildSlice, run_underlying hd, run_sizeOf hi, h0, hle, run_zeroValue hi hz1, newRow]
            unfold madeCells at h1
            rw [h1]
            simp
      · cases h
  · cases h
theorem still_run {α : Type} : ∀ (s : Sem α) (a : α), still P s = some a → ∀ w, s.run P w = .ok a w := by
  intro s
  induction s with
  | pure a => intro b h w; cases h; rfl
  | program k ih => intro b h w; exact ih P b h w
  | _ => intro b h; cases h
theorem VRel.ptr_some {ad : Addr} {v : Value} (h : VRel m (.pointer (some ad)) v) : ∃ ad', v = .pointer (some ad') := by
  cases h with
  | flat v h => simp [flat1] at h
  | ptr b off L h => exact ⟨_, rfl⟩
theorem VRel.slice_some {ad : Addr} {n c : Nat} {v : Value} (h : VRel m (.slice (some ad) n c) v) : ∃ ad' c', v = .slice (some ad') n c' := by
  cases h with
  | flat v h => simp [flat1] at h
  | slice b off off' len cap cap' L h h1 h2 h3 h4 h5 h6 => exact ⟨_, _, rfl⟩
theorem VRel.func_some {f : Fn} {a b : Array Value} {v : Value} (h : VRel m (.func f a b) v) : ∃ a' b', v = .func f a' b' := by
  cases h with
  | flat v h => simp [flat1] at h
  | func f a b a' b' h1 h2 h3 h4 => exact ⟨_, _, rfl⟩
theorem eqGuard_of {op : BinOp} {t : TypeId} {x y : Operand} {a b : Value} (h : (match a with | .nilIface => false | .agg _ => false | _ => true) = true) : eqGuard op t x y a b = pure () := by
  cases a <;> first | (simp at h; done) | (cases op <;> rfl)
theorem nilEq_sound {t : TypeId} {D : TypeDesc} {a b a' b' : Value} {c : Bool} (hd : P.underlying t = some D) (ha : VRel m a a') (hb : VRel m b b') (h : nilEq D a b = some c) :
    (Op.equal t a' b').run P w = .ok c w ∧ ∀ (op : BinOp) (x y : Operand), eqGuard op t x y a' b' = pure () := by
  obtain ⟨d, e0⟩ : ∃ d, ∀ x y : Value, Op.equal t x y = Op.equalIn (d + 1) t x y := ⟨9999, fun _ _ => rfl⟩
  unfold nilEq at h
  split at h
  · cases h
    obtain ⟨ad', rfl⟩ := ha.ptr_some
    cases hb.flat_inv rfl
    exact ⟨by rw [e0]; simp only [Op.equalIn, Sem.run_bind, run_underlying hd, Result.andThen_ok, Sem.run_pure], fun _ _ _ => eqGuard_of rfl⟩
  · cases h
    obtain ⟨ad', rfl⟩ := hb.ptr_some
    cases ha.flat_inv rfl
    exact ⟨by rw [e0]; simp only [Op.equalIn, Sem.run_bind, run_underlying hd, Result.andThen_ok, Sem.run_pure, Option.isNone_some], fun _ _ _ => eqGuard_of rfl⟩
  · cases h
    obtain ⟨ad', c', rfl⟩ := ha.slice_some
    cases hb.flat_inv rfl
    exact ⟨by rw [e0]; simp only [Op.equalIn, Sem.run_bind, run_underlying hd, Result.andThen_ok, Sem.run_pure], fun _ _ _ => eqGuard_of rfl⟩
  · cases h
    obtain ⟨ad', c', rfl⟩ := hb.slice_some
    cases ha.flat_inv rfl
    exact ⟨by rw [e0]; simp only [Op.equalIn, Sem.run_bind, run_underlying hd, Result.andThen_ok, Sem.run_pure, Option.isNone_some], fun _ _ _ => eqGuard_of rfl⟩
  · cases h
    obtain ⟨a', b', rfl⟩ := ha.func_some
    cases hb.flat_inv rfl
    exact ⟨by rw [e0]; simp only [Op.equalIn, Sem.run_bind, run_underlying hd, Result.andThen_ok, Sem.run_pure], fun _ _ _ => eqGuard_of rfl⟩
  · cases h
    obtain ⟨a', b', rfl⟩ := hb.func_some
    cases ha.flat_inv rfl
    exact ⟨by rw [e0]; simp only [Op.equalIn, Sem.run_bind, run_underlying hd, Result.andThen_ok, Sem.run_pure], fun _ _ _ => eqGuard_of rfl⟩
  · cases h
theorem binOp_eql (t : TypeId) (a b : Value) (h : ∀ k n, a ≠ .int k n) (h2 : ∀ k n, a ≠ .float k n) (h3 : ∀ s, a ≠ .string s) (h4 : ∀ k n q, a ≠ .complex k n q) : binOp .eql t a b = (do pure (.bool (← Op.equal t a b))) := by
  cases a <;> first
    | exact (h _ _ rfl).elim
    | exact (h2 _ _ rfl).elim
    | exact (h3 _ rfl).elim
    | exact (h4 _ _ _ rfl).elim
    | rfl
theorem binOp_neq (t : TypeId) (a b : Value) (h : ∀ k n, a ≠ .int k n) (h2 : ∀ k n, a ≠ .float k n) (h3 : ∀ s, a ≠ .string s) (h4 : ∀ k n q, a ≠ .complex k n q) : binOp .neq t a b = (do pure (.bool (!(← Op.equal t a b)))) := by
  cases a <;> first
    | exact (h _ _ rfl).elim
    | exact (h2 _ _ rfl).elim
    | exact (h3 _ rfl).elim
    | exact (h4 _ _ _ rfl).elim
    | rfl
theorem nilEq_left {D : TypeDesc} {a b a' : Value} {c : Bool} (ha : VRel m a a') (h : nilEq D a b = some c) : (∀ k n, a' ≠ .int k n) ∧ (∀ k n, a' ≠ .float k n) ∧ (∀ s, a' ≠ .string s) ∧ (∀ k n q, a' ≠ .complex k n q) := by
  unfold nilEq at h
  split at h
  · obtain ⟨ad', rfl⟩ := ha.ptr_some; simp
  · cases ha.flat_inv rfl; simp
  · obtain ⟨ad', c', rfl⟩ := ha.slice_some; simp
  · cases ha.flat_inv rfl; simp
  · obtain ⟨a', b', rfl⟩ := ha.func_some; simp
  · cases ha.flat_inv rfl; simp
  · cases h
theorem bin_sound {op : BinOp} {t : TypeId} {ρ : Operand → Value} {x y : Operand} {a b v : Value} (ha : VRel m a (ρ x)) (hb : VRel m b (ρ y)) (h : bin P op t a b = some v) :
    ∃ v', (do eqGuard op t x y (ρ x) (ρ y); binOp op t (ρ x) (ρ y)).run P w = .ok v' w ∧ VRel m v v' := by
  unfold bin at h
  split at h
  · rename_i hf
    obtain ⟨f1, f2, f3⟩ := hf
    rw [ha.flat_inv f1, hb.flat_inv f2]
    cases hs : still P (binOp op t a b) with
    | none => rw [hs] at h; cases h
    | some u =>
      rw [hs] at h
      simp only [Option.bind_some] at h
      split at h
      · rename_i hfu
        cases h
        refine ⟨v, ?_, .flat _ hfu⟩
        have hg : eqGuard op t x y a b = pure () := by
          cases a <;> first | (simp [isNilI] at f3; done) | (simp [flat1] at f1; done) | (cases op <;> rfl)
        rw [hg]
        simp [still_run _ _ hs w]
      · cases h
  · split at h
    · cases hd : P.underlying t with
      | none => rw [hd] at h; cases h
      | some D =>
        rw [hd] at h
        simp only [Option.bind_some] at h
        cases hn : nilEq D a b with
        | none => rw [hn] at h; cases h
        | some c =>
          rw [hn] at h
          cases h
          obtain ⟨h1, h2⟩ := nilEq_sound (w := w) hd ha hb hn
          obtain ⟨q1, q2, q3, q4⟩ := nilEq_left ha hn
          refine ⟨.bool c, ?_, .flat _ rfl⟩
          rw [h2, binOp_eql _ _ _ q1 q2 q3 q4]
          simp [h1]
    · cases hd : P.underlying t with
      | none => rw [hd] at h; cases h
      | some D =>
        rw [hd] at h
        simp only [Option.bind_some] at h
        cases hn : nilEq D a b with
        | none => rw [hn] at h; cases h
        | some c =>
          rw [hn] at h
          cases h
          obtain ⟨h1, h2⟩ := nilEq_sound (w := w) hd ha hb hn
          obtain ⟨q1, q2, q3, q4⟩ := nilEq_left ha hn
          refine ⟨.bool !c, ?_, .flat _ rfl⟩
          rw [h2, binOp_neq _ _ _ q1 q2 q3 q4]
          simp [h1]
    · cases h
theorem un_sound {op : UnOp} {a a' v : Value} (ha : VRel m a a') (h : un P op a = some v) : ∃ v', (Op.unary op a').run P w = .ok v' w ∧ VRel m v v' := by
  unfold un at h
  split at h
  · rename_i hf
    rw [ha.flat_inv hf]
    cases hs : still P (Op.unary op a) with
    | none => rw [hs] at h; cases h
    | some u =>
      rw [hs] at h
      simp only [Option.bind_some] at h
      split at h
      · rename_i hfu; cases h; exact ⟨v, still_run _ _ hs w, .flat _ hfu⟩
      · cases h
  · cases h
theorem cv_sound {s d : TypeId} {a a' v : Value} (ha : VRel m a a') (h : cv P s d a = some v) : ∃ v', (convert s d a').run P w = .ok v' w ∧ VRel m v v' := by
  unfold cv at h
  split at h
  · rename_i hs hd
    cases h
    cases ha.int_inv
    exact ⟨_, by simp [convert, run_underlying hs, run_underlying hd, Conv.intToInt], .flat _ rfl⟩
  · rename_i hs hd
    cases h
    cases ha.str_inv
    refine ⟨_, ?_, .flat _ rfl⟩
    simp [convert, run_underlying hs, run_underlying hd]
  · cases h
end
end Go.AM
set_option linter.unusedVariables false
set_option linter.unusedSimpArgs false
namespace Go.AM
open Go.RowKit

section
variable {P : Program} {B0 : Nat} {w0 : World} {m : Mp} {H : AH} {w : World}

theorem rdN_len {k : Blk} {off n : Nat} {cs : List Value} (h : rdN k off n = some cs) : cs.length = n := by
  unfold rdN at h
  split at h
  · cases h; simp; omega
  · cases h
theorem cellsOfBytes_len (s : ByteArray) : (cellsOfBytes s).length = s.size := by simp [cellsOfBytes]
theorem cells_sound (R : Rel P B0 w0 m H w) {sz n : Nat} {x x' : Value} {cs : List Value} (hx : VRel m x x') (h : sliceCells sz H x n = some cs) :
    ∃ ds, LRel m cs ds ∧ (Builtin.firstCells sz n x').run P w = .ok ds.toArray w ∧ (Builtin.firstCells sz n x').run P w.drew = .ok ds.toArray w.drew ∧ ((∀ s, x ≠ .string s) ∨ sz = 1 → ds.length = n * sz) := by
  unfold sliceCells at h
  split at h
  · split at h
    · rename_i h0
      subst h0
      cases h
      cases hx.flat_inv rfl
      exact ⟨[], LRel.nil m, by simp [Builtin.firstCells], by simp [Builtin.firstCells], fun _ => by simp⟩
    · cases h
  · rename_i b off len cap
    obtain ⟨L, off', cap', hm, rfl, h1, h2, h3, h4, h5, h6⟩ := hx.slice_inv
    split at h
    · rename_i h0
      subst h0
      cases h
      exact ⟨[], LRel.nil m, by simp [Builtin.firstCells, loadCells, loadCellsFrom], by simp [Builtin.firstCells, loadCells, loadCellsFrom], fun _ => by simp⟩
    · split at h
      · cases hb : blk H b with
        | none => rw [hb] at h; cases h
        | some k =>
          rw [hb] at h
          simp only [Option.bind_some] at h
          obtain ⟨ds, hl, hc⟩ := (R.blks b L k hm hb).row h
          have hlen : ds.length = n * sz := by rw [← hl.1]; exact rdN_len h
          rcases h3 with rfl | h3
          · have e1 := run_loadCells_list (P := P) w _ ds hc
            have e2 := run_loadCells_list (P := P) w.drew _ ds hc
            rw [hlen] at e1 e2
            exact ⟨ds, hl, by simp [Builtin.firstCells, e1], by simp [Builtin.firstCells, e2], fun _ => hlen⟩
          · omega
      · cases h
  · rename_i s
    split at h
    · rename_i hn
      cases h
      cases hx.str_inv
      have e : ((s.extract 0 n).data.map fun b => Value.int .u8 b.toNat) = ((cellsOfBytes s).take n).toArray := by
        apply Array.ext'
        simp [cellsOfBytes, ByteArray.data_extract]
      refine ⟨_, LRel.of_flat _ ?_, by simp only [Builtin.firstCells]; rw [e]; rfl, by simp only [Builtin.firstCells]; rw [e]; rfl, fun hh => ?_⟩
      · rw [List.all_eq_true]
        intro v hv
        have := List.mem_of_mem_take hv
        simp only [cellsOfBytes, List.mem_map] at this
        obtain ⟨b, _, rfl⟩ := this
        rfl
      · rcases hh with hh | rfl
        · exact (hh s rfl).elim
        · rw [List.length_take, cellsOfBytes_len]; omega
    · cases h
  · cases h
theorem bytesOf_inv : ∀ (cs : List Value) (l : List UInt8), bytesOf cs = some l → ∃ ns : List Int, cs = ns.map (Value.int .u8) ∧ l = ns.map fun n => UInt8.ofNat n.toNat
  | [], l, h => by cases h; exact ⟨[], rfl, rfl⟩
  | v :: r, l, h => by
    unfold bytesOf at h
    split at h
    · rename_i he; cases he
    · rename_i n r' he
      cases he
      cases hr : bytesOf r with
      | none => rw [hr] at h; cases h
      | some l' =>
        rw [hr] at h
        cases h
        obtain ⟨ns, h1, h2⟩ := bytesOf_inv r l' hr
        exact ⟨n :: ns, by simp [h1], by simp [h2]⟩
    · cases h
theorem foldl_push (ns : List Int) : ∀ r : ByteArray, ns.foldl (fun r n => r.push (UInt8.ofNat n.toNat)) r = ⟨r.data ++ (ns.map fun n => UInt8.ofNat n.toNat).toArray⟩ := by
  induction ns with
  | nil => intro r; simp
  | cons n ns ih => intro r; rw [List.foldl_cons, ih]; simp [ByteArray.push]
theorem LRel.flat_eq {ns : List Int} {ds : List Value} (h : LRel m (ns.map (Value.int .u8)) ds) : ds = ns.map (Value.int .u8) := by
  apply List.ext_getElem?
  intro i
  rcases Nat.lt_or_ge i ns.length with h1 | h1
  · have h2 : i < ds.length := by rw [← h.1]; simpa using h1
    have e1 : (ns.map (Value.int .u8))[i]? = some (.int .u8 ns[i]) := by simp [h1]
    have := h.2 i _ _ e1 (List.getElem?_eq_getElem h2)
    rw [e1, List.getElem?_eq_getElem h2, this.int_inv]
  · rw [List.getElem?_eq_none (by rw [← h.1]; simpa using h1), List.getElem?_eq_none (by simpa using h1)]
theorem cvS_sound (R : Rel P B0 w0 m H w) {s d : TypeId} {a a' v : Value} (ha : VRel m a a') (h : cvS P s d H a = some v) : ∃ v', (convert s d a').run P w = .ok v' w ∧ VRel m v v' := by
  unfold cvS at h
  split at h
  · rename_i e ad len cap hs hd
    split at h
    · rename_i he
      cases hc : sliceCells 1 H (.slice ad len cap) len with
      | none => rw [hc] at h; cases h
      | some cs =>
        rw [hc] at h
        simp only [Option.bind_some] at h
        cases hb : bytesOf cs with
        | none => rw [hb] at h; cases h
        | some l =>
          rw [hb] at h
          cases h
          obtain ⟨ns, rfl, rfl⟩ := bytesOf_inv cs l hb
          obtain ⟨ds, h1, h2, _, h3⟩ := cells_sound R ha hc
          have hds := h1.flat_eq
          subst hds
          refine ⟨_, ?_, .flat _ rfl⟩
          cases ad with
          | none =>
            have hz : len = 0 ∧ cap = 0 := by
              unfold sliceCells at hc
              split at hc
              · rename_i he; cases he; exact ⟨rfl, rfl⟩
              · rename_i he; cases he
              · rename_i he; cases he
              · cases hc
            obtain ⟨rfl, rfl⟩ := hz
            have hn : ns = [] := by have := h3 (.inl fun s hs => by cases hs); simpa using this
            subst hn
            cases ha.flat_inv rfl
            rw [run_convert_bytes_string w s d e none 0 0 hs he hd]
            simp [Conv.bytesToString]
            rfl
          | some ad =>
            obtain ⟨ad', c', rfl⟩ := ha.slice_some
            rw [run_convert_bytes_string w s d e (some ad') len c' hs he hd]
            have e1 : (loadCells ad' len).run P w = .ok (ns.map (Value.int .u8)).toArray w := by simpa [Builtin.firstCells] using h2
            rw [run_bytesToString w ad' len c' ns e1, foldl_push]
            simp
    · cases h
  · cases h
theorem lenOf_sound {x x' : Value} {n : Nat} (hx : VRel m x x') (h : lenOf x = some n) (w : World) : (Builtin.lenOf x').run P w = .ok n w := by
  unfold lenOf at h
  split at h
  · cases h; cases hx.flat_inv rfl; rfl
  · cases h
    rename_i ad n c
    cases hx with
    | flat v hf => simp [flat1] at hf
    | slice => rfl
  · cases h; cases hx.str_inv; rfl
  · cases h
/-- append, where there is room. -/
theorem run_ap_room {t u ty e : TypeId} {i : TypeInfo} {D : TypeDesc} (ht : P.underlying t = some (.slice e)) (hu : P.underlying u = some D) (hD : (∃ e', D = .slice e') ∨ D = .string) (hi : P.info? e = some i) {x : Value} {n : Nat} (hn : (Builtin.lenOf x).run P w = .ok n w)
    {g o sLen sCap : Nat} {news : List Value} (hf : (Builtin.firstCells i.size n x).run P w = .ok news.toArray w) (hroom : sLen + n ≤ sCap) {w' : World} (hst : (storeCells ⟨g, o + sLen * i.size, none⟩ news).run P w = .ok () w') :
    (Builtin.append_ #[t, u] ty #[.slice (some ⟨g, o, none⟩) sLen sCap, x]).run P w = .ok (.slice (some ⟨g, o, none⟩) (sLen + n) sCap) w' := by
  rcases hD with ⟨e', rfl⟩ | rfl <;> simp [Builtin.append_, run_underlying ht, run_underlying hu, sizeOf, typeInfo, hi, hn, hroom, hf, Addr.add_lit, hst]
/-- append, where there is none. -/
theorem run_ap_grow {t u ty e : TypeId} {i : TypeInfo} {z : Value} {D : TypeDesc} (ht : P.underlying t = some (.slice e)) (hu : P.underlying u = some D) (hD : (∃ e', D = .slice e') ∨ D = .string) (hi : P.info? e = some i) (hz : i.zero = some z) {x : Value} {n : Nat} (hn : (Builtin.lenOf x).run P w = .ok n w)
    {b : Option Addr} {sLen sCap : Nat} {olds news : List Value} (hfo : (Builtin.firstCells i.size sLen (.slice b sLen sCap)).run P w.drew = .ok olds.toArray w.drew) (hf : (Builtin.firstCells i.size n x).run P w.drew = .ok news.toArray w.drew)
    (hg : sCap < sLen + n) (h63 : sLen + n ≤ 9223372036854775807) (hfit : (sLen + n) * i.bytes ≤ 140737488355328) :
    (Builtin.append_ #[t, u] ty #[.slice b sLen sCap, x]).run P w =
      .ok (.slice (some ⟨w.heap.size, 0, none⟩) (sLen + n) (grownCap w (sLen + n) sCap e))
        (w.drew.alloc (.cells (olds ++ news ++ (Builtin.zeroCells z.cells (grownCap w (sLen + n) sCap e - (sLen + n))).toList).toArray e)) := by
  have hnn : ¬ (sLen + n ≤ sCap) := by omega
  have h63' : ¬ (9223372036854775807 < ((sLen : Int) + (n : Int))) := by omega
  have h48 := growslice_fits hg hfit
  have h48' : ¬ (281474976710656 < Builtin.nextslicecap (sLen + n) sCap * i.bytes) := by omega
  rcases hD with ⟨e', rfl⟩ | rfl <;> (simp [Builtin.append_, run_underlying ht, run_underlying hu, sizeOf, typeInfo, zeroValue, hi, hz, hn, hnn, h63', h48', Question.forced, hf, hfo, newRow, grownCap]; congr 2; apply Array.ext'; simp)
theorem oneCells {xs ys : List Value} (h : LRel m xs ys) (ha : xs.all isCell = true) : ∀ u ∈ ys, u.oneCell' = true := by
  intro u hu
  obtain ⟨i, hi⟩ := List.getElem?_of_mem hu
  have hlt : i < xs.length := by rw [h.1]; exact (List.getElem?_eq_some_iff.1 hi).1
  have hx := List.getElem?_eq_getElem hlt
  exact (VRel.isCell (h.2 i _ _ hx hi) (List.all_eq_true.1 ha _ (List.mem_of_getElem? hx))).1
theorem grow_new {H0 : AH} (R : Rel P B0 w0 m H0 w) {e : TypeId} {i : TypeInfo} {z : Value} (hi : P.info? e = some i) (hzs : z.cells.size = i.size) {cs ks : List Value} {N cap : Nat} (hl : LRel m cs ks) (hN : ks.length = N * i.size) (hcap : N ≤ cap) :
    ∃ m', VRel m' (sl H0.length 0 N (N + 1)) (.slice (some ⟨w.heap.size, 0, none⟩) N cap) ∧ Rel P B0 w0 m' (mkB H0 cs e .grow) (w.drew.alloc (.cells (ks ++ (Builtin.zeroCells z.cells (cap - N)).toList).toArray e)) ∧
      Ext m H0 w m' (mkB H0 cs e .grow) (w.drew.alloc (.cells (ks ++ (Builtin.zeroCells z.cells (cap - N)).toList).toArray e)) := by
  obtain ⟨h3, h4⟩ := R.drew.make (P := P) cs e .grow (ks ++ (Builtin.zeroCells z.cells (cap - N)).toList).toArray (by decide) (by
    show LRel m cs ((ks ++ _).take cs.length)
    rw [hl.1, List.take_left]
    exact hl) (fun hk => by cases hk)
  refine ⟨_, VRel.newSl (upd_same _ _ _) rfl (Nat.le_succ _) hcap (fun hk => by cases hk) ?_ (fun _ => Nat.lt_succ_self _), h3, h4.drewL⟩
  intro _
  show cap * szT P e ≤ (ks ++ (Builtin.zeroCells z.cells (cap - N)).toList).toArray.size
  simp only [List.size_toArray, List.length_append, Array.length_toList, size_zeroCells, hN, hzs, szT_eq hi]
  rw [← Nat.add_mul]
  exact Nat.mul_le_mul_right _ (by omega)
theorem apS_sound (R : Rel P B0 w0 m H w) {t u ty e : TypeId} {i : TypeInfo} {z : Value} {D : TypeDesc} (ht : P.underlying t = some (.slice e)) (hu : P.underlying u = some D) (hD : (∃ e', D = .slice e') ∨ D = .string) (hi : P.info? e = some i) (hz : i.zero = some z)
    (hzs : z.cells.size = i.size) {s s' x x' v : Value} {n : Nat} {news : List Value} {H' : AH} (hs : VRel m s s') (hx : VRel m x x') (hsz0 : 0 < i.size) (hn : lenOf x = some n) (hc : sliceCells i.size H x n = some news) (hd1 : (∀ s, x ≠ .string s) ∨ i.size = 1) (hone : news.all isCell = true)
    (h : apS i.size i.bytes e H s n news = some (v, H')) :
    ∃ v' m' w', (Builtin.append_ #[t, u] ty #[s', x']).run P w = .ok v' w' ∧ VRel m' v v' ∧ Rel P B0 w0 m' H' w' ∧ Ext m H w m' H' w' := by
  have hnl := lenOf_sound (P := P) hx hn w
  obtain ⟨ds, hl, hf1, hf2, hdl⟩ := cells_sound R hx hc
  have hdl := hdl hd1
  have h1 := oneCells hl hone
  unfold apS at h
  split at h
  · cases hs.flat_inv rfl
    split at h
    · rename_i h0
      subst h0
      cases h
      have hd0 : ds = [] := by simpa using hdl
      subst hd0
      refine ⟨.slice none 0 0, m, w, ?_, .flat _ rfl, R, Ext.refl _ _ _⟩
      rcases hD with ⟨e', rfl⟩ | rfl <;> simp [Builtin.append_, run_underlying ht, run_underlying hu, sizeOf, typeInfo, hi, hnl, hf1]
    · rename_i h0
      split at h
      · rename_i hb
        cases h
        have hrun := run_ap_grow (P := P) (w := w) (ty := ty) (b := none) (sLen := 0) (sCap := 0) (olds := []) ht hu hD hi hz hnl (by simp [Builtin.firstCells]) hf2 (by omega) (by omega) (by rw [Nat.zero_add]; exact hb.1)
        simp only [Nat.zero_add, List.nil_append] at hrun
        obtain ⟨m', q1, q2, q3⟩ := grow_new R hi hzs hl hdl (grownCap_ge w n 0 e)
        exact ⟨_, m', _, hrun, q1, q2, q3⟩
      · cases h
  · rename_i b off len cap
    have hs0 := hs
    obtain ⟨L, off', cap', hm, rfl, g1, g2, g3, g4, g5, g8⟩ := hs.slice_inv
    split at h
    · rename_i h0
      subst h0
      cases h
      have hd0 : ds = [] := by simpa using hdl
      subst hd0
      exact ⟨_, m, w, run_ap_room ht hu hD hi hnl hf1 (by omega) (by simp [storeCells]), hs0, R, Ext.refl _ _ _⟩
    · rename_i hn0
      split at h
      · rename_i hc0
        subst hc0
        have hl0 : len = 0 := by omega
        subst hl0
        have hc0 : cap' = 0 := by
          by_cases hk : L.kind = .fix
          · exact (g4 hk).2
          · rcases g8 hk with g9 | g9
            · omega
            · exact g9.2
        subst hc0
        split at h
        · rename_i hb
          cases h
          have hrun := run_ap_grow (P := P) (w := w) (ty := ty) (b := some ⟨L.blk, off', none⟩) (sLen := 0) (sCap := 0) (olds := []) ht hu hD hi hz hnl (by simp [Builtin.firstCells, loadCells, loadCellsFrom]) hf2 (by omega) (by omega) (by rw [Nat.zero_add]; exact hb.1)
          simp only [Nat.zero_add, List.nil_append] at hrun
          obtain ⟨m', q1, q2, q3⟩ := grow_new R hi hzs hl hdl (grownCap_ge w n 0 e)
          exact ⟨_, m', _, hrun, q1, q2, q3⟩
        · cases h
      rename_i hcap0
      cases hb : blk H b with
      | none => rw [hb] at h; cases h
      | some k =>
        rw [hb] at h
        simp only [Option.bind_some] at h
        cases hr : rdN k off (len * i.size) with
        | none => rw [hr] at h; cases h
        | some old =>
          rw [hr] at h
          simp only [Option.bind_some] at h
          have hol := rdN_len hr
          -- the elder cells, as they are read
          have holds : ∃ os, LRel m old os ∧ os.length = len * i.size ∧ (Builtin.firstCells i.size len (.slice (some ⟨L.blk, off', none⟩) len cap')).run P w.drew = .ok os.toArray w.drew := by
            have hsc : sliceCells i.size H (.slice (some ⟨b, off, none⟩) len cap) len = some old := by
              unfold sliceCells
              simp only
              split
              · rename_i hl0
                subst hl0
                have : old = [] := by simpa using hol
                rw [this]
              · rw [if_pos (Nat.le_refl _), hb]
                exact hr
            obtain ⟨os, q1, _, q3, q4⟩ := cells_sound R hs0 hsc
            exact ⟨os, q1, q4 (.inl fun s hs => by cases hs), q3⟩
          obtain ⟨os, q1, q2, q3⟩ := holds
          split at h
          · rename_i hcond
            obtain ⟨c1, c2, c3⟩ := hcond
            split at h
            · cases h
            · rename_i hk
              have hLk : L.kind = .fix := by rw [(R.blks b L k hm hb).kind]; exact hk
              obtain ⟨g6, g7⟩ := g4 hLk
              subst g7 g6
              split at h
              · rename_i hle
                split at h
                · rename_i hfit
                  cases h
                  have hnews : news.length = n * i.size := by rw [hl.1, hdl]
                  have hfit' : off + len * i.size + news.length ≤ k.cells.length := by rw [hnews, Nat.add_assoc, ← Nat.add_mul]; exact hfit
                  obtain ⟨w', r1, r2, r3⟩ := store_sound R hm hb (by rw [hk]; decide) (off := off + len * i.size) hfit' hl h1
                  rw [← Nat.add_assoc] at r1
                  refine ⟨_, m, w', run_ap_room ht hu hD hi hnl hf1 hle r1, ?_, r2, r3⟩
                  exact .slice b off _ (len + n) cap' cap' L hm hle hle (.inl rfl) (fun _ => ⟨rfl, rfl⟩) (fun hx => by rw [hLk] at hx; cases hx) (fun hx => (hx hLk).elim)
                · cases h
              · rename_i hle
                cases h
                have hrun := run_ap_grow (P := P) (w := w) (ty := ty) (olds := os) ht hu hD hi hz hnl q3 hf2 (show cap' < len + n by omega) c2 c1
                obtain ⟨m', r1, r2, r3⟩ := grow_new R hi hzs (q1.append hl) (N := len + n) (cap := grownCap w (len + n) cap' e) (by rw [List.length_append, q2, hdl, Nat.add_mul]) (grownCap_ge w _ _ e)
                exact ⟨_, m', _, hrun, r1, r2, r3⟩
            · rename_i hk
              split at h
              · rename_i hoff
                subst hoff
                have hcp : 0 < cap := by omega
                cases h
                have hLk : L.kind = .grow := by rw [(R.blks b L k hm hb).kind]; exact hk
                have hcs := g5 hLk rfl hcp
                by_cases hle : len + n ≤ cap'
                · obtain ⟨c, e', fr, hw, hlr, h3, h4, h5⟩ := (R.blks b L k hm hb).there
                  obtain ⟨rfl, he, hbs⟩ := h3 (by rw [hk]; decide)
                  have hcsz := h5 hk
                  have hesz : L.esz = i.size := by rw [(R.blks b L k hm hb).esz hk, c3, szT_eq hi]
                  have hin : off' + len * i.size + ds.length ≤ c.size := by
                    rw [hdl, hcsz, Nat.add_assoc, ← Nat.add_mul]
                    have : (len + n) * i.size ≤ cap' * i.size := Nat.mul_le_mul_right _ hle
                    rw [hesz] at hcs
                    omega
                  have hst := run_storeCells_at P L.blk (off' + len * i.size) e' ds 0 c w hw (by omega) h1
                  have hrun := run_ap_room (P := P) (w := w) (ty := ty) ht hu hD hi hnl hf1 hle hst
                  simp only [Nat.add_zero] at hst hrun
                  have hcl : c.toList.length = c.size := by simp
                  have hold : LRel m old ((c.toList.drop off').take (len * i.size)) := by
                    unfold rdN at hr
                    split at hr
                    · rename_i hle2
                      cases hr
                      rcases g3 with g3 | g3
                      · have := (hlr.drop 0).take (len * i.size)
                        simp only [List.drop_zero] at this
                        rw [List.take_take, Nat.min_eq_left (by omega)] at this
                        rw [List.drop_zero, g3, Nat.add_zero]
                        exact this
                      · subst g3
                        simp only [Nat.zero_mul, List.take_zero]
                        exact LRel.nil m
                    · cases hr
                  have hcut : ((c.toList.take (off' + len * i.size) ++ ds ++ c.toList.drop (off' + len * i.size + ds.length)).toArray.toList.drop off').take (old ++ news).length = (c.toList.drop off').take (len * i.size) ++ ds := by
                    have hnl2 : (old ++ news).length = len * i.size + ds.length := by rw [List.length_append, hol, hl.1]
                    rw [hnl2]
                    apply List.ext_getElem?
                    intro j
                    simp only [List.getElem?_take, List.getElem?_drop, List.getElem?_append, List.length_take, List.length_drop, List.length_append]
                    rw [hcl]
                    by_cases j1 : j < len * i.size
                    · rw [if_pos (by omega), if_pos (by omega), if_pos (by omega), if_pos (by omega), if_pos (by omega), if_pos (by omega)]
                    · by_cases j2 : j < len * i.size + ds.length
                      · rw [if_pos (by omega), if_pos (by omega), if_neg (by omega), if_neg (by omega)]
                        congr 1
                        omega
                      · rw [if_neg (by omega), if_neg (by omega), List.getElem?_eq_none (by omega)]
                  obtain ⟨r2, r3⟩ := R.regrow (P := P) hm hb hk hw off' (old ++ news) (c.toList.take (off' + len * i.size) ++ ds ++ c.toList.drop (off' + len * i.size + ds.length)).toArray (by simp; omega) (by simp; omega) (by
                    rw [hcut]
                    exact hold.append hl)
                  rw [c3] at r2 r3
                  refine ⟨_, _, _, hrun, ?_, r2, r3⟩
                  refine .slice H.length 0 off' (len + n) (len + n + 1) cap' ⟨L.blk, off', .grow, L.csize, L.esz⟩ (upd_same _ _ _) (Nat.le_succ _) hle (.inl rfl) (fun hx => by cases hx) (fun _ _ _ => hcs) (fun _ => .inl (Nat.lt_succ_self _))
                · have hrun := run_ap_grow (P := P) (w := w) (ty := ty) (olds := os) ht hu hD hi hz hnl q3 hf2 (show cap' < len + n by omega) c2 c1
                  obtain ⟨R2, X2⟩ := R.killed b
                  obtain ⟨m', r1, r2, r3⟩ := grow_new R2 hi hzs (q1.append hl) (N := len + n) (cap := grownCap w (len + n) cap' e) (by rw [List.length_append, q2, hdl, Nat.add_mul]) (grownCap_ge w _ _ e)
                  rw [length_kill'] at r1
                  exact ⟨_, m', _, hrun, r1, r2, Ext.trans (fun b L hb => (R.dom b L hb).1) X2 r3⟩
              · cases h
          · cases h
  · cases h
end
end Go.AM
set_option linter.unusedVariables false
set_option linter.unusedSimpArgs false
namespace Go.AM
open Go.RowKit

section
variable {P : Program} {B0 : Nat} {w0 : World} {m : Mp} {H : AH} {w : World}

theorem run_cpy {t u ty e : TypeId} {i : TypeInfo} (hd : P.underlying t = some (.slice e)) (hi : P.info? e = some i) {x : Value} {n len cap : Nat} {ad : Option Addr} {ds : List Value} {w' : World} (hn : (Builtin.lenOf x).run P w = .ok n w)
    (hf : (Builtin.firstCells i.size (min n len) x).run P w = .ok ds.toArray w) (hst : ∀ a, ad = some a → (storeCells a ds).run P w = .ok () w') (hno : ad = none → w' = w) :
    (Builtin.copy_ #[t, u] ty #[.slice ad len cap, x]).run P w = .ok (goInt (min n len : Nat)) w' := by
  have hm : n.min len = min n len := rfl
  cases ad with
  | none => cases hno rfl; simp [Builtin.copy_, run_underlying hd, hn, sizeOf, typeInfo, hi, hm, hf]
  | some a => simp [Builtin.copy_, run_underlying hd, hn, sizeOf, typeInfo, hi, hm, hf, hst a rfl]
theorem sliceCells_zero {sz : Nat} {x : Value} {cs : List Value} (h : sliceCells sz H x 0 = some cs) : cs = [] := by
  unfold sliceCells at h
  split at h
  · rw [if_pos rfl] at h; cases h; rfl
  · rw [if_pos rfl] at h; cases h; rfl
  · split at h
    · cases h; rfl
    · cases h
  · cases h
theorem cpy_sound (R : Rel P B0 w0 m H w) {t u ty : TypeId} {s s' x x' v : Value} {H' : AH} (hs : VRel m s s') (hx : VRel m x x') (h : cpy P t H s x = some (v, H')) :
    ∃ v' w', (Builtin.copy_ #[t, u] ty #[s', x']).run P w = .ok v' w' ∧ VRel m v v' ∧ Rel P B0 w0 m H' w' ∧ Ext m H w m H' w' := by
  unfold cpy at h
  split at h
  · rename_i e b off len cap hd
    split at h
    · cases h
    · rename_i hinf
      simp only [Bool.not_eq_false] at hinf
      obtain ⟨i, hi⟩ := isSome_info hinf
      cases hn : lenOf x with
      | none => rw [hn] at h; cases h
      | some n =>
        rw [hn] at h
        simp only [Option.bind_some] at h
        cases hc : sliceCells (szT P e) H x (min n len) with
        | none => rw [hc] at h; cases h
        | some cs =>
          rw [hc] at h
          simp only [Option.bind_some] at h
          have hnl := lenOf_sound (P := P) hx hn w
          obtain ⟨ds, hl, hf1, _, _⟩ := cells_sound R hx hc
          obtain ⟨L, off', cap', hm, rfl, g1, g2, g3, g4, g5, g8⟩ := hs.slice_inv
          rw [szT_eq hi] at hf1
          split at h
          · rename_i h0
            cases h
            rw [h0] at hc
            have := sliceCells_zero hc
            subst this
            have hds : ds = [] := hl.nil_inv
            subst hds
            refine ⟨_, w, run_cpy hd hi hnl hf1 (fun a _ => by simp [storeCells]) (fun h => by cases h), ?_, R, Ext.refl _ _ _⟩
            rw [h0]
            exact .flat _ rfl
          · rename_i h0
            cases hb : blk H b with
            | none => rw [hb] at h; cases h
            | some k =>
              rw [hb] at h
              simp only [Option.bind_some] at h
              split at h
              · rename_i hcond
                obtain ⟨c1, c2, c4⟩ := hcond
                cases h
                have h1 := oneCells hl c4
                have g3 : off' = L.base + off := by omega
                subst g3
                obtain ⟨w', r1, r2, r3⟩ := store_sound R hm hb c1 (off := off) c2 hl h1
                exact ⟨_, w', run_cpy hd hi hnl hf1 (fun a ha => by cases ha; exact r1) (fun h => by cases h), .flat _ rfl, r2, r3⟩
              · cases h
  · rename_i e hd
    split at h
    · cases h
    · rename_i hinf
      simp only [Bool.not_eq_false] at hinf
      obtain ⟨i, hi⟩ := isSome_info hinf
      cases hn : lenOf x with
      | none => rw [hn] at h; cases h
      | some n =>
        rw [hn] at h
        cases h
        cases hs.flat_inv rfl
        have hnl := lenOf_sound (P := P) hx hn w
        have hf : (Builtin.firstCells i.size (min n 0) x').run P w = .ok (([] : List Value).toArray) w := by
          rw [Nat.min_zero]
          unfold lenOf at hn
          split at hn
          · cases hx.flat_inv rfl; simp [Builtin.firstCells]
          · obtain ⟨ad', c', rfl⟩ := hx.slice_some; simp [Builtin.firstCells, loadCells, loadCellsFrom]
          · cases hx.str_inv; simp [Builtin.firstCells]
          · cases hn
        refine ⟨_, w, run_cpy hd hi hnl hf (fun a ha => by cases ha) (fun _ => rfl), ?_, R, Ext.refl _ _ _⟩
        rw [Nat.min_zero]
        exact .flat _ rfl
  · cases h
theorem lenV_sound {t u ty : TypeId} {x x' v : Value} (hx : VRel m x x') (h : lenV P t x = some v) : (Builtin.len_ #[t] ty #[x']).run P w = .ok v w ∧ flat1 v = true := by
  unfold lenV at h
  split at h
  · rename_i s hd
    cases h
    cases hx.str_inv
    exact ⟨by simp [Builtin.len_, run_underlying hd, goInt], rfl⟩
  · rename_i e a n c hd
    cases h
    cases hx with
    | flat v hf =>
      exact ⟨by simp [Builtin.len_, run_underlying hd, goInt], rfl⟩
    | slice => exact ⟨by simp [Builtin.len_, run_underlying hd, goInt], rfl⟩
  · rename_i n e hd
    cases h
    exact ⟨by simp [Builtin.len_, run_underlying hd, goInt], rfl⟩
  · cases h
theorem min2_sound {x y x' y' v : Value} (hx : VRel m x x') (hy : VRel m y y') (h : minV x y = some v) : (Builtin.min2 x' y').run P w = .ok v w ∧ flat1 v = true := by
  unfold minV at h
  split at h
  · cases h; cases hx.int_inv; cases hy.int_inv; exact ⟨by simp [Builtin.min2], rfl⟩
  · cases h
theorem max2_sound {x y x' y' v : Value} (hx : VRel m x x') (hy : VRel m y y') (h : maxV x y = some v) : (Builtin.max2 x' y').run P w = .ok v w ∧ flat1 v = true := by
  unfold maxV at h
  split at h
  · cases h; cases hx.int_inv; cases hy.int_inv; exact ⟨by simp [Builtin.max2], rfl⟩
  · cases h
theorem foldgo_sound (f : Value → Value → Option Value) (g : Value → Value → Sem Value) (hfg : ∀ {x y x' y' v : Value}, VRel m x x' → VRel m y y' → f x y = some v → (g x' y').run P w = .ok v w ∧ flat1 v = true) :
    ∀ (xs ys : List Value) (x x' v : Value), VRel m x x' → LRel m xs ys → fold1.go f x xs = some v → ∃ v', (ys.foldlM g x').run P w = .ok v' w ∧ VRel m v v'
  | [], ys, x, x', v, hx, hl, h => by
    cases hl.nil_inv
    cases h
    exact ⟨x', by simp [List.foldlM], hx⟩
  | y :: xs, ys, x, x', v, hx, hl, h => by
    obtain ⟨y', zs, rfl, hy, hr⟩ := hl.cons_inv
    unfold fold1.go at h
    cases hf : f x y with
    | none => rw [hf] at h; cases h
    | some u =>
      rw [hf] at h
      obtain ⟨h1, h2⟩ := hfg hx hy hf
      obtain ⟨v', h3, h4⟩ := foldgo_sound f g hfg xs zs u u v (.flat _ h2) hr h
      exact ⟨v', by simp [List.foldlM_cons, h1, h3], h4⟩
theorem min_sound {ts : Array TypeId} {ty : TypeId} {xs ys : List Value} {v : Value} (hl : LRel m xs ys) (h : fold1 minV xs = some v) : ∃ v', (Builtin.min_ ts ty ys.toArray).run P w = .ok v' w ∧ VRel m v v' := by
  cases xs with
  | nil => cases h
  | cons x xs =>
    obtain ⟨x', zs, rfl, hx, hr⟩ := hl.cons_inv
    obtain ⟨v', h1, h2⟩ := foldgo_sound (P := P) (w := w) minV Builtin.min2 (fun hx hy h => min2_sound hx hy h) xs zs x x' v hx hr h
    exact ⟨v', by simpa [Builtin.min_] using h1, h2⟩
theorem max_sound {ts : Array TypeId} {ty : TypeId} {xs ys : List Value} {v : Value} (hl : LRel m xs ys) (h : fold1 maxV xs = some v) : ∃ v', (Builtin.max_ ts ty ys.toArray).run P w = .ok v' w ∧ VRel m v v' := by
  cases xs with
  | nil => cases h
  | cons x xs =>
    obtain ⟨x', zs, rfl, hx, hr⟩ := hl.cons_inv
    obtain ⟨v', h1, h2⟩ := foldgo_sound (P := P) (w := w) maxV Builtin.max2 (fun hx hy h => max2_sound hx hy h) xs zs x x' v hx hr h
    exact ⟨v', by simpa [Builtin.max_] using h1, h2⟩
theorem ext_sound {a a' v : Value} {i : Nat} (ha : VRel m a a') (h : ext a i = some v) : ∃ v', (Instr.extract a' i).run P w = .ok v' w ∧ VRel m v v' := by
  unfold ext at h
  split at h
  · rename_i vs
    obtain ⟨ys, rfl, hl⟩ := ha.tuple_inv
    have hlt := (Array.getElem?_eq_some_iff.1 h).1
    have hlt2 : i < ys.size := by have := hl.1; simp at this; omega
    have e1 : ys[i]? = some ys[i] := Array.getElem?_eq_getElem hlt2
    exact ⟨ys[i], by simp [Instr.extract, e1], hl.2 i _ _ (by simpa using h) (by simpa using e1)⟩
  · cases h
end
end Go.AM
set_option linter.unusedVariables false
set_option linter.unusedSimpArgs false
namespace Go.AM
open Go.RowKit

def Enterable (P : Program) (f : FuncId) : Prop := ∃ fn, P.funcs[f]? = some fn ∧ fn.name ≠ "runtime.NumGoroutine" ∧ fn.body.isSome = true
/-- What a call comes to. -/
def SimCall (P : Program) (f : FuncId) (args : List Value) (H : AH) (v : Value) (H' : AH) : Prop :=
  ∀ (B0 : Nat) (w0 : World) (m : Mp) (w : World) (args' : List Value), Rel P B0 w0 m H w → LRel m args args' →
    Calls P f args'.toArray w fun e w' => ∃ m' v', e = .returned v' ∧ VRel m' v v' ∧ Rel P B0 w0 m' H' w' ∧ Ext m H w m' H' w'
def CallOK (P : Program) (call : CallF) : Prop := ∀ f args H v H', call f args H = some (v, H') → Enterable P f ∧ SimCall P f args H v H'
def OpSim (P : Program) (B0 : Nat) (w0 : World) (o : Oper) (a : Act) (m : Mp) (H : AH) (w : World) (v : Value) (H' : AH) : Prop :=
  ∀ (next : Act → World → Prop) (Q : Exit → Act → World → Prop), (∀ m' v' w', Ext m H w m' H' w' → Rel P B0 w0 m' H' w' → VRel m' v v' → next (a.put o.dst v') w') → o.wp P a w next Q

section
variable {P : Program} {B0 : Nat} {w0 : World} {m : Mp} {H : AH} {w : World} {call : CallF} {R : Type}

theorem run_callFunc {f : FuncId} (h : Enterable P f) (args : Array Value) (w : World) : (callFunc f args).run P w = .ok (.enter f args) w := by
  obtain ⟨fn, h1, h2, h3⟩ := h
  obtain ⟨c, hc⟩ := Option.isSome_iff_exists.1 h3
  simp [callFunc, program, Sem.run, h1, h2, hc]
theorem OpSim.value {o : Oper} {a : Act} {v v' : Value} {H' : AH} {m' : Mp} {w' : World} (hr : (execOp a.eval o).run P w = .ok (.value v') w') (hv : VRel m' v v') (R' : Rel P B0 w0 m' H' w') (E : Ext m H w m' H' w') : OpSim P B0 w0 o a m H w v H' :=
  fun next Q h => by unfold Oper.wp; rw [hr]; exact h m' v' w' E R' hv
theorem OpSim.still {o : Oper} {a : Act} {v v' : Value} (R' : Rel P B0 w0 m H w) (hr : (execOp a.eval o).run P w = .ok (.value v') w) (hv : VRel m v v') : OpSim P B0 w0 o a m H w v H :=
  OpSim.value hr hv R' (Ext.refl _ _ _)
theorem OpSim.skip {o : Oper} {a : Act} {H' : AH} {w' : World} (hr : (execOp a.eval o).run P w = .ok .skip w') (R' : Rel P B0 w0 m H' w') (E : Ext m H w m H' w') : OpSim P B0 w0 o a m H w undef H' :=
  fun next Q h => by unfold Oper.wp; rw [hr]; exact h m undef w' E R' (VRel.undef _)
theorem opv_rel {T : List Value} {a : Act} (hT : LRel m T a.tmps.toList) (x : Operand) : VRel m (opv T x) (a.eval x) := by
  cases x with
  | tmp t =>
    simp only [opv, Act.eval]
    rcases Nat.lt_or_ge t T.length with h | h
    · have hlen : T.length = a.tmps.size := hT.1.trans Array.length_toList
      have h2 : t < a.tmps.size := hlen ▸ h
      have e1 : T[t]? = some T[t] := List.getElem?_eq_getElem h
      have e2 : a.tmps.toList[t]? = some a.tmps[t] := by simp [h2]
      have := hT.2 t _ _ e1 e2
      simpa [List.getD, e1, Array.getD, h2] using this
    · have h2 : a.tmps.size ≤ t := by have hlen : T.length = a.tmps.size := hT.1.trans Array.length_toList; omega
      have e1 : T[t]? = none := List.getElem?_eq_none h
      simp [List.getD, e1, Array.getD, Nat.not_lt.2 h2]
      exact VRel.undef _
  | const v =>
    simp only [opv, Act.eval]
    split
    · rename_i hf; exact VRel.of_flat hf
    · exact .unk _
  | global g => exact .unk _
  | func f => exact .func f _ _ _ _ rfl (fun i x y h => by simp at h) rfl (fun i x y h => by simp at h)
theorem parts_rel {T : List Value} {a : Act} (hT : LRel m T a.tmps.toList) : ∀ ps : List (Nat × Operand), PRel m (ps.map fun p => (p.1, opv T p.2)) (ps.map fun p => (p.1, a.eval p.2))
  | [] => trivial
  | p :: ps => ⟨rfl, opv_rel hT p.2, parts_rel hT ps⟩
theorem args_rel {T : List Value} {a : Act} (hT : LRel m T a.tmps.toList) (l : List Operand) : LRel m (l.map (opv T)) (l.map a.eval) := LRel.map _ _ l fun x _ => opv_rel hT x
theorem opt_rel {T : List Value} {a : Act} (hT : LRel m T a.tmps.toList) (x : Option Operand) : ORel m (x.map (opv T)) (x.map a.eval) := by
  cases x with
  | none => exact .inl ⟨rfl, rfl⟩
  | some x => exact .inr ⟨_, _, rfl, rfl, opv_rel hT x⟩
theorem bind_some {α β : Type} {x : Option α} {f : α → Option β} {r : β} (h : x.bind f = some r) : ∃ a, x = some a ∧ f a = some r := by
  cases x with
  | none => cases h
  | some a => exact ⟨a, rfl, h⟩
theorem nilChk_sound {dst : Option Tmp} {x : Operand} {ty : TypeId} {ps : String} {af : Array Edge} {g : Option (Nat × Bool)} {a : Act} {T : List Value} {v : Value} (hT : LRel m T a.tmps.toList) (h : nilChk (opv T x) = some v) :
    ∃ v', (execOp a.eval ⟨dst, .nilCheck x, ty, ps, af, g⟩).run P w = .ok (.value v') w ∧ VRel m v v' := by
  have hx := opv_rel hT x
  unfold nilChk at h
  split at h
  · rename_i ad he
    cases h
    rw [he] at hx
    obtain ⟨ad', hx'⟩ := hx.ptr_some
    exact ⟨.pointer (some ad'), by simp [execOp, hx'], by rw [← hx']; exact hx⟩
  · rename_i f u1 u2 he
    cases h
    rw [he] at hx
    obtain ⟨a', b', hx'⟩ := hx.func_some
    exact ⟨.func (.func f) a' b', by simp [execOp, hx'], by rw [← hx']; exact hx⟩
  · cases h
theorem call_sound (hcall : CallOK P call) (R0 : Rel P B0 w0 m H w) {T : List Value} {a : Act} (hT : LRel m T a.tmps.toList) {dst : Option Tmp} {c : Call} {ty : TypeId} {ps : String} {af : Array Edge} {g : Option (Nat × Bool)} {K : Value → AH → Option R} {r : R}
    (h : aCall P call (opv T) c H K = some r) : ∃ v H', K v H' = some r ∧ OpSim P B0 w0 ⟨dst, .call c, ty, ps, af, g⟩ a m H w v H' := by
  obtain ⟨callee, cargs, ctypes⟩ := c
  unfold aCall at h
  split at h
  · rename_i f hc
    simp only at hc
    subst hc
    obtain ⟨p, h1, h2⟩ := bind_some h
    refine ⟨p.1, p.2, h2, ?_⟩
    unfold callV at h1
    split at h1
    · rename_i q first captured hf
      have hfr := opv_rel hT f
      rw [hf] at hfr
      obtain ⟨hen, hsim⟩ := hcall _ _ _ _ _ h1
      have hsplit : ∃ a' b', a.eval f = .func (.func q) a' b' ∧ LRel m first.toList a'.toList ∧ LRel m captured.toList b'.toList := by
        generalize a.eval f = u at hfr
        cases hfr with
        | flat v hf => simp [flat1] at hf
        | func f a b a' b' h1 h2 h3 h4 => exact ⟨a', b', rfl, ⟨by simpa using h1, fun i x y hx hy => h2 i x y (by simpa using hx) (by simpa using hy)⟩, ⟨by simpa using h3, fun i x y hx hy => h4 i x y (by simpa using hx) (by simpa using hy)⟩⟩
      obtain ⟨a', b', he, hla, hlb⟩ := hsplit
      intro next Q hn
      have hrun : (execOp a.eval ⟨dst, .call ⟨.value f, cargs, ctypes⟩, ty, ps, af, g⟩).run P w = .ok (.enter q (a' ++ cargs.map a.eval ++ b')) w := by
        simp [execOp, resolve, he, Deferred.ofValue, invoke, run_callFunc hen]
      unfold Oper.wp
      rw [hrun]
      simp only [Oper.upon]
      have hargs := hsim B0 w0 m w (a'.toList ++ (cargs.toList.map a.eval ++ b'.toList)) R0 (hla.append ((args_rel hT _).append hlb))
      have he2 : (a'.toList ++ (cargs.toList.map a.eval ++ b'.toList)).toArray = a' ++ cargs.map a.eval ++ b' := by
        apply Array.ext'
        simp
      rw [he2] at hargs
      refine hargs.mono fun e w' he => ?_
      obtain ⟨m', v', rfl, q1, q2, q3⟩ := he
      exact hn m' v' w' q3 q2 q1
    · cases h1
  · rename_i hc
    simp only at hc
    subst hc
    split at h
    · rename_i t u s x ht ha
      simp only at ht ha
      obtain ⟨p, h1, h2⟩ := bind_some h
      refine ⟨p.1, p.2, h2, ?_⟩
      have e1 : ctypes = #[t, u] := by apply Array.ext'; simpa using ht
      have e2 : cargs = #[s, x] := by apply Array.ext'; simpa using ha
      subst e1 e2
      have hs := opv_rel hT s
      have hx := opv_rel hT x
      have hrun : ∀ v' w', (Builtin.append_ #[t, u] ty #[a.eval s, a.eval x]).run P w = .ok v' w' → (execOp a.eval ⟨dst, .call ⟨.builtin .append, #[s, x], #[t, u]⟩, ty, ps, af, g⟩).run P w = .ok (.value v') w' := by
        intro v' w' hv
        simp [execOp, resolve, invoke, builtin, hv]
      unfold ap at h1
      split at h1
      · rename_i e e' hd1 hd2
        obtain ⟨z, hz, h1⟩ := bind_some h1
        split at h1
        · rename_i hcond
          obtain ⟨c1, c2, c3⟩ := hcond
          obtain ⟨n, hn, h1⟩ := bind_some h1
          obtain ⟨news, hnews, h1⟩ := bind_some h1
          split at h1
          · rename_i hall
            obtain ⟨i, hi, hz1, hz2⟩ := zeroT_inv hz
            rw [szT_eq hi] at c1 c2 hnews h1
            rw [byT_eq hi] at h1
            obtain ⟨v', m', w', q1, q2, q3, q4⟩ := apS_sound R0 (ty := ty) hd1 hd2 (.inl ⟨e', rfl⟩) hi hz1 c2 hs hx c1 hn hnews (.inl fun s hs => by rw [hs] at c3; cases c3) hall h1
            exact OpSim.value (hrun _ _ q1) q2 q3 q4
          · cases h1
        · cases h1
      · rename_i e hd1 hd2
        obtain ⟨z, hz, h1⟩ := bind_some h1
        split at h1
        · rename_i hcond
          obtain ⟨c1, c2⟩ := hcond
          obtain ⟨n, hn, h1⟩ := bind_some h1
          obtain ⟨news, hnews, h1⟩ := bind_some h1
          split at h1
          · rename_i hall
            obtain ⟨i, hi, hz1, hz2⟩ := zeroT_inv hz
            rw [szT_eq hi] at c1 c2 hnews h1
            rw [byT_eq hi] at h1
            obtain ⟨v', m', w', q1, q2, q3, q4⟩ := apS_sound R0 (ty := ty) hd1 hd2 (.inr rfl) hi hz1 c2 hs hx (by omega) hn hnews (.inr c1) hall h1
            exact OpSim.value (hrun _ _ q1) q2 q3 q4
          · cases h1
        · cases h1
      · cases h1
    · cases h
  · rename_i hc
    simp only at hc
    subst hc
    split at h
    · rename_i t u s x ht ha
      simp only at ht ha
      obtain ⟨p, h1, h2⟩ := bind_some h
      refine ⟨p.1, p.2, h2, ?_⟩
      have e1 : ctypes = #[t, u] := by apply Array.ext'; simpa using ht
      have e2 : cargs = #[s, x] := by apply Array.ext'; simpa using ha
      subst e1 e2
      obtain ⟨v', w', q1, q2, q3, q4⟩ := cpy_sound R0 (u := u) (ty := ty) (opv_rel hT s) (opv_rel hT x) h1
      exact OpSim.value (by simp [execOp, resolve, invoke, builtin, q1]) q2 q3 q4
    · cases h
  · rename_i hc
    simp only at hc
    subst hc
    split at h
    · rename_i t x ht ha
      simp only at ht ha
      obtain ⟨v, h1, h2⟩ := bind_some h
      refine ⟨v, H, h2, ?_⟩
      have e1 : ctypes = #[t] := by apply Array.ext'; simpa using ht
      have e2 : cargs = #[x] := by apply Array.ext'; simpa using ha
      subst e1 e2
      obtain ⟨q1, q2⟩ := lenV_sound (P := P) (u := 0) (ty := ty) (w := w) (opv_rel hT x) h1
      exact OpSim.still R0 (by simp [execOp, resolve, invoke, builtin, q1]) (.flat _ q2)
    · cases h
  · rename_i hc
    simp only at hc
    subst hc
    obtain ⟨v, h1, h2⟩ := bind_some h
    refine ⟨v, H, h2, ?_⟩
    obtain ⟨v', q1, q2⟩ := min_sound (P := P) (w := w) (ts := ctypes) (ty := ty) (args_rel hT cargs.toList) h1
    have e1 : (cargs.toList.map a.eval).toArray = cargs.map a.eval := by apply Array.ext'; simp
    rw [e1] at q1
    exact OpSim.still R0 (by simp [execOp, resolve, invoke, builtin, q1]) q2
  · rename_i hc
    simp only at hc
    subst hc
    obtain ⟨v, h1, h2⟩ := bind_some h
    refine ⟨v, H, h2, ?_⟩
    obtain ⟨v', q1, q2⟩ := max_sound (P := P) (w := w) (ts := ctypes) (ty := ty) (args_rel hT cargs.toList) h1
    have e1 : (cargs.toList.map a.eval).toArray = cargs.map a.eval := by apply Array.ext'; simp
    rw [e1] at q1
    exact OpSim.still R0 (by simp [execOp, resolve, invoke, builtin, q1]) q2
  · cases h
end
end Go.AM
set_option linter.unusedVariables false
set_option linter.unusedSimpArgs false
namespace Go.AM
open Go.RowKit

section
variable {P : Program} {B0 : Nat} {w0 : World} {m : Mp} {H : AH} {w : World} {call : CallF} {R : Type}
theorem aIf_inv {v : Value} {x y : Option R} {r : R} (h : aIf v x y = some r) : ∃ b, v = .bool b ∧ (if b then x else y) = some r := by
  unfold aIf at h
  split at h
  · exact ⟨true, rfl, h⟩
  · exact ⟨false, rfl, h⟩
  · cases h
theorem LRel.arr {xs : Array Operand} {T : List Value} {a : Act} (hT : LRel m T a.tmps.toList) : (xs.toList.map (opv T)).toArray.size = (xs.map a.eval).size ∧ ∀ (i : Nat) (x y : Value), (xs.toList.map (opv T)).toArray[i]? = some x → (xs.map a.eval)[i]? = some y → VRel m x y := by
  refine ⟨by simp, fun i x y hx hy => ?_⟩
  rw [Array.getElem?_map] at hy
  have hx : (xs[i]?).map (opv T) = some x := by simpa using hx
  cases hi : xs[i]? with
  | none => rw [hi] at hx; cases hx
  | some o => rw [hi] at hx hy; cases hx; cases hy; exact opv_rel hT o
theorem op_sound (hcall : CallOK P call) (R0 : Rel P B0 w0 m H w) {T : List Value} {a : Act} (hT : LRel m T a.tmps.toList) {o : Oper} {K : Value → AH → Option R} {r : R} (h : aOp P call (opv T) o.op H K = some r) :
    ∃ v H', K v H' = some r ∧ OpSim P B0 w0 o a m H w v H' := by
  obtain ⟨dst, op, ty, ps, af, g⟩ := o
  cases op
  case move x => exact ⟨_, H, h, OpSim.still R0 (by simp [execOp]) (opv_rel hT x)⟩
  case assign x => exact ⟨_, H, h, OpSim.still R0 (by simp [execOp]) (opv_rel hT x)⟩
  case pick c x y =>
    obtain ⟨v, h1, h2⟩ := bind_some h
    have hc := opv_rel hT c
    unfold pickV at h1
    split at h1
    · rename_i hb; cases h1; rw [hb] at hc; exact ⟨_, H, h2, OpSim.still R0 (by simp [execOp, hc.bool_inv, asBool]) (opv_rel hT x)⟩
    · rename_i hb; cases h1; rw [hb] at hc; exact ⟨_, H, h2, OpSim.still R0 (by simp [execOp, hc.bool_inv, asBool]) (opv_rel hT y)⟩
    · cases h1
  case alloc t =>
    obtain ⟨p, h1, h2⟩ := bind_some h
    obtain ⟨u', m', w', q1, q2, q3, q4⟩ := newV_sound R0 (t := t) (u := p.1) (H' := p.2) h1 (.tuple #[])
    exact ⟨_, _, h2, OpSim.value (by simp [execOp, q1]) q2 q3 q4⟩
  case box t x =>
    obtain ⟨p, h1, h2⟩ := bind_some h
    obtain ⟨u', m', w', q1, q2, q3, q4⟩ := box_sound (P := P) R0 (t := t) (u := p.1) (H' := p.2) (opv_rel hT x) h1
    exact ⟨_, _, h2, OpSim.value (by simp [execOp, q1]) q2 q3 q4⟩
  case build t parts =>
    obtain ⟨v, h1, h2⟩ := bind_some h
    obtain ⟨v', q1, q2⟩ := build_sound (w := w) (parts_rel hT parts.toList) h1
    have e1 : (parts.toList.map fun p => (p.1, a.eval p.2)).toArray = parts.map fun p => (p.1, a.eval p.2) := by apply Array.ext'; simp
    rw [e1] at q1
    exact ⟨_, H, h2, OpSim.still R0 (by simp [execOp, q1]) q2⟩
  case buildSlice t n parts =>
    obtain ⟨p, h1, h2⟩ := bind_some h
    obtain ⟨u', m', w', q1, q2, q3, q4⟩ := buildS_sound R0 (parts_rel hT parts.toList) (u := p.1) (H' := p.2) h1
    have e1 : (parts.toList.map fun p => (p.1, a.eval p.2)).toArray = parts.map fun p => (p.1, a.eval p.2) := by apply Array.ext'; simp
    rw [e1] at q1
    exact ⟨_, _, h2, OpSim.value (by simp [execOp, q1]) q2 q3 q4⟩
  case load t x =>
    obtain ⟨v, h1, h2⟩ := bind_some h
    obtain ⟨v', q1, q2⟩ := ld_sound R0 (opv_rel hT x) h1
    exact ⟨_, H, h2, OpSim.still R0 (by simp [execOp, q1]) q2⟩
  case store t x y =>
    obtain ⟨H', h1, h2⟩ := bind_some h
    obtain ⟨w', q1, q2, q3⟩ := st_sound R0 (opv_rel hT x) (opv_rel hT y) h1
    exact ⟨_, H', h2, OpSim.skip (by simp [execOp, q1]) q2 q3⟩
  case nilCheck x =>
    obtain ⟨v, h1, h2⟩ := bind_some h
    obtain ⟨v', q1, q2⟩ := nilChk_sound (P := P) (w := w) (dst := dst) (ty := ty) (ps := ps) (af := af) (g := g) hT h1
    exact ⟨_, H, h2, OpSim.still R0 q1 q2⟩
  case binOp op t x y yt =>
    obtain ⟨v, h1, h2⟩ := bind_some h
    obtain ⟨v', q1, q2⟩ := bin_sound (w := w) (ρ := a.eval) (x := x) (y := y) (opv_rel hT x) (opv_rel hT y) h1
    exact ⟨_, H, h2, OpSim.still R0 (by simp only [execOp, Sem.run_bind, q1, Result.andThen_ok, Sem.run_pure]) q2⟩
  case unOp op t x =>
    obtain ⟨v, h1, h2⟩ := bind_some h
    obtain ⟨v', q1, q2⟩ := un_sound (w := w) (opv_rel hT x) h1
    exact ⟨_, H, h2, OpSim.still R0 (by simp [execOp, q1]) q2⟩
  case convert s d x =>
    simp only [aOp] at h
    cases hb : isBytesToString P s d with
    | true =>
      rw [hb] at h
      obtain ⟨v, h1, h2⟩ := bind_some h
      obtain ⟨v', q1, q2⟩ := cvS_sound R0 (opv_rel hT x) h1
      exact ⟨_, H, h2, OpSim.still R0 (by simp [execOp, q1]) q2⟩
    | false =>
      rw [hb] at h
      obtain ⟨v, h1, h2⟩ := bind_some h
      obtain ⟨v', q1, q2⟩ := cv_sound (w := w) (opv_rel hT x) h1
      exact ⟨_, H, h2, OpSim.still R0 (by simp [execOp, q1]) q2⟩
  case makeFunc fn first captured =>
    cases fn <;> first
      | cases h; done
      | (refine ⟨_, H, h, OpSim.still R0 (by simp [execOp, Instr.makeFunc]; rfl) ?_⟩
         exact .func _ _ _ _ _ (LRel.arr hT).1 (LRel.arr hT).2 (LRel.arr hT).1 (LRel.arr hT).2)
  case makeSlice t l c =>
    obtain ⟨p, h1, h2⟩ := bind_some h
    obtain ⟨u', m', w', q1, q2, q3, q4⟩ := mkS_sound R0 (opv_rel hT l) (opv_rel hT c) (u := p.1) (H' := p.2) h1
    exact ⟨_, _, h2, OpSim.value (by simp [execOp, q1]) q2 q3 q4⟩
  case slice t x lo hi mx =>
    cases mx with
    | some mx =>
      obtain ⟨v, h1, h2⟩ := bind_some h
      obtain ⟨v', q1, q2⟩ := slc3_sound (w := w) (opv_rel hT x) (opt_rel hT lo) (opt_rel hT hi) (opv_rel hT mx) h1
      exact ⟨_, H, h2, OpSim.still R0 (by simp [execOp, q1]) q2⟩
    | none =>
      obtain ⟨v, h1, h2⟩ := bind_some h
      obtain ⟨v', q1, q2⟩ := slc_sound (w := w) (opv_rel hT x) (opt_rel hT lo) (opt_rel hT hi) h1
      exact ⟨_, H, h2, OpSim.still R0 (by simp [execOp, q1]) q2⟩
  case fieldAddr s x i =>
    obtain ⟨v, h1, h2⟩ := bind_some h
    obtain ⟨v', q1, q2⟩ := fldA_sound R0 (opv_rel hT x) h1
    exact ⟨_, H, h2, OpSim.still R0 (by simp [execOp, q1]) q2⟩
  case field s x i =>
    obtain ⟨v, h1, h2⟩ := bind_some h
    obtain ⟨v', q1, q2⟩ := fld_sound (w := w) (opv_rel hT x) h1
    exact ⟨_, H, h2, OpSim.still R0 (by simp [execOp, q1]) q2⟩
  case indexAddr t x i =>
    obtain ⟨v, h1, h2⟩ := bind_some h
    obtain ⟨v', q1, q2⟩ := ixA_sound (w := w) (opv_rel hT x) (opv_rel hT i) h1
    exact ⟨_, H, h2, OpSim.still R0 (by simp [execOp, q1]) q2⟩
  case index t x i =>
    obtain ⟨v, h1, h2⟩ := bind_some h
    obtain ⟨v', q1, q2⟩ := ix_sound (w := w) (opv_rel hT x) (opv_rel hT i) h1
    exact ⟨_, H, h2, OpSim.still R0 (by simp [execOp, q1]) q2⟩
  case extract t i =>
    obtain ⟨v, h1, h2⟩ := bind_some h
    obtain ⟨v', q1, q2⟩ := ext_sound (P := P) (w := w) (opv_rel hT t) h1
    exact ⟨_, H, h2, OpSim.still R0 (by simp [execOp, q1]) q2⟩
  case call c => exact call_sound hcall R0 hT h
  all_goals cases h
end
end Go.AM
set_option linter.unusedVariables false
set_option linter.unusedSimpArgs false
namespace Go.AM
open Go.RowKit

def exOf : EX → Exit
  | .normal => .normal
  | .exit id => .exit id
  | .ret => .ret
/-- What is so behind a piece of code. -/
structure After (P : Program) (B0 : Nat) (w0 : World) (m : Mp) (H : AH) (w : World) (T' : List Value) (H' : AH) (m' : Mp) (a' : Act) (w' : World) : Prop where
  ext : Ext m H w m' H' w'
  rel : Rel P B0 w0 m' H' w'
  tmps : LRel m' T' a'.tmps.toList
  defers : a'.defers = []
def CodeSim (P : Program) (c : Code) (T : List Value) (H : AH) (e : EX) (T' : List Value) (H' : AH) : Prop :=
  ∀ (B0 : Nat) (w0 : World) (m : Mp) (a : Act) (w : World) (Q : Exit → Act → World → Prop), Rel P B0 w0 m H w → LRel m T a.tmps.toList → a.defers = [] → (∀ m' a' w', After P B0 w0 m H w T' H' m' a' w' → Q (exOf e) a' w') → c.wp P Q a w

section
variable {P : Program} {call : CallF}

theorem put_rel {m : Mp} {T : List Value} {a : Act} (hT : LRel m T a.tmps.toList) (dst : Option Tmp) {v v' : Value} (hv : VRel m v v') : LRel m (putT T dst v) (a.put dst v').tmps.toList := by
  cases dst with
  | none => exact hT
  | some d =>
    simp only [putT, Act.put, Array.toList_setIfInBounds]
    exact hT.set d hv
theorem put_defers (a : Act) (dst : Option Tmp) (v : Value) : (a.put dst v).defers = a.defers := by cases dst <;> rfl
theorem aCall_res {R : Type} (ρ : Operand → Value) (c : Call) (H : AH) (K : Value → AH → Option R) : aCall P call ρ c H K = (aCall P call ρ c H fun v H' => some (v, H')).bind fun p => K p.1 p.2 := by
  unfold aCall
  split
  · simp [Option.bind_assoc]
  · split <;> simp [Option.bind_assoc]
  · split <;> simp [Option.bind_assoc]
  · split <;> simp [Option.bind_assoc]
  · simp [Option.bind_assoc]
  · simp [Option.bind_assoc]
  · rfl
theorem aOp_res {R : Type} (ρ : Operand → Value) (op : Op) (H : AH) (K : Value → AH → Option R) : aOp P call ρ op H K = (aRes P call ρ op H).bind fun p => K p.1 p.2 := by
  unfold aRes
  cases op
  case call c => simp only [aOp]; exact aCall_res ρ c H K
  case convert s d x =>
    simp only [aOp]
    cases isBytesToString P s d <;> simp [Option.bind_assoc]
  case makeFunc fn first captured => cases fn <;> simp [aOp]
  case slice t x lo hi mx => cases mx <;> simp [aOp, Option.bind_assoc]
  all_goals simp [aOp, Option.bind_assoc]
theorem res_sound (hcall : CallOK P call) {T : List Value} {H : AH} {o : Oper} {v : Value} {H' : AH} (h : aRes P call (opv T) o.op H = some (v, H')) {B0 : Nat} {w0 : World} {m : Mp} {a : Act} {w : World} (R0 : Rel P B0 w0 m H w) (hT : LRel m T a.tmps.toList) :
    OpSim P B0 w0 o a m H w v H' := by
  obtain ⟨v1, H1, h1, h2⟩ := op_sound hcall R0 hT (K := fun v H' => some (v, H')) h
  cases h1
  exact h2
/-- A guard, by what the evaluator knows. -/
def Off (u : Value) (want : Bool) : Prop := (∃ b, u = .bool b ∧ b ≠ want) ∨ ∃ vs : Array Value, u = .tuple vs ∧ vs.size = 0
theorem gOp_inv {u : Value} {want : Bool} {x : Option (Value × AH)} {H : AH} {p : Value × AH} (h : gOp u want x H = some p) : (u = .bool want ∧ x = some p) ∨ (Off u want ∧ p = (undef, H)) := by
  unfold gOp at h
  split at h
  · rename_i b
    split at h
    · rename_i hb; subst hb; exact .inl ⟨rfl, h⟩
    · rename_i hb; cases h; exact .inr ⟨.inl ⟨b, rfl, hb⟩, rfl⟩
  · rename_i vs
    cases hs : vs.size == 0 with
    | true => rw [hs] at h; cases h; exact .inr ⟨.inr ⟨vs, rfl, by simpa using hs⟩, rfl⟩
    | false => rw [hs] at h; cases h
  · cases h
theorem Off.not {u : Value} {want : Bool} (h : Off u want) : u ≠ .bool want := by
  rintro rfl
  rcases h with ⟨b, hb, hne⟩ | ⟨vs, hv, _⟩
  · cases hb; exact hne rfl
  · cases hv
theorem yield_rel {ops : Array Oper} {m : Mp} {T : List Value} {a : Act} (hT : LRel m T a.tmps.toList) (j : Nat) : (∀ b, yieldV ops T j = .bool b → yielded ops a.tmps j = some b) ∧ (∀ vs : Array Value, yieldV ops T j = .tuple vs → yielded ops a.tmps j = none) := by
  have hu : VRel m (yieldV ops T j) (match (ops[j]?).bind (·.dst) with | some d => a.tmps.getD d undef | none => undef) := by
    unfold yieldV
    cases hd : (ops[j]?).bind (·.dst) with
    | none => exact VRel.undef _
    | some d => exact opv_rel hT (.tmp d)
  have hy : ∀ u, (match (ops[j]?).bind (·.dst) with | some d => a.tmps.getD d undef | none => undef) = u → yielded ops a.tmps j = match u with | .bool b => some b | _ => none := by
    intro u hu2
    subst hu2
    unfold yielded
    cases hd : (ops[j]?).bind (·.dst) with
    | none => simp [undef]
    | some d =>
      simp only [Option.bind_some]
      by_cases hlt : d < a.tmps.size
      · have e1 : a.tmps[d]? = some (a.tmps.getD d undef) := by simp [Array.getD, hlt]
        rw [e1]
        cases a.tmps.getD d undef <;> rfl
      · simp [Array.getD, hlt, undef]
  refine ⟨fun b hb => ?_, fun vs hv => ?_⟩
  · rw [hb] at hu
    rw [hy _ hu.bool_inv]
  · rw [hv] at hu
    obtain ⟨ys, he, _⟩ := hu.tuple_inv
    rw [hy _ he]
theorem wanted_of {ops : Array Oper} {tmps : Array Value} {o : Oper} {j : Nat} {want : Bool} (hg : o.guard = some (j, want)) {q : Option Bool} (hy : yielded ops tmps j = q) : Region.wanted o (yielded ops tmps) = (q == some want) := by
  unfold Region.wanted
  rw [hg]
  simp only [hy]
theorem After.start {P : Program} {B0 : Nat} {w0 : World} {m : Mp} {H : AH} {w : World} {T : List Value} {a : Act} (R0 : Rel P B0 w0 m H w) (hT : LRel m T a.tmps.toList) (hd : a.defers = []) : After P B0 w0 m H w T H m a w := ⟨Ext.refl _ _ _, R0, hT, hd⟩
theorem After.trans {P : Program} {B0 : Nat} {w0 : World} {m m1 m2 : Mp} {H H1 H2 : AH} {w w1 w2 : World} {T1 T2 : List Value} {a1 a2 : Act} (R0 : Rel P B0 w0 m H w) (h : Ext m H w m1 H1 w1) (k : After P B0 w0 m1 H1 w1 T2 H2 m2 a2 w2) : After P B0 w0 m H w T2 H2 m2 a2 w2 :=
  ⟨Ext.trans (fun b L hb => (R0.dom b L hb).1) h k.ext, k.rel, k.tmps, k.defers⟩
def OpsSim (P : Program) (ops : Array Oper) (idx : List Nat) (T : List Value) (H : AH) (T' : List Value) (H' : AH) : Prop :=
  ∀ (B0 : Nat) (w0 : World) (m : Mp) (a : Act) (w : World) (Q : Exit → Act → World → Prop), Rel P B0 w0 m H w → LRel m T a.tmps.toList → a.defers = [] → (∀ m' a' w', After P B0 w0 m H w T' H' m' a' w' → Q .normal a' w') → wpOps P ops Q idx a w
theorem evOps_sound (hcall : CallOK P call) (ops : Array Oper) {R : Type} {K : List Value → AH → Option R} {r : R} : ∀ (l : List Oper) (i : Nat) (T : List Value) (H : AH), (∀ j, l[j]? = ops[i + j]?) → evOps P call ops l T H K = some r →
    ∃ T' H', K T' H' = some r ∧ OpsSim P ops (List.range' i l.length) T H T' H'
  | [], i, T, H, hl, h => ⟨T, H, h, fun B0 w0 m a w Q R0 hT hd hq => hq m a w (After.start R0 hT hd)⟩
  | o :: l, i, T, H, hl, h => by
    have ho : ops[i]? = some o := by have := hl 0; simpa using this.symm
    have hl' : ∀ j, l[j]? = ops[i + 1 + j]? := fun j => by have := hl (j + 1); rw [show i + 1 + j = i + (j + 1) by omega]; simpa using this
    -- done
    have done : ∀ (hh : (aOp P call (opv T) o.op H fun v H' => evOps P call ops l (putT T o.dst v) H' K) = some r), ∃ T' H', K T' H' = some r ∧
        ∀ (B0 : Nat) (w0 : World) (m : Mp) (a : Act) (w : World) (Q : Exit → Act → World → Prop), Region.wanted o (yielded ops a.tmps) = true → Rel P B0 w0 m H w → LRel m T a.tmps.toList → a.defers = [] → (∀ m' a' w', After P B0 w0 m H w T' H' m' a' w' → Q .normal a' w') → wpOps P ops Q (List.range' i (o :: l).length) a w := by
      intro hh
      rw [aOp_res] at hh
      obtain ⟨⟨v, H1⟩, h1, h2⟩ := bind_some hh
      obtain ⟨T', H', h3, h4⟩ := evOps_sound hcall ops l (i + 1) _ _ hl' h2
      refine ⟨T', H', h3, fun B0 w0 m a w Q hw R0 hT hd hq => ?_⟩
      rw [List.length_cons, List.range'_succ]
      simp only [wpOps, ho]
      rw [if_pos hw]
      refine .inl (res_sound hcall h1 R0 hT _ _ fun m' v' w' E R' hv => ?_)
      exact h4 B0 w0 m' _ w' Q R' (put_rel (hT.mono E.mono) _ hv) (by rw [put_defers]; exact hd) fun m2 a2 w2 A => hq m2 a2 w2 (After.trans (T1 := T) (a1 := a) R0 E A)
    have skipped : ∀ (hh : evOps P call ops l (putT T o.dst undef) H K = some r), ∃ T' H', K T' H' = some r ∧
        ∀ (B0 : Nat) (w0 : World) (m : Mp) (a : Act) (w : World) (Q : Exit → Act → World → Prop), Region.wanted o (yielded ops a.tmps) = false → Rel P B0 w0 m H w → LRel m T a.tmps.toList → a.defers = [] → (∀ m' a' w', After P B0 w0 m H w T' H' m' a' w' → Q .normal a' w') → wpOps P ops Q (List.range' i (o :: l).length) a w := by
      intro hh
      obtain ⟨T', H', h3, h4⟩ := evOps_sound hcall ops l (i + 1) _ _ hl' hh
      refine ⟨T', H', h3, fun B0 w0 m a w Q hw R0 hT hd hq => ?_⟩
      rw [List.length_cons, List.range'_succ]
      simp only [wpOps, ho]
      rw [if_neg (by simp [hw])]
      exact h4 B0 w0 m _ w Q R0 (put_rel hT _ (VRel.undef _)) (by rw [put_defers]; exact hd) hq
    unfold evOps at h
    cases hg : o.guard with
    | none =>
      rw [hg] at h
      obtain ⟨T', H', h3, h4⟩ := done h
      exact ⟨T', H', h3, fun B0 w0 m a w Q R0 hT hd hq => h4 B0 w0 m a w Q (by unfold Region.wanted; rw [hg]) R0 hT hd hq⟩
    | some p =>
      obtain ⟨j, want⟩ := p
      rw [hg] at h
      obtain ⟨p, hp, h⟩ := bind_some h
      rcases gOp_inv hp with ⟨hu, h5⟩ | ⟨hu, rfl⟩
      · obtain ⟨T', H', h3, h4⟩ := done (by rw [aOp_res, h5]; exact h)
        exact ⟨T', H', h3, fun B0 w0 m a w Q R0 hT hd hq => h4 B0 w0 m a w Q (by rw [wanted_of hg ((yield_rel hT j).1 _ hu)]; simp) R0 hT hd hq⟩
      · obtain ⟨T', H', h3, h4⟩ := skipped h
        refine ⟨T', H', h3, fun B0 w0 m a w Q R0 hT hd hq => h4 B0 w0 m a w Q ?_ R0 hT hd hq⟩
        rcases hu with ⟨b, hu, hb⟩ | ⟨vs, hu, _⟩
        · rw [wanted_of hg ((yield_rel hT j).1 _ hu)]; simp [hb]
        · rw [wanted_of hg ((yield_rel hT j).2 _ hu)]; rfl

def LW (P : Program) (c : Code) (Q : Exit → Act → World → Prop) (a : Act) (w : World) : Prop :=
  ∀ (b : Frame) (k : List Item) (cs : List Frame), ∃ e a' w', Q e a' w' ∧ Arrives P (lone (b.at a (.code c :: .inLoop c :: k)) cs w) b k cs e a' w'
theorem wp_loop_of_LW {c : Code} {Q : Exit → Act → World → Prop} {a : Act} {w : World} (h : LW P c Q a w) : (Code.loop c).wp P Q a w := by
  intro b k cs
  obtain ⟨e, a', w', hq, harr⟩ := h b k cs
  exact ⟨e, a', w', hq, .of_steps (.one step_loop) harr⟩
theorem LW_unroll {c : Code} {Q : Exit → Act → World → Prop} {a : Act} {w : World} (h : c.wp P (Exit.then (LW P c Q) Q) a w) : LW P c Q a w := by
  intro b k cs
  obtain ⟨e, a₁, w₁, hq, harr⟩ := h b (.inLoop c :: k) cs
  cases e with
  | normal =>
    obtain ⟨e₂, a₂, w₂, hq₂, harr₂⟩ := hq b k cs
    exact ⟨e₂, a₂, w₂, hq₂, .of_steps (Steps.trans harr (.one step_inLoop)) harr₂⟩
  | exit id => exact ⟨_, a₁, w₁, hq, .pass (x := .inLoop c) rfl (fun _ _ => .inl (by simp)) harr⟩
  | goto l => exact ⟨_, a₁, w₁, hq, .pass (x := .inLoop c) rfl (fun _ _ => .inl (by simp)) harr⟩
  | ret => exact ⟨_, a₁, w₁, hq, .pass (x := .inLoop c) rfl (fun _ _ => .inl (by simp)) harr⟩
  | panic ch => exact ⟨_, a₁, w₁, hq, .pass (x := .inLoop c) rfl (fun _ _ => .inl (by simp)) harr⟩
  | outgrown => exact ⟨_, a₁, w₁, hq, .pass (x := .inLoop c) rfl (fun _ _ => .inl (by simp)) harr⟩
theorem maskT_rel {m : Mp} (keep : List Nat) : ∀ (T Ts : List Value) (i : Nat), LRel m T Ts → LRel m (maskT keep i T) Ts
  | [], Ts, i, h => h
  | x :: T, Ts, i, h => by
    obtain ⟨y, zs, rfl, hv, hr⟩ := h.cons_inv
    unfold maskT
    refine LRel.cons ?_ (maskT_rel keep T zs (i + 1) hr)
    cases keep.contains i
    · exact .unk _
    · exact hv
theorem cutT_rel {m : Mp} (tb : Tbl) (k : Nat) {T Ts : List Value} (h : LRel m T Ts) : LRel m (cutT tb k T) Ts := by
  unfold cutT
  split
  · exact maskT_rel _ _ _ _ h
  · exact h
theorem CodeSim.trans_cut {c d : Code} {T T1 T1' T2 : List Value} {H H1 H2 : AH} {e : EX} (hcut : ∀ (m : Mp) (Ts : List Value), LRel m T1 Ts → LRel m T1' Ts) (h : CodeSim P c T H .normal T1 H1) (k : CodeSim P d T1' H1 e T2 H2) : CodeSim P (.seq c d) T H e T2 H2 := by
  intro B0 w0 m a w Q R0 hT hd hq
  apply wp_seq
  refine h B0 w0 m a w _ R0 hT hd fun m1 a1 w1 A => ?_
  refine k B0 w0 m1 a1 w1 Q A.rel (hcut _ _ A.tmps) A.defers fun m2 a2 w2 A2 => hq m2 a2 w2 (After.trans (T1 := T1) (a1 := a1) R0 A.ext A2)
/-- A region that draws its order. -/
def DrawSim (P : Program) (ops : Array Oper) (T : List Value) (H : AH) (T' : List Value) (H' : AH) : Prop :=
  ∀ (B0 : Nat) (w0 : World) (m : Mp) (a : Act) (w : World) (Q : Exit → Act → World → Prop), Rel P B0 w0 m H w → LRel m T a.tmps.toList → a.defers = [] → (∀ m' a' w', After P B0 w0 m H w T' H' m' a' w' → Q .normal a' w') →
    wpAny P .any ops Q ops.size (Array.replicate ops.size false) a w
def DrawOK (P : Program) (call : CallF) : Prop :=
  ∀ (ops : Array Oper), regOK ops = true → ∀ (R : Type) (T : List Value) (H : AH) (K : List Value → AH → Option R) (r : R), evD P call ops (befL [] ops.toList) ops.toList 0 T H [] [] K = some r → ∃ T' H', K T' H' = some r ∧ DrawSim P ops T H T' H'
theorem evalK_sound (hcall : CallOK P call) (hdraw : DrawOK P call) (hmix : P.follows .mixedOrders = true) (n : Nat) (tb : Tbl) : ∀ (c : Code) {R : Type} (T : List Value) (H : AH) (K : EX → List Value → AH → Option R) (r : R),
    evalK P call n tb c T H K = some r → ∃ e T' H', K e T' H' = some r ∧ CodeSim P c T H e T' H' := by
  intro c
  induction c with
  | skip =>
    intro R T H K r h
    exact ⟨.normal, T, H, h, fun B0 w0 m a w Q R0 hT hd hq => wp_skip (hq m a w (After.start R0 hT hd))⟩
  | region id ops draw =>
    intro R T H K r h
    simp only [evalK] at h
    cases draw with
    | true =>
      simp only [cond_true] at h
      cases hr : regOK ops with
      | false => rw [hr] at h; cases h
      | true =>
        rw [hr] at h
        obtain ⟨T', H', h1, h2⟩ := hdraw ops hr R T H _ r h
        refine ⟨.normal, T', H', h1, fun B0 w0 m a w Q R0 hT hd hq => wp_region_any hmix ?_⟩
        exact h2 B0 w0 m a _ Q R0.drew hT hd fun m' a' w' A => hq m' a' w' ⟨Ext.trans (fun b L hb => (R0.dom b L hb).1) (Ext.refl m H w).drew A.ext, A.rel, A.tmps, A.defers⟩
    | false =>
      simp only [cond_false] at h
      obtain ⟨T', H', h1, h2⟩ := evOps_sound hcall ops ops.toList 0 T H (fun j => by simp) h
      refine ⟨.normal, T', H', h1, fun B0 w0 m a w Q R0 hT hd hq => wp_region ?_⟩
      have := h2 B0 w0 m a w Q R0 hT hd hq
      rwa [Array.length_toList, ← List.range_eq_range'] at this
  | seq x y ihx ihy =>
    intro R T H K r h
    simp only [evalK] at h
    obtain ⟨e, T1, H1, h1, h2⟩ := ihx T H _ r h
    cases e with
    | normal =>
      obtain ⟨e2, T2, H2, h3, h4⟩ := ihy _ _ _ r h1
      exact ⟨e2, T2, H2, h3, CodeSim.trans_cut (fun m Ts hh => cutT_rel tb _ hh) h2 h4⟩
    | exit id => exact ⟨.exit id, T1, H1, h1, fun B0 w0 m a w Q R0 hT hd hq => wp_seq (h2 B0 w0 m a w _ R0 hT hd fun m1 a1 w1 A => hq m1 a1 w1 A)⟩
    | ret => exact ⟨.ret, T1, H1, h1, fun B0 w0 m a w Q R0 hT hd hq => wp_seq (h2 B0 w0 m a w _ R0 hT hd fun m1 a1 w1 A => hq m1 a1 w1 A)⟩
  | cond c x y ihx ihy =>
    intro R T H K r h
    simp only [evalK] at h
    obtain ⟨b, hb, hr⟩ := aIf_inv h
    cases b with
    | true =>
      obtain ⟨e, T1, H1, h1, h2⟩ := ihx T H K r hr
      refine ⟨e, T1, H1, h1, fun B0 w0 m a w Q R0 hT hd hq => wp_cond_true ?_ (h2 B0 w0 m a w Q R0 hT hd hq)⟩
      have := opv_rel hT c
      rw [hb] at this
      exact this.bool_inv
    | false =>
      obtain ⟨e, T1, H1, h1, h2⟩ := ihy T H K r hr
      refine ⟨e, T1, H1, h1, fun B0 w0 m a w Q R0 hT hd hq => wp_cond_false ?_ (h2 B0 w0 m a w Q R0 hT hd hq)⟩
      have := opv_rel hT c
      rw [hb] at this
      exact this.bool_inv
  | block id b ih =>
    intro R T H K r h
    simp only [evalK] at h
    obtain ⟨e, T1, H1, h1, h2⟩ := ih T H _ r h
    cases e with
    | normal => exact ⟨.normal, T1, H1, h1, fun B0 w0 m a w Q R0 hT hd hq => wp_block (h2 B0 w0 m a w _ R0 hT hd fun m1 a1 w1 A => hq m1 a1 w1 A)⟩
    | ret => exact ⟨.ret, T1, H1, h1, fun B0 w0 m a w Q R0 hT hd hq => wp_block (h2 B0 w0 m a w _ R0 hT hd fun m1 a1 w1 A => hq m1 a1 w1 A)⟩
    | exit i =>
      by_cases hi : i = id
      · subst hi
        refine ⟨.normal, T1, H1, by simpa [kBlock] using h1, fun B0 w0 m a w Q R0 hT hd hq => wp_block (h2 B0 w0 m a w _ R0 hT hd fun m1 a1 w1 A => ?_)⟩
        show (if i = i then Q .normal a1 w1 else Q (.exit i) a1 w1)
        rw [if_pos rfl]
        exact hq m1 a1 w1 A
      · have hi' : (i == id) = false := by simpa using hi
        refine ⟨.exit i, T1, H1, by simpa [kBlock, hi'] using h1, fun B0 w0 m a w Q R0 hT hd hq => wp_block (h2 B0 w0 m a w _ R0 hT hd fun m1 a1 w1 A => ?_)⟩
        show (if i = id then Q .normal a1 w1 else Q (.exit i) a1 w1)
        rw [if_neg hi]
        exact hq m1 a1 w1 A
  | loop b ih =>
    intro R T H K r h
    simp only [evalK] at h
    obtain ⟨⟨e, T', H'⟩, h1, h2⟩ := bind_some h
    refine ⟨e, T', H', h2, ?_⟩
    have key : ∀ (k : Nat) (T : List Value) (H : AH), iterD (fun T H K => evalK P call n tb b T H K) (cutT tb (3 * firstId b + 1)) (cutT tb (3 * firstId b + 2)) k T H = some (e, T', H') →
        ∀ (B0 : Nat) (w0 : World) (m : Mp) (a : Act) (w : World) (Q : Exit → Act → World → Prop), Rel P B0 w0 m H w → LRel m T a.tmps.toList → a.defers = [] → (∀ m' a' w', After P B0 w0 m H w T' H' m' a' w' → Q (exOf e) a' w') → LW P b Q a w := by
      intro k
      induction k with
      | zero => intro T H hh; cases hh
      | succ k ihk =>
        intro T H hh
        simp only [iterD] at hh
        obtain ⟨e1, T1, H1, h3, h4⟩ := ih (R := Out) _ _ _ _ hh
        intro B0 w0 m a w Q R0 hT hd hq
        apply LW_unroll
        refine h4 B0 w0 m a w _ R0 hT hd fun m1 a1 w1 A => ?_
        cases e1 with
        | normal => exact ihk _ H1 h3 B0 w0 m1 a1 w1 Q A.rel (cutT_rel tb _ A.tmps) A.defers fun m2 a2 w2 A2 => hq m2 a2 w2 (After.trans (T1 := T1) (a1 := a1) R0 A.ext A2)
        | exit id => cases h3; exact hq m1 a1 w1 ⟨A.ext, A.rel, cutT_rel tb _ A.tmps, A.defers⟩
        | ret => cases h3; exact hq m1 a1 w1 ⟨A.ext, A.rel, cutT_rel tb _ A.tmps, A.defers⟩
    exact fun B0 w0 m a w Q R0 hT hd hq => wp_loop_of_LW (key n _ H h1 B0 w0 m a w Q R0 (cutT_rel tb _ hT) hd hq)
  | rangeFunc f params assign body => intro R T H K r h; cases h
  | exit id =>
    intro R T H K r h
    exact ⟨.exit id, T, H, h, fun B0 w0 m a w Q R0 hT hd hq => wp_exit (hq m a w (After.start R0 hT hd))⟩
  | scope b ih =>
    intro R T H K r h
    simp only [evalK] at h
    obtain ⟨e, T1, H1, h1, h2⟩ := ih T H K r h
    refine ⟨e, T1, H1, h1, fun B0 w0 m a w Q R0 hT hd hq => wp_scope_straight (h2 B0 w0 m a w _ R0 hT hd fun m1 a1 w1 A => ?_)⟩
    have := hq m1 a1 w1 A
    cases e <;> exact this
  | label l =>
    intro R T H K r h
    exact ⟨.normal, T, H, h, fun B0 w0 m a w Q R0 hT hd hq => wp_label (hq m a w (After.start R0 hT hd))⟩
  | goto l => intro R T H K r h; cases h
  | ret =>
    intro R T H K r h
    exact ⟨.ret, T, H, h, fun B0 w0 m a w Q R0 hT hd hq => wp_ret (hq m a w (After.start R0 hT hd))⟩
  | refuse why => intro R T H K r h; cases h
theorem resOne_sound {B0 : Nat} {w0 : World} {m : Mp} {H : AH} {w : World} (R0 : Rel P B0 w0 m H w) {T : List Value} {a : Act} (hT : LRel m T a.tmps.toList) {rv : ResultVar} {v : Value} (h : resOne P T H rv = some v) :
    ∃ v', (match rv with | .tmp t => pure (a.tmps.getD t undef) | .cell x t => do loadVar t (← asAddr (a.tmps.getD x undef)) : Sem Value).run P w = .ok v' w ∧ VRel m v v' := by
  cases rv with
  | tmp t => cases h; exact ⟨_, rfl, opv_rel hT (.tmp t)⟩
  | cell x t =>
    have hx := opv_rel hT (.tmp x)
    obtain ⟨v', h1, h2⟩ := ld_sound R0 hx h
    refine ⟨v', ?_, h2⟩
    simp only [Act.eval] at h1
    have h3 : ∀ u : Value, (Instr.loadAt t u).run P w = .ok v' w → (do loadVar t (← asAddr u) : Sem Value).run P w = .ok v' w := by
      intro u hu
      cases u with
      | pointer ad =>
        cases ad with
        | some ad => simpa [Instr.loadAt, Instr.sureAddr, asAddr] using hu
        | none => simp [Instr.loadAt, Instr.sureAddr, stuck] at hu
      | _ => simp [Instr.loadAt, Instr.sureAddr, stuck] at hu
    exact h3 _ h1
theorem resAll_sound {B0 : Nat} {w0 : World} {m : Mp} {H : AH} {w : World} (R0 : Rel P B0 w0 m H w) {T : List Value} {a : Act} (hT : LRel m T a.tmps.toList) : ∀ (rs : List ResultVar) (vs : List Value), resAll P T H rs = some vs →
    ∃ vs', (rs.mapM fun | .tmp t => pure (a.tmps.getD t undef) | .cell x t => do loadVar t (← asAddr (a.tmps.getD x undef)) : Sem (List Value)).run P w = .ok vs' w ∧ LRel m vs vs'
  | [], vs, h => by cases h; exact ⟨[], by simp, LRel.nil m⟩
  | r :: rs, vs, h => by
    unfold resAll at h
    obtain ⟨v, h1, h⟩ := bind_some h
    obtain ⟨us, h2, h⟩ := bind_some h
    cases h
    obtain ⟨v', q1, q2⟩ := resOne_sound R0 hT h1
    obtain ⟨us', q3, q4⟩ := resAll_sound R0 hT rs us h2
    exact ⟨v' :: us', by rw [List.mapM_cons]; simp only [Sem.run_bind, q1, q3, Result.andThen_ok, Sem.run_pure], LRel.cons q2 q4⟩
theorem results_sound {B0 : Nat} {w0 : World} {m : Mp} {H : AH} {w : World} (R0 : Rel P B0 w0 m H w) {T : List Value} {a : Act} (hT : LRel m T a.tmps.toList) {fn : Func} {vs : List Value} (h : resAll P T H fn.results.toList = some vs) :
    ∃ v', (results fn a.tmps).run P w = .ok v' w ∧ VRel m (oneOf vs) v' := by
  obtain ⟨vs', h1, h2⟩ := resAll_sound R0 hT _ _ h
  refine ⟨oneOf vs', ?_, ?_⟩
  · unfold results
    rw [Array.mapM_eq_mapM_toList]
    simp only [Sem.run_bind, Sem.run_map, Sem.run_pure]
    refine (congrArg (fun s : Result (List Value) => (s.andThen fun a w' => .ok a.toArray w').andThen fun a w' => .ok (if h : a.size = 1 then a[0] else .tuple a) w') h1).trans ?_
    cases vs' with
    | nil => rfl
    | cons v rest =>
      cases rest with
      | nil => rfl
      | cons u rest => simp [oneOf]
  · cases vs with
    | nil => rw [h2.nil_inv]; exact VRel.undef m
    | cons v rest =>
      obtain ⟨v', zs, rfl, hv, hr⟩ := h2.cons_inv
      cases rest with
      | nil => rw [hr.nil_inv]; exact hv
      | cons u rest =>
        obtain ⟨u', zs', rfl, hu, hr'⟩ := hr.cons_inv
        have hl := LRel.cons hv (LRel.cons hu hr')
        exact .tuple _ _ (by simpa using hl.1) fun i x y hx hy => hl.2 i x y (by simpa using hx) (by simpa using hy)
theorem LRel.of_flat_undef {m : Mp} (n : Nat) : LRel m (List.replicate n undef) (List.replicate n undef) := by
  induction n with
  | zero => exact LRel.nil m
  | succ n ih => rw [List.replicate_succ]; exact LRel.cons (VRel.undef m) ih
def GivenOK (P : Program) (gv : Given) : Prop := ∀ f g, gv f = some g → ∀ args H v H', g args H = some (v, H') → Enterable P f ∧ SimCall P f args H v H'
theorem runFn_sound (hcall : CallOK P call) (hdraw : DrawOK P call) (hmix : P.follows .mixedOrders = true) {n : Nat} {tb : Tbl} {f : FuncId} {fn : Func} (hf : P.funcs[f]? = some fn) {args : List Value} {H : AH} {v : Value} {H' : AH}
    (h : runFn P call n tb fn args H = some (v, H')) : Enterable P f ∧ SimCall P f args H v H' := by
  unfold runFn at h
  cases hb : fn.body.isSome && fn.name != "runtime.NumGoroutine" with
  | false => rw [hb] at h; cases h
  | true =>
    rw [hb] at h
    simp only [cond_true] at h
    rw [Bool.and_eq_true] at hb
    obtain ⟨hb1, hb2⟩ := hb
    refine ⟨⟨fn, hf, by simpa using hb2, hb1⟩, ?_⟩
    obtain ⟨c, hc⟩ := Option.isSome_iff_exists.1 hb1
    have hbody : bodyOf fn = c := by simp [bodyOf, hc]
    rw [hbody] at h
    obtain ⟨e, T', H1, h1, h2⟩ := evalK_sound hcall hdraw hmix n tb c _ _ _ _ h
    have hres : ∃ vs, resAll P T' H1 fn.results.toList = some vs ∧ oneOf vs = v ∧ H1 = H' := by
      cases e with
      | exit i => cases h1
      | normal => obtain ⟨vs, h3, h4⟩ := bind_some h1; cases h4; exact ⟨vs, h3, rfl, rfl⟩
      | ret => obtain ⟨vs, h3, h4⟩ := bind_some h1; cases h4; exact ⟨vs, h3, rfl, rfl⟩
    obtain ⟨vs, h3, h4, rfl⟩ := hres
    intro B0 w0 m w args' R0 hargs
    refine calls_of_wp hf hc (h2 B0 w0 m _ w _ R0 ?_ rfl fun m' a' w' A => ?_)
    · have hl : args'.toArray.size = args.length := by simp [hargs.1]
      simp only [Array.toList_append, Array.toList_replicate, args0]
      refine hargs.append ?_
      rw [hl]
      exact LRel.of_flat_undef _
    · obtain ⟨v', h5, h6⟩ := results_sound A.rel A.tmps h3
      have hpost : a'.defers = [] ∧ ∃ u, (results fn a'.tmps).run P w' = .ok u w' ∧ ∃ m' v', Ending.returned u = .returned v' ∧ VRel m' v v' ∧ Rel P B0 w0 m' H1 w' ∧ Ext m H w m' H1 w' :=
        ⟨A.defers, v', h5, m', v', rfl, by rw [← h4]; exact h6, A.rel, A.ext⟩
      cases e with
      | exit i => cases h1
      | normal => exact hpost
      | ret => exact hpost
theorem run_sound (hdraw : ∀ call, CallOK P call → DrawOK P call) (hmix : P.follows .mixedOrders = true) {tbs : FuncId → Tbl} {gv : Given} (hgv : GivenOK P gv) : ∀ k, CallOK P (run P tbs gv k)
  | 0 => fun f args H v H' h => by cases h
  | k + 1 => fun f args H v H' h => by
    unfold run at h
    split at h
    · rename_i g hg
      exact hgv f g hg args H v H' h
    · obtain ⟨fn, h1, h2⟩ := bind_some h
      have ih := run_sound (tbs := tbs) hdraw hmix hgv k
      exact runFn_sound ih (hdraw _ ih) hmix h1 h2
end
end Go.AM
set_option linter.unusedVariables false
set_option linter.unusedSimpArgs false
namespace Go.AM
open Go.RowKit

section
variable {P : Program} {call : CallF}

theorem aCall_congr {R : Type} {ρ ρ' : Operand → Value} (c : Call) (h : ∀ x ∈ c.operands, ρ x = ρ' x) (H : AH) (K : Value → AH → Option R) : aCall P call ρ c H K = aCall P call ρ' c H K := by
  have h1 : ∀ x ∈ c.args.toList, ρ x = ρ' x := fun x hx => h x (by unfold Call.operands; exact Array.mem_append.2 (.inr (by simpa using hx)))
  have hargs : c.args.toList.map ρ = c.args.toList.map ρ' := List.map_congr_left h1
  unfold aCall
  split
  · rename_i f hc
    have hf : ρ f = ρ' f := h f (by unfold Call.operands; rw [hc]; simp)
    rw [hf, hargs]
  · split
    · rename_i t u s x ht ha
      rw [h1 s (by rw [ha]; simp), h1 x (by rw [ha]; simp)]
    · rfl
  · split
    · rename_i t u s x ht ha
      rw [h1 s (by rw [ha]; simp), h1 x (by rw [ha]; simp)]
    · rfl
  · split
    · rename_i t x ht ha
      rw [h1 x (by rw [ha]; simp)]
    · rfl
  · rw [hargs]
  · rw [hargs]
  · rfl
theorem aRes_congr {ρ ρ' : Operand → Value} (op : Op) (h : ∀ x ∈ op.operands, ρ x = ρ' x) (H : AH) : aRes P call ρ op H = aRes P call ρ' op H := by
  have pairs : ∀ ps : Array (Nat × Operand), (∀ x ∈ ps.map (·.2), ρ x = ρ' x) → (ps.toList.map fun p => (p.1, ρ p.2)) = (ps.toList.map fun p => (p.1, ρ' p.2)) := fun ps hp =>
    List.map_congr_left fun p hm => by rw [hp p.2 (Array.mem_map.2 ⟨p, by simpa using hm, rfl⟩)]
  unfold aRes
  cases op <;> simp only [Op.operands] at h <;> simp only [aOp]
  case build t ps => rw [pairs ps fun x hx => h x (by simpa using hx)]
  case buildSlice t n ps => rw [pairs ps fun x hx => h x (by simpa using hx)]
  case makeFunc fn first captured =>
    cases fn <;> simp only [aOp]
    rw [List.map_congr_left (l := first.toList) fun x hx => h x (by simp at hx; simp [hx]), List.map_congr_left (l := captured.toList) fun x hx => h x (by simp at hx; simp [hx])]
  case call c => exact aCall_congr c h H _
  case slice t x lo hi mx =>
    cases mx with
    | some mx => cases lo <;> cases hi <;> simp_all [aOp]
    | none => cases lo <;> cases hi <;> simp_all [aOp]
  all_goals (first | rfl | (simp_all; done))
theorem opRead_congr {ρ ρ' : Operand → Value} (op : Op) (h : ∀ x ∈ op.operands, ρ x = ρ' x) : opRead P ρ op = opRead P ρ' op := by
  cases op <;> simp only [Op.operands] at h <;> simp only [opRead]
  case load t x => rw [h x (by simp)]
  case convert s d x => rw [h x (by simp)]
/-- What reads, reads the same where the blocks are the same. -/
theorem ld_keep {t : TypeId} {H X : AH} {a v : Value} (hk : ∀ b k, blk H b = some k → blk X b = some k) (h : ld P t H a = some v) : ld P t X a = some v := by
  unfold ld at h ⊢
  split at h
  · unfold ldA at h ⊢
    split at h
    · obtain ⟨k, h1, h2⟩ := bind_some h
      simp only [hk _ _ h1, Option.bind_some]
      exact h2
    · cases h
  · unfold ldC at h ⊢
    split at h
    · obtain ⟨k, h1, h2⟩ := bind_some h
      simp only [hk _ _ h1, Option.bind_some]
      exact h2
    · cases h
  · cases h
theorem sliceCells_keep {sz n : Nat} {H X : AH} {x : Value} {cs : List Value} (hk : ∀ b k, blk H b = some k → blk X b = some k) (h1 : sliceCells sz H x n = some cs) : sliceCells sz X x n = some cs := by
  unfold sliceCells at h1 ⊢
  split at h1
  · exact h1
  · split at h1
    · rename_i hn0; simp only [hn0, if_true]; exact h1
    · split at h1
      · obtain ⟨k, h3, h4⟩ := bind_some h1
        rename_i hn0 hle
        simp only [hn0, hle, if_true, if_false, hk _ _ h3, Option.bind_some]
        exact h4
      · cases h1
  · exact h1
  · cases h1
theorem cvS_keep {s d : TypeId} {H X : AH} {a v : Value} (hk : ∀ b k, blk H b = some k → blk X b = some k) (h : cvS P s d H a = some v) : cvS P s d X a = some v := by
  unfold cvS at h ⊢
  split at h
  · split at h
    · rename_i he
      obtain ⟨cs, h1, h2⟩ := bind_some h
      simp only [he, sliceCells_keep hk h1, Option.bind_some]
      exact h2
    · cases h
  · cases h
theorem opRead_keep {ρ : Operand → Value} {op : Op} {f : AH → Option Value} (hf : opRead P ρ op = some f) {H X : AH} {v : Value} (hk : ∀ b k, blk H b = some k → blk X b = some k) (h : f H = some v) : f X = some v := by
  unfold opRead at hf
  split at hf
  · cases hf; exact ld_keep hk h
  · rename_i s d x
    cases hb : isBytesToString P s d with
    | true => rw [hb] at hf; cases hf; exact cvS_keep hk h
    | false => rw [hb] at hf; cases hf
  · cases hf
end
end Go.AM
set_option linter.unusedVariables false
set_option linter.unusedSimpArgs false
namespace Go.AM
open Go.RowKit

section
variable {P : Program} {call : CallF}

/-- An operation that neither reads nor acts nor makes: it tells the same wherever it comes. -/
def PureAt (P : Program) (call : CallF) (ρ : Operand → Value) (op : Op) (H H' : AH) (v : Value) : Prop := H' = H ∧ ∀ X, aRes P call ρ op X = some (v, X)
theorem PureAt.one {ρ : Operand → Value} {op : Op} {H H' : AH} {v : Value} (x : Option Value) (e : ∀ X, aRes P call ρ op X = x.bind fun v => some (v, X)) (h : aRes P call ρ op H = some (v, H')) : PureAt P call ρ op H H' v := by
  rw [e] at h
  obtain ⟨u, h1, h2⟩ := bind_some h
  cases h2
  exact ⟨rfl, fun X => by rw [e, h1]; rfl⟩
theorem pure_res {ρ : Operand → Value} {op : Op} (he : isEff op = false) (hr : opRead P ρ op = none) (ha : isAlloc op = false) {H H' : AH} {v : Value} (h : aRes P call ρ op H = some (v, H')) : PureAt P call ρ op H H' v := by
  cases op
  case move x => exact .one (some (ρ x)) (fun X => rfl) h
  case assign x => exact .one (some (ρ x)) (fun X => rfl) h
  case pick c x y => exact .one _ (fun X => rfl) h
  case build t ps => exact .one _ (fun X => rfl) h
  case nilCheck x => exact .one _ (fun X => rfl) h
  case binOp op t x y yt => exact .one _ (fun X => rfl) h
  case unOp op t x => exact .one _ (fun X => rfl) h
  case fieldAddr s x i => exact .one _ (fun X => rfl) h
  case field s x i => exact .one _ (fun X => rfl) h
  case indexAddr s x i => exact .one _ (fun X => rfl) h
  case index s x i => exact .one _ (fun X => rfl) h
  case extract x i => exact .one _ (fun X => rfl) h
  case load t x => cases hr
  case alloc t => cases ha
  case box t x => cases ha
  case buildSlice t n ps => cases ha
  case makeSlice t l c => cases ha
  case store t x y => cases he
  case convert s d x =>
    cases hb : isBytesToString P s d with
    | true => simp only [opRead, hb, cond_true] at hr; cases hr
    | false => exact .one (cv P s d (ρ x)) (fun X => by unfold aRes; simp only [aOp, hb, cond_false]) h
  case makeFunc fn first captured =>
    cases fn with
    | func f => exact .one (some (.func (.func f) (first.toList.map ρ).toArray (captured.toList.map ρ).toArray)) (fun X => rfl) h
    | _ => cases h
  case slice t x lo hi mx =>
    cases mx with
    | some _ => exact .one _ (fun X => rfl) h
    | none => exact .one _ (fun X => rfl) h
  case call c =>
    obtain ⟨callee, args, tys⟩ := c
    cases callee with
    | value f => cases he
    | invoke r m => cases h
    | builtin b =>
      cases b
      case append => cases he
      case copy => cases he
      case len =>
        refine .one (match tys.toList, args.toList with | [t], [x] => lenV P t (ρ x) | _, _ => none) (fun X => ?_) h
        show (match tys.toList, args.toList with | [t], [x] => (lenV P t (ρ x)).bind fun v => some (v, X) | _, _ => none) = _
        split <;> rfl
      case min => exact .one _ (fun X => rfl) h
      case max => exact .one _ (fun X => rfl) h
      all_goals cases h
  all_goals cases h
/-- An operation that makes one block. -/
def MakesAt (P : Program) (call : CallF) (ρ : Operand → Value) (op : Op) (H H' : AH) (v : Value) : Prop := ∃ k : Blk, (k.kind = .fix ∧ (v = ptr H.length 0 ∨ ∃ a c, v = sl H.length 0 a c)) ∧ H' = H ++ [some k] ∧ ∀ X : AH, X.length = H.length → aRes P call ρ op X = some (v, X ++ [some k])
theorem MakesAt.one {ρ : Operand → Value} {op : Op} {H H' : AH} {v : Value} (x : Option (Blk × (Nat → Value))) (hx : ∀ p, x = some p → p.1.kind = .fix ∧ ∀ n, p.2 n = ptr n 0 ∨ ∃ a c, p.2 n = sl n 0 a c) (e : ∀ X, aRes P call ρ op X = x.bind fun p => some (p.2 X.length, X ++ [some p.1])) (h : aRes P call ρ op H = some (v, H')) : MakesAt P call ρ op H H' v := by
  rw [e] at h
  obtain ⟨p, h1, h2⟩ := bind_some h
  cases h2
  exact ⟨p.1, ⟨(hx p h1).1, (hx p h1).2 _⟩, rfl, fun X hX => by rw [e, h1, ← hX]; rfl⟩
theorem box_form (t : TypeId) (X : AH) (v : Value) : (box t X v).bind (fun p => some (p.1, p.2)) = (if okCells v = true then some ((⟨v.cells.toList, t, .fix⟩ : Blk), fun n => ptr n 0) else none).bind fun p => some (p.2 X.length, X ++ [some p.1]) := by
  unfold box
  split <;> rfl
theorem alloc_res {ρ : Operand → Value} {op : Op} (ha : isAlloc op = true) {H H' : AH} {v : Value} (h : aRes P call ρ op H = some (v, H')) : MakesAt P call ρ op H H' v := by
  cases op
  case alloc t =>
    refine .one ((zeroT P t).bind fun z => if okCells z = true then some ((⟨z.cells.toList, t, .fix⟩ : Blk), fun n => ptr n 0) else none) ?_ (fun X => ?_) h
    · intro p hp
      obtain ⟨z, h1, h2⟩ := bind_some hp
      split at h2
      · cases h2; exact ⟨rfl, fun n => .inl rfl⟩
      · cases h2
    · show (newV P t X).bind (fun p => some (p.1, p.2)) = _
      unfold newV
      rw [Option.bind_assoc, Option.bind_assoc]
      congr 1
      funext z
      exact box_form t X z
  case box t x =>
    refine .one (if okCells (ρ x) = true then some ((⟨(ρ x).cells.toList, t, .fix⟩ : Blk), fun n => ptr n 0) else none) ?_ (fun X => box_form t X (ρ x)) h
    intro p hp
    split at hp
    · cases hp; exact ⟨rfl, fun n => .inl rfl⟩
    · cases hp
  case buildSlice t n ps =>
    refine .one (match P.underlying t with | some (.slice e) => (zeroT P e).bind fun z => if n * szT P e ≤ 16777216 ∧ z.cells.size = szT P e then (fillB (fun i => some (i * szT P e, szT P e)) (rep z.cells.toList n) (ps.toList.map fun p => (p.1, ρ p.2))).map fun cs => ((⟨cs, e, .fix⟩ : Blk), fun q => sl q 0 n n) else none | _ => none) ?_ (fun X => ?_) h
    · intro p hp
      split at hp
      · obtain ⟨z, h1, h2⟩ := bind_some hp
        split at h2
        · cases hf : fillB (fun i => some (i * szT P _, szT P _)) (rep z.cells.toList n) (ps.toList.map fun p => (p.1, ρ p.2)) with
          | none => rw [hf] at h2; cases h2
          | some cs => rw [hf] at h2; cases h2; exact ⟨rfl, fun q => .inr ⟨_, _, rfl⟩⟩
        · cases h2
      · cases hp
    · show (buildS P t X n (ps.toList.map fun p => (p.1, ρ p.2))).bind (fun p => some (p.1, p.2)) = _
      unfold buildS
      cases P.underlying t with
      | none => rfl
      | some d =>
        cases d with
        | slice e =>
          simp only
          rw [Option.bind_assoc, Option.bind_assoc]
          congr 1
          funext z
          split
          · cases fillB (fun i => some (i * szT P e, szT P e)) (rep z.cells.toList n) (ps.toList.map fun p => (p.1, ρ p.2)) <;> rfl
          · rfl
        | _ => rfl
  case makeSlice t l c =>
    refine .one (match P.underlying t, ρ l, ρ c with | some (.slice e), .int _ n, .int _ m => (zeroT P e).bind fun z => if 0 ≤ n ∧ n ≤ m ∧ m * byT P e ≤ 281474976710656 ∧ m ≤ 9223372036854775807 ∧ z.cells.size = szT P e ∧ okCells z = true then some ((⟨rep z.cells.toList m.toNat, e, .fix⟩ : Blk), fun q => sl q 0 n.toNat m.toNat) else none | _, _, _ => none) ?_ (fun X => ?_) h
    · intro p hp
      split at hp
      · obtain ⟨z, h1, h2⟩ := bind_some hp
        split at h2
        · cases h2; exact ⟨rfl, fun q => .inr ⟨_, _, rfl⟩⟩
        · cases h2
      · cases hp
    · show (mkS P t X (ρ l) (ρ c)).bind (fun p => some (p.1, p.2)) = _
      unfold mkS
      cases P.underlying t with
      | none => rfl
      | some d =>
        cases d with
        | slice e =>
          cases ρ l with
          | int k1 n =>
            cases ρ c with
            | int k2 q =>
              simp only
              rw [Option.bind_assoc, Option.bind_assoc]
              congr 1
              funext z
              split <;> rfl
            | _ => rfl
          | _ => rfl
        | _ => rfl
  all_goals cases ha
end
end Go.AM
set_option linter.unusedVariables false
set_option linter.unusedSimpArgs false
namespace Go.AM
open Go.RowKit

section
variable {P : Program} {call : CallF}

theorem befL_take : ∀ (l : List Oper) (acc : List Nat), (befL acc l).take acc.length = acc ∧ (befL acc l).length = acc.length + l.length ∧ ∀ (j : Nat) (o : Oper), l[j]? = some o → (befL acc l)[acc.length + j]? = some (maskOf ((befL acc l).take (acc.length + j)) o)
  | [], acc => by simp [befL]
  | o :: l, acc => by
    obtain ⟨h1, h2, h3⟩ := befL_take l (acc ++ [maskOf acc o])
    simp only [befL, List.length_append, List.length_cons, List.length_nil, Nat.zero_add] at h1 h2 h3 ⊢
    have h4 : (befL (acc ++ [maskOf acc o]) l).take acc.length = acc := by
      have := congrArg (List.take acc.length) h1
      rw [List.take_take, Nat.min_eq_left (by omega), List.take_left] at this
      exact this
    refine ⟨h4, by omega, fun j p hp => ?_⟩
    cases j with
    | zero =>
      simp at hp
      subst hp
      have : (befL (acc ++ [maskOf acc o]) l)[acc.length]? = ((befL (acc ++ [maskOf acc o]) l).take (acc.length + 1))[acc.length]? := by rw [List.getElem?_take, if_pos (by omega)]
      rw [Nat.add_zero, this, h1, h4]
      simp
    | succ j =>
      have := h3 j p (by simpa using hp)
      rw [show acc.length + (j + 1) = acc.length + 1 + j by omega]
      exact this
theorem maskOf_bit {acc : List Nat} {o : Oper} {i : Nat} (h : (maskOf acc o).testBit i = true) : ∃ e ∈ o.after, Region.binds .any e = true ∧ (e.on = i ∨ (acc.getD e.on 0).testBit i = true) := by
  have key : ∀ (l : List Edge) (s : Nat), (l.foldl (fun s e => bif Region.binds .any e then s ||| (2 ^ e.on ||| acc.getD e.on 0) else s) s).testBit i = true → s.testBit i = true ∨ ∃ e ∈ l, Region.binds .any e = true ∧ (e.on = i ∨ (acc.getD e.on 0).testBit i = true) := by
    intro l
    induction l with
    | nil => intro s hs; exact .inl hs
    | cons e l ih =>
      intro s hs
      rw [List.foldl_cons] at hs
      rcases ih _ hs with h1 | ⟨e', h1, h2⟩
      · cases hb : Region.binds .any e with
        | false => rw [hb] at h1; exact .inl h1
        | true =>
          rw [hb] at h1
          simp only [cond_true, Nat.testBit_or, Bool.or_eq_true] at h1
          rcases h1 with h1 | h1 | h1
          · exact .inl h1
          · refine .inr ⟨e, by simp, hb, .inl ?_⟩
            rw [Nat.testBit_two_pow] at h1
            simpa using h1
          · exact .inr ⟨e, by simp, hb, .inr h1⟩
      · exact .inr ⟨e', by simp [h1], h2⟩
  rcases key _ _ h with h1 | ⟨e, h1, h2⟩
  · simp at h1
  · exact ⟨e, by simpa using h1, h2⟩
/-- A set of operations that holds with each what it comes behind. -/
def Down (ops : Array Oper) (D : Nat → Prop) : Prop := ∀ j o, ops[j]? = some o → D j → ∀ e ∈ o.after, Region.binds .any e = true → D e.on
theorem ordB_down {ops : Array Oper} {D : Nat → Prop} (hD : Down ops D) : ∀ (j : Nat) (o : Oper), ops[j]? = some o → (∀ e ∈ o.after, Region.binds .any e = true → D e.on) → ∀ i, ordB (befL [] ops.toList) i j = true → D i := by
  intro j
  induction j using Nat.strongRecOn with
  | _ j ih =>
    intro o ho hedges i hi
    obtain ⟨_, _, h3⟩ := befL_take ops.toList []
    have h4 := h3 j o (by simpa using ho)
    simp only [List.length_nil, Nat.zero_add] at h4
    unfold ordB at hi
    rw [List.getD_eq_getElem?_getD, h4, Option.getD_some] at hi
    obtain ⟨e, he, hb, h5⟩ := maskOf_bit hi
    have hde := hedges e he hb
    rcases h5 with h5 | h5
    · rw [← h5]; exact hde
    · rcases Nat.lt_or_ge e.on j with hlt | hge
      · rw [List.getD_eq_getElem?_getD, List.getElem?_take, if_pos hlt] at h5
        cases hoe : ops[e.on]? with
        | none =>
          exfalso
          have hlen := (befL_take ops.toList []).2.1
          have : (befL [] ops.toList)[e.on]? = none := List.getElem?_eq_none (by
            rw [hlen]
            simp
            have := Array.getElem?_eq_none_iff.1 hoe
            exact this)
          rw [this] at h5
          simp at h5
        | some oe =>
          refine ih e.on hlt oe hoe (fun e' he' hb' => hD e.on oe hoe hde e' he' hb') i ?_
          unfold ordB
          rw [List.getD_eq_getElem?_getD]
          exact h5
      · rw [List.getD_eq_getElem?_getD, List.getElem?_take, if_neg (by omega)] at h5
        simp at h5
end
end Go.AM
set_option linter.unusedVariables false
set_option linter.unusedSimpArgs false
namespace Go.AM
open Go.RowKit

section
variable {P : Program} {call : CallF}

/-- The steps from operation j0 on: slots, heap, what is passed over, what is told. -/
structure Tr (P : Program) (call : CallF) (ops : Array Oper) (bs : List Nat) (j0 : Nat) (tT : Nat → List Value) (tH : Nat → AH) (sk : Nat → Bool) (vl : Nat → Value) : Prop where
  step : ∀ j o, j0 ≤ j → ops[j]? = some o → tT (j + 1) = putT (tT j) o.dst (vl j)
  skip : ∀ j o, j0 ≤ j → ops[j]? = some o → sk j = true → (∃ g want, o.guard = some (g, want) ∧ Off (yieldV ops (tT j) g) want) ∧ vl j = undef ∧ tH (j + 1) = tH j
  go : ∀ j o, j0 ≤ j → ops[j]? = some o → sk j = false → o.guard = none ∨ ∃ g want, o.guard = some (g, want) ∧ yieldV ops (tT j) g = .bool want
  read : ∀ j o f, j0 ≤ j → ops[j]? = some o → sk j = false → opRead P (opv (tT j)) o.op = some f → f (tH j) = some (vl j) ∧ tH (j + 1) = tH j
  other : ∀ j o, j0 ≤ j → ops[j]? = some o → sk j = false → opRead P (opv (tT j)) o.op = none → aRes P call (opv (tT j)) o.op (tH j) = some (vl j, tH (j + 1))
  pastR : ∀ j o f e oe, j0 ≤ e → e < j → ops[j]? = some o → ops[e]? = some oe → sk j = false → sk e = false → isEff oe.op = true → opRead P (opv (tT j)) o.op = some f → ordB bs e j = false → f (tH e) = some (vl j)
  futR : ∀ j o f e oe, j0 ≤ j → j < e → ops[j]? = some o → ops[e]? = some oe → sk j = false → sk e = false → isEff oe.op = true → opRead P (opv (tT j)) o.op = some f → ordB bs j e = false → f (tH (e + 1)) = some (vl j)
  futA : ∀ j o e oe, j0 ≤ j → j < e → ops[j]? = some o → ops[e]? = some oe → sk j = false → sk e = false → isEff oe.op = true → opRead P (opv (tT j)) o.op = none → isAlloc o.op = true → ordB bs j e = false → blk (tH (e + 1)) (tH j).length = blk (tH (j + 1)) (tH j).length

theorem aChk_inv {R : Type} {p : Prop} {x : Option R} {r : R} (h : aChk p x = some r) : p ∧ x = some r := by
  unfold aChk at h
  split at h
  · rename_i hp; exact ⟨hp, h⟩
  · cases h
theorem chkReads_inv {R : Type} {bs : List Nat} {j : Nat} {H : AH} {x : Option R} {r : R} : ∀ (rs : List Rd), chkReads bs j H x rs = some r → x = some r ∧ ∀ rd ∈ rs, ordB bs rd.at_ j = false → rd.ok H
  | [], h => ⟨h, fun rd hr => by cases hr⟩
  | rd :: rs, h => by
    unfold chkReads at h
    cases ho : ordB bs rd.at_ j with
    | true =>
      rw [ho] at h
      obtain ⟨h1, h2⟩ := chkReads_inv rs h
      refine ⟨h1, fun rd' hr hf => ?_⟩
      cases hr with
      | head => rw [ho] at hf; cases hf
      | tail _ hr => exact h2 rd' hr hf
    | false =>
      rw [ho] at h
      obtain ⟨h0, h⟩ := aChk_inv h
      obtain ⟨h1, h2⟩ := chkReads_inv rs h
      refine ⟨h1, fun rd' hr hf => ?_⟩
      cases hr with
      | head => exact h0
      | tail _ hr => exact h2 rd' hr hf
theorem chkPast_inv {R : Type} {bs : List Nat} {j : Nat} {ok : AH → Prop} {x : Option R} {r : R} : ∀ (ps : List (Nat × AH)), chkPast bs j ok x ps = some r → x = some r ∧ ∀ p ∈ ps, ordB bs p.1 j = false → ok p.2
  | [], h => ⟨h, fun p hp => by cases hp⟩
  | p :: ps, h => by
    unfold chkPast at h
    cases ho : ordB bs p.1 j with
    | true =>
      rw [ho] at h
      obtain ⟨h1, h2⟩ := chkPast_inv ps h
      refine ⟨h1, fun p' hr hf => ?_⟩
      cases hr with
      | head => rw [ho] at hf; cases hf
      | tail _ hr => exact h2 p' hr hf
    | false =>
      rw [ho] at h
      obtain ⟨h0, h⟩ := aChk_inv h
      obtain ⟨h1, h2⟩ := chkPast_inv ps h
      refine ⟨h1, fun p' hr hf => ?_⟩
      cases hr with
      | head => exact h0
      | tail _ hr => exact h2 p' hr hf
/-- What the steps from j0 on keep of what came ahead. -/
structure TrP (P : Program) (ops : Array Oper) (bs : List Nat) (j0 : Nat) (tT : Nat → List Value) (tH : Nat → AH) (sk : Nat → Bool) (vl : Nat → Value) (past : List (Nat × AH)) (reads : List Rd) : Prop where
  past : ∀ p ∈ past, ∀ j o f, j0 ≤ j → ops[j]? = some o → sk j = false → opRead P (opv (tT j)) o.op = some f → ordB bs p.1 j = false → f p.2 = some (vl j)
  reads : ∀ rd ∈ reads, ∀ e oe, j0 ≤ e → ops[e]? = some oe → sk e = false → isEff oe.op = true → ordB bs rd.at_ e = false → rd.ok (tH (e + 1))
theorem read_not_eff {ρ : Operand → Value} {op : Op} {f : AH → Option Value} (h : opRead P ρ op = some f) : isEff op = false := by
  cases op <;> first | rfl | (simp [opRead] at h; done)
theorem alloc_not_eff {op : Op} (h : isAlloc op = true) : isEff op = false := by
  cases op <;> first | rfl | (simp [isAlloc] at h; done)
theorem tr_cons {ops : Array Oper} {bs : List Nat} {j0 : Nat} {o : Oper} (ho : ops[j0]? = some o) {T : List Value} {H H1 : AH} {v : Value} {s : Bool} {tT : Nat → List Value} {tH : Nat → AH} {sk : Nat → Bool} {vl : Nat → Value}
    (h0 : tT (j0 + 1) = putT T o.dst v) (h1 : tH (j0 + 1) = H1) (X : Tr P call ops bs (j0 + 1) tT tH sk vl)
    (hskip : s = true → (∃ g want, o.guard = some (g, want) ∧ Off (yieldV ops T g) want) ∧ v = undef ∧ H1 = H)
    (hgo : s = false → o.guard = none ∨ ∃ g want, o.guard = some (g, want) ∧ yieldV ops T g = .bool want)
    (hread : ∀ f, s = false → opRead P (opv T) o.op = some f → f H = some v ∧ H1 = H)
    (hother : s = false → opRead P (opv T) o.op = none → aRes P call (opv T) o.op H = some (v, H1))
    (hpast : s = false → isEff o.op = true → ∀ j p f, j0 + 1 ≤ j → ops[j]? = some p → sk j = false → opRead P (opv (tT j)) p.op = some f → ordB bs j0 j = false → f H = some (vl j))
    (hfutR : ∀ f, s = false → opRead P (opv T) o.op = some f → ∀ e oe, j0 + 1 ≤ e → ops[e]? = some oe → sk e = false → isEff oe.op = true → ordB bs j0 e = false → f (tH (e + 1)) = some v)
    (hfutA : s = false → opRead P (opv T) o.op = none → isAlloc o.op = true → ∀ e oe, j0 + 1 ≤ e → ops[e]? = some oe → sk e = false → isEff oe.op = true → ordB bs j0 e = false → blk (tH (e + 1)) H.length = blk H1 H.length) :
    Tr P call ops bs j0 (fun i => if i = j0 then T else tT i) (fun i => if i = j0 then H else tH i) (fun i => if i = j0 then s else sk i) (fun i => if i = j0 then v else vl i) := by
  have hne : ∀ {j}, j0 ≤ j → j ≠ j0 → j0 + 1 ≤ j := fun h1 h2 => by omega
  refine ⟨?_, ?_, ?_, ?_, ?_, ?_, ?_, ?_⟩
  · intro j p hj hp
    rw [if_neg (show j + 1 ≠ j0 by omega)]
    by_cases hjj : j = j0
    · subst hjj; rw [ho] at hp; cases hp; simp only [if_true]; exact h0
    · simp only [if_neg hjj]; exact X.step j p (hne hj hjj) hp
  · intro j p hj hp hs
    rw [if_neg (show j + 1 ≠ j0 by omega)]
    by_cases hjj : j = j0
    · subst hjj; rw [ho] at hp; cases hp; simp only [if_true] at hs ⊢; rw [h1]; exact hskip hs
    · simp only [if_neg hjj] at hs ⊢; exact X.skip j p (hne hj hjj) hp hs
  · intro j p hj hp hs
    by_cases hjj : j = j0
    · subst hjj; rw [ho] at hp; cases hp; simp only [if_true] at hs ⊢; exact hgo hs
    · simp only [if_neg hjj] at hs ⊢; exact X.go j p (hne hj hjj) hp hs
  · intro j p f hj hp hs hf
    rw [if_neg (show j + 1 ≠ j0 by omega)]
    by_cases hjj : j = j0
    · subst hjj; rw [ho] at hp; cases hp; simp only [if_true] at hs hf ⊢; rw [h1]; exact hread f hs hf
    · simp only [if_neg hjj] at hs hf ⊢; exact X.read j p f (hne hj hjj) hp hs hf
  · intro j p hj hp hs hf
    rw [if_neg (show j + 1 ≠ j0 by omega)]
    by_cases hjj : j = j0
    · subst hjj; rw [ho] at hp; cases hp; simp only [if_true] at hs hf ⊢; rw [h1]; exact hother hs hf
    · simp only [if_neg hjj] at hs hf ⊢; exact X.other j p (hne hj hjj) hp hs hf
  · intro j p f e oe he hej hp hoe hs hse hef hf hord
    rw [if_neg (show j ≠ j0 by omega)] at hs hf ⊢
    by_cases hee : e = j0
    · subst hee; rw [ho] at hoe; cases hoe; simp only [if_true] at hse ⊢; exact hpast hse hef j p f (by omega) hp hs hf hord
    · simp only [if_neg hee] at hse ⊢; exact X.pastR j p f e oe (hne he hee) hej hp hoe hs hse hef hf hord
  · intro j p f e oe hj hje hp hoe hs hse hef hf hord
    rw [if_neg (show e ≠ j0 by omega)] at hse
    rw [if_neg (show e + 1 ≠ j0 by omega)]
    by_cases hjj : j = j0
    · subst hjj; rw [ho] at hp; cases hp; simp only [if_true] at hs hf ⊢; exact hfutR f hs hf e oe (by omega) hoe hse hef hord
    · simp only [if_neg hjj] at hs hf ⊢; exact X.futR j p f e oe (hne hj hjj) hje hp hoe hs hse hef hf hord
  · intro j p e oe hj hje hp hoe hs hse hef hf ha hord
    rw [if_neg (show e ≠ j0 by omega)] at hse
    rw [if_neg (show e + 1 ≠ j0 by omega), if_neg (show j + 1 ≠ j0 by omega)]
    by_cases hjj : j = j0
    · subst hjj; rw [ho] at hp; cases hp; simp only [if_true] at hs hf ⊢; rw [h1]; exact hfutA hs hf ha e oe (by omega) hoe hse hef hord
    · simp only [if_neg hjj] at hs hf ⊢; exact X.futA j p e oe (hne hj hjj) hje hp hoe hs hse hef hf ha hord
theorem trp_cons {ops : Array Oper} {bs : List Nat} {j0 : Nat} {o : Oper} (ho : ops[j0]? = some o) {T : List Value} {H H1 : AH} {v : Value} {s : Bool} {tT : Nat → List Value} {tH : Nat → AH} {sk : Nat → Bool} {vl : Nat → Value} {past : List (Nat × AH)} {reads : List Rd}
    (h1 : tH (j0 + 1) = H1)
    (hp : ∀ p ∈ past, (∀ j o f, j0 + 1 ≤ j → ops[j]? = some o → sk j = false → opRead P (opv (tT j)) o.op = some f → ordB bs p.1 j = false → f p.2 = some (vl j)) ∧ (∀ f, s = false → opRead P (opv T) o.op = some f → ordB bs p.1 j0 = false → f p.2 = some v))
    (hr : ∀ rd ∈ reads, (∀ e oe, j0 + 1 ≤ e → ops[e]? = some oe → sk e = false → isEff oe.op = true → ordB bs rd.at_ e = false → rd.ok (tH (e + 1))) ∧ (s = false → isEff o.op = true → ordB bs rd.at_ j0 = false → rd.ok H1)) :
    TrP P ops bs j0 (fun i => if i = j0 then T else tT i) (fun i => if i = j0 then H else tH i) (fun i => if i = j0 then s else sk i) (fun i => if i = j0 then v else vl i) past reads := by
  refine ⟨fun p hpp j q f hj hq hs hf hord => ?_, fun rd hrd e oe he hoe hs hef hord => ?_⟩
  · by_cases hjj : j = j0
    · subst hjj; rw [ho] at hq; cases hq; simp only [if_true] at hs hf ⊢; exact (hp p hpp).2 f hs hf hord
    · simp only [if_neg hjj] at hs hf ⊢; exact (hp p hpp).1 j q f (by omega) hq hs hf hord
  · rw [if_neg (show e + 1 ≠ j0 by omega)]
    by_cases hee : e = j0
    · subst hee; rw [ho] at hoe; cases hoe; simp only [if_true] at hs; rw [h1]; exact (hr rd hrd).2 hs hef hord
    · simp only [if_neg hee] at hs; exact (hr rd hrd).1 e oe (by omega) hoe hs hef hord
theorem evD_inv (ops : Array Oper) (bs : List Nat) {R : Type} {K : List Value → AH → Option R} {r : R} : ∀ (l : List Oper) (j0 : Nat) (T : List Value) (H : AH) (past : List (Nat × AH)) (reads : List Rd), (∀ j, l[j]? = ops[j0 + j]?) → evD P call ops bs l j0 T H past reads K = some r →
    ∃ tT tH sk vl, tT j0 = T ∧ tH j0 = H ∧ Tr P call ops bs j0 tT tH sk vl ∧ TrP P ops bs j0 tT tH sk vl past reads ∧ K (tT (j0 + l.length)) (tH (j0 + l.length)) = some r
  | [], j0, T, H, past, reads, hl, h => by
    have none_ : ∀ j, j0 ≤ j → ops[j]? = none := fun j hj => by have := hl (j - j0); rw [show j0 + (j - j0) = j by omega] at this; rw [← this]; rfl
    have no : ∀ {j : Nat} {o : Oper}, j0 ≤ j → ops[j]? = some o → False := fun hj ho => by rw [none_ _ hj] at ho; cases ho
    exact ⟨fun _ => T, fun _ => H, fun _ => false, fun _ => undef, rfl, rfl, ⟨fun j o hj ho => (no hj ho).elim, fun j o hj ho => (no hj ho).elim, fun j o hj ho => (no hj ho).elim, fun j o f hj ho => (no hj ho).elim, fun j o hj ho => (no hj ho).elim,
      fun j o f e oe he hej ho => (no (by omega) ho).elim, fun j o f e oe hj hje ho => (no hj ho).elim, fun j o e oe hj hje ho => (no hj ho).elim⟩, ⟨fun p _ j o f hj ho => (no hj ho).elim, fun rd _ e oe he hoe => (no he hoe).elim⟩, h⟩
  | o :: l, j0, T, H, past, reads, hl, h => by
    have ho : ops[j0]? = some o := by have := hl 0; simpa using this.symm
    have hl' : ∀ j, l[j]? = ops[j0 + 1 + j]? := fun j => by have := hl (j + 1); rw [show j0 + 1 + j = j0 + (j + 1) by omega]; simpa using this
    have hlen : j0 + (o :: l).length = j0 + 1 + l.length := by simp; omega
    -- passed over
    have fin_skip : ∀ (past' : List (Nat × AH)) (reads' : List Rd), (∀ p ∈ past, p ∈ past') → (∀ rd ∈ reads, rd ∈ reads') → evD P call ops bs l (j0 + 1) (putT T o.dst undef) H past' reads' K = some r → (∃ g want, o.guard = some (g, want) ∧ Off (yieldV ops T g) want) →
        ∃ tT tH sk vl, tT j0 = T ∧ tH j0 = H ∧ Tr P call ops bs j0 tT tH sk vl ∧ TrP P ops bs j0 tT tH sk vl past reads ∧ K (tT (j0 + (o :: l).length)) (tH (j0 + (o :: l).length)) = some r := by
      intro past' reads' hp' hr' hh hg
      obtain ⟨tT, tH, sk, vl, h0, h1, X, Y, hK⟩ := evD_inv ops bs l (j0 + 1) _ _ _ _ hl' hh
      refine ⟨_, _, _, _, if_pos rfl, if_pos rfl, tr_cons (s := true) (v := undef) ho h0 h1 X (fun _ => ⟨hg, rfl, rfl⟩) (fun hx => by cases hx) (fun f hx => by cases hx) (fun hx => by cases hx) (fun hx => by cases hx) (fun f hx => by cases hx) (fun hx => by cases hx),
        trp_cons ho h1 (fun p hp => ⟨Y.past p (hp' p hp), fun f hx => by cases hx⟩) (fun rd hrd => ⟨Y.reads rd (hr' rd hrd), fun hx => by cases hx⟩), ?_⟩
      rw [hlen]
      simp only [if_neg (show j0 + 1 + l.length ≠ j0 by omega)]
      exact hK
    have fin_read : ∀ (v : Value) (ok : AH → Prop) (f : AH → Option Value), opRead P (opv T) o.op = some f → f H = some v → (∀ X, ok X → f X = some v) → (o.guard = none ∨ ∃ g want, o.guard = some (g, want) ∧ yieldV ops T g = .bool want) → evD P call ops bs l (j0 + 1) (putT T o.dst v) H past (⟨j0, ok⟩ :: reads) K = some r →
        (∀ p ∈ past, ordB bs p.1 j0 = false → f p.2 = some v) → ∃ tT tH sk vl, tT j0 = T ∧ tH j0 = H ∧ Tr P call ops bs j0 tT tH sk vl ∧ TrP P ops bs j0 tT tH sk vl past reads ∧ K (tT (j0 + (o :: l).length)) (tH (j0 + (o :: l).length)) = some r := by
      intro v ok f hf hv hok hg hh hc
      obtain ⟨tT, tH, sk, vl, h0, h1, X, Y, hK⟩ := evD_inv ops bs l (j0 + 1) _ _ _ _ hl' hh
      have hne := read_not_eff hf
      refine ⟨_, _, _, _, if_pos rfl, if_pos rfl, tr_cons (s := false) (v := v) ho h0 h1 X (fun hx => by cases hx) (fun _ => hg) (fun f' _ hf' => ?_) (fun _ hx => by rw [hf] at hx; cases hx) (fun _ hx => by rw [hne] at hx; cases hx) (fun f' _ hf' e oe he hoe hse hef hord => ?_) (fun _ hx => by rw [hf] at hx; cases hx),
        trp_cons ho h1 (fun p hp => ⟨Y.past p hp, fun f' _ hf' hord => ?_⟩) (fun rd hrd => ⟨Y.reads rd (by simp [hrd]), fun _ hx => by rw [hne] at hx; cases hx⟩), ?_⟩
      · rw [hf] at hf'; cases hf'; exact ⟨hv, rfl⟩
      · rw [hf] at hf'; cases hf'; exact hok _ (Y.reads ⟨j0, ok⟩ (by simp) e oe he hoe hse hef hord)
      · rw [hf] at hf'; cases hf'; exact hc p hp hord
      · rw [hlen]
        simp only [if_neg (show j0 + 1 + l.length ≠ j0 by omega)]
        exact hK
    have fin_eff : ∀ (v : Value) (H1 : AH), opRead P (opv T) o.op = none → aRes P call (opv T) o.op H = some (v, H1) → isEff o.op = true → (o.guard = none ∨ ∃ g want, o.guard = some (g, want) ∧ yieldV ops T g = .bool want) → evD P call ops bs l (j0 + 1) (putT T o.dst v) H1 ((j0, H) :: past) reads K = some r →
        (∀ rd ∈ reads, ordB bs rd.at_ j0 = false → rd.ok H1) → ∃ tT tH sk vl, tT j0 = T ∧ tH j0 = H ∧ Tr P call ops bs j0 tT tH sk vl ∧ TrP P ops bs j0 tT tH sk vl past reads ∧ K (tT (j0 + (o :: l).length)) (tH (j0 + (o :: l).length)) = some r := by
      intro v H1 hf hv he hg hh hc
      obtain ⟨tT, tH, sk, vl, h0, h1, X, Y, hK⟩ := evD_inv ops bs l (j0 + 1) _ _ _ _ hl' hh
      refine ⟨_, _, _, _, if_pos rfl, if_pos rfl, tr_cons (s := false) (v := v) ho h0 h1 X (fun hx => by cases hx) (fun _ => hg) (fun f' _ hf' => by rw [hf] at hf'; cases hf') (fun _ _ => hv) (fun _ _ j p f hj hp hs hf hord => Y.past (j0, H) (by simp) j p f hj hp hs hf hord) (fun f' _ hf' => by rw [hf] at hf'; cases hf') (fun _ _ hx => by rw [alloc_not_eff hx] at he; cases he),
        trp_cons ho h1 (fun p hp => ⟨Y.past p (by simp [hp]), fun f' _ hf' => by rw [hf] at hf'; cases hf'⟩) (fun rd hrd => ⟨Y.reads rd hrd, fun _ _ hord => hc rd hrd hord⟩), ?_⟩
      rw [hlen]
      simp only [if_neg (show j0 + 1 + l.length ≠ j0 by omega)]
      exact hK
    have fin_alloc : ∀ (v : Value) (H1 : AH) (ok : AH → Prop), (∀ X, ok X → blk X H.length = blk H1 H.length) → opRead P (opv T) o.op = none → aRes P call (opv T) o.op H = some (v, H1) → isEff o.op = false → (o.guard = none ∨ ∃ g want, o.guard = some (g, want) ∧ yieldV ops T g = .bool want) → evD P call ops bs l (j0 + 1) (putT T o.dst v) H1 past (⟨j0, ok⟩ :: reads) K = some r → ∃ tT tH sk vl, tT j0 = T ∧ tH j0 = H ∧ Tr P call ops bs j0 tT tH sk vl ∧ TrP P ops bs j0 tT tH sk vl past reads ∧ K (tT (j0 + (o :: l).length)) (tH (j0 + (o :: l).length)) = some r := by
      intro v H1 ok hok hf hv he hg hh
      obtain ⟨tT, tH, sk, vl, h0, h1, X, Y, hK⟩ := evD_inv ops bs l (j0 + 1) _ _ _ _ hl' hh
      refine ⟨_, _, _, _, if_pos rfl, if_pos rfl, tr_cons (s := false) (v := v) ho h0 h1 X (fun hx => by cases hx) (fun _ => hg) (fun f' _ hf' => by rw [hf] at hf'; cases hf') (fun _ _ => hv) (fun _ hx => by rw [he] at hx; cases hx) (fun f' _ hf' => by rw [hf] at hf'; cases hf') (fun _ _ _ e oe hee hoe hse hef hord => hok _ (Y.reads ⟨j0, ok⟩ (by simp) e oe hee hoe hse hef hord)),
        trp_cons ho h1 (fun p hp => ⟨Y.past p hp, fun f' _ hf' => by rw [hf] at hf'; cases hf'⟩) (fun rd hrd => ⟨Y.reads rd (by simp [hrd]), fun _ hx => by rw [he] at hx; cases hx⟩), ?_⟩
      rw [hlen]
      simp only [if_neg (show j0 + 1 + l.length ≠ j0 by omega)]
      exact hK
    have fin_pure : ∀ (v : Value) (H1 : AH), opRead P (opv T) o.op = none → aRes P call (opv T) o.op H = some (v, H1) → isEff o.op = false → isAlloc o.op = false → (o.guard = none ∨ ∃ g want, o.guard = some (g, want) ∧ yieldV ops T g = .bool want) → evD P call ops bs l (j0 + 1) (putT T o.dst v) H1 past reads K = some r → ∃ tT tH sk vl, tT j0 = T ∧ tH j0 = H ∧ Tr P call ops bs j0 tT tH sk vl ∧ TrP P ops bs j0 tT tH sk vl past reads ∧ K (tT (j0 + (o :: l).length)) (tH (j0 + (o :: l).length)) = some r := by
      intro v H1 hf hv he ha hg hh
      obtain ⟨tT, tH, sk, vl, h0, h1, X, Y, hK⟩ := evD_inv ops bs l (j0 + 1) _ _ _ _ hl' hh
      refine ⟨_, _, _, _, if_pos rfl, if_pos rfl, tr_cons (s := false) (v := v) ho h0 h1 X (fun hx => by cases hx) (fun _ => hg) (fun f' _ hf' => by rw [hf] at hf'; cases hf') (fun _ _ => hv) (fun _ hx => by rw [he] at hx; cases hx) (fun f' _ hf' => by rw [hf] at hf'; cases hf') (fun _ _ hx => by rw [ha] at hx; cases hx),
        trp_cons ho h1 (fun p hp => ⟨Y.past p hp, fun f' _ hf' => by rw [hf] at hf'; cases hf'⟩) (fun rd hrd => ⟨Y.reads rd hrd, fun _ hx => by rw [he] at hx; cases hx⟩), ?_⟩
      rw [hlen]
      simp only [if_neg (show j0 + 1 + l.length ≠ j0 by omega)]
      exact hK
    unfold evD at h
    cases hg : o.guard with
    | none =>
      rw [hg] at h
      simp only at h
      split at h
      · rename_i f hf
        obtain ⟨v, hv, hh⟩ := bind_some h
        obtain ⟨hh, hc⟩ := chkPast_inv past hh
        exact fin_read v _ f hf hv (fun X hX => hX) (.inl hg) hh hc
      · rename_i hf
        rw [aOp_res] at h
        obtain ⟨⟨v, H1⟩, hv, hh⟩ := bind_some h
        simp only at hh
        cases he : isEff o.op with
        | true =>
          rw [he] at hh
          obtain ⟨hh, hc⟩ := chkReads_inv reads hh
          exact fin_eff v H1 hf hv he (.inl hg) hh hc
        | false =>
          rw [he] at hh
          cases ha : isAlloc o.op with
          | true => rw [ha] at hh; exact fin_alloc v H1 _ (fun X hX => hX) hf hv he (.inl hg) hh
          | false => rw [ha] at hh; exact fin_pure v H1 hf hv he ha (.inl hg) hh
    | some q =>
      obtain ⟨g, want⟩ := q
      rw [hg] at h
      simp only at h
      split at h
      · rename_i f hf
        obtain ⟨p, hp, hh⟩ := bind_some h
        obtain ⟨hh, hc⟩ := chkPast_inv past hh
        rcases gOp_inv hp with ⟨hu, h5⟩ | ⟨hu, rfl⟩
        · obtain ⟨v, hv, h6⟩ := bind_some h5
          cases h6
          exact fin_read v _ f hf hv (fun X hX => hX hu) (.inr ⟨g, want, hg, hu⟩) hh (fun p hp hord => hc p hp hord hu)
        · exact fin_skip _ _ (fun p hp => hp) (fun rd hrd => by simp [hrd]) hh ⟨g, want, hg, hu⟩
      · rename_i hf
        obtain ⟨⟨v, H1⟩, hp, hh⟩ := bind_some h
        simp only at hh
        rcases gOp_inv hp with ⟨hu, h5⟩ | ⟨hu, h5⟩
        · cases he : isEff o.op with
          | true =>
            rw [he] at hh
            obtain ⟨hh, hc⟩ := chkReads_inv reads hh
            exact fin_eff v H1 hf h5 he (.inr ⟨g, want, hg, hu⟩) hh hc
          | false =>
            rw [he] at hh
            cases ha : isAlloc o.op with
            | true => rw [ha] at hh; exact fin_alloc v H1 _ (fun X hX => hX hu) hf h5 he (.inr ⟨g, want, hg, hu⟩) hh
            | false => rw [ha] at hh; exact fin_pure v H1 hf h5 he ha (.inr ⟨g, want, hg, hu⟩) hh
        · cases h5
          cases he : isEff o.op with
          | true =>
            rw [he] at hh
            obtain ⟨hh, hc⟩ := chkReads_inv reads hh
            exact fin_skip _ _ (fun p hp => by simp [hp]) (fun rd hrd => hrd) hh ⟨g, want, hg, hu⟩
          | false =>
            rw [he] at hh
            cases ha : isAlloc o.op with
            | true => rw [ha] at hh; exact fin_skip _ _ (fun p hp => hp) (fun rd hrd => by simp [hrd]) hh ⟨g, want, hg, hu⟩
            | false => rw [ha] at hh; exact fin_skip _ _ (fun p hp => hp) (fun rd hrd => hrd) hh ⟨g, want, hg, hu⟩
end
end Go.AM
