/-
  Facts of the abstract evaluator and of the functions that the law reaches, part 4. Conditions: none.
-/
import Derived.Test.YtffdllmhlaecgaaG3DyadMakes
set_option linter.unusedVariables false
set_option linter.unusedSimpArgs false
set_option linter.unnecessarySimpa false
set_option exponentiation.threshold 200000
set_option maxRecDepth 100000
set_option linter.unusedVariables false
set_option linter.unusedSimpArgs false
set_option maxRecDepth 100000
namespace Go.AM.Y
open Go Go.AM Go.Proofs
attribute [local irreducible] run bin un ld st box newV mkS fldA fld ixA ix slc slc3 build buildS cv cvS ap cpy lenV gOp pickV b2 aIf aChk evalK resume iterD Option.bind

theorem rup_loop {H0 B0 : AH} {L : List (Nat × Blk)} {s2 s4 : Value} : ∀ (c : Nat) (n : Int) (xs : List Nat) (m : Value) (B H : AH), n ≤ 100000 * (c : Int) → RdN B m xs → xs.length + 3127 * c < 68719476736 → St H0 B0 B L H → -9223372036854775808 ≤ n → n < 1099511627776 →
    Ev (fun k l => f115_L0 k (.int .i64 n) s2 s4 m l H) (fun o => ∃ B' H' m' ys, o = (.exit 0, f115_X_L0 s2 s4 m', H') ∧ val ys = val xs * 2 ^ n.toNat ∧ ys.length < 68719476736 ∧ RdN B' m' ys ∧ Mo B B' ∧ St H0 B0 B' L H') := by
  intro c
  induction c with
  | zero =>
    intro n xs m B H hn hr hl hS hlo hhi
    refine Ev.succ (fun k l => f115_L0_succ k _ _ _ _ l H) ?_
    repeat (first | refine Ev.s ?_ | refine Ev.newC fun _ _ _ => ?_ | refine Ev.boxC fun _ _ _ => ?_ | refine Ev.stC fun _ _ => ?_ | refine Ev.sc (by omega) ?_ | refine Ev.scg (by omega) ?_)
    rw [decide_eq_false (by omega)]
    repeat (first | refine Ev.s ?_ | refine Ev.newC fun _ _ _ => ?_ | refine Ev.boxC fun _ _ _ => ?_ | refine Ev.stC fun _ _ => ?_ | refine Ev.sc (by omega) ?_ | refine Ev.scg (by omega) ?_)
    exact Ev.ret ⟨B, H, m, xs, rfl, by rw [show n.toNat = 0 by omega, Nat.pow_zero, Nat.mul_one], by omega, hr, Mo.refl B, hS⟩
  | succ c ih =>
    intro n xs m B H hn hr hl hS hlo hhi
    refine Ev.succ (fun k l => f115_L0_succ k _ _ _ _ l H) ?_
    repeat (first | refine Ev.s ?_ | refine Ev.newC fun _ _ _ => ?_ | refine Ev.boxC fun _ _ _ => ?_ | refine Ev.stC fun _ _ => ?_ | refine Ev.sc (by omega) ?_ | refine Ev.scg (by omega) ?_)
    by_cases hg : 0 < n
    · rw [decide_eq_true hg]
      obtain ⟨K, hK⟩ : ∃ K : Nat, (K : Int) = (if (100000 : Int) < n then 100000 else n) := ⟨(if (100000 : Int) < n then 100000 else n).toNat, by split <;> omega⟩
      have hK2 : K ≤ 100000 ∧ (K : Int) ≤ n ∧ n - K ≤ 100000 * (c : Int) := by split at hK <;> omega
      repeat (first | refine Ev.s ?_ | refine Ev.newC fun _ _ _ => ?_ | refine Ev.boxC fun _ _ _ => ?_ | refine Ev.stC fun _ _ => ?_ | refine Ev.sc (by omega) ?_ | refine Ev.scg (by omega) ?_)
      rw [← hK]
      refine Ev.callD (rShl_spec (xs := xs) (n := K) (by omega) (by omega)) fun v B1 H1 hm1 hS1 h1 => ?_
      obtain ⟨w, rfl, hw⟩ := h1
      have h2 := limbs_shl_len (x := val xs) (k := K)
      have h3 := limbs_length_le (val_lt hr.sm)
      repeat (first | refine Ev.s ?_ | refine Ev.newC fun _ _ _ => ?_ | refine Ev.boxC fun _ _ _ => ?_ | refine Ev.stC fun _ _ => ?_ | refine Ev.sc (by omega) ?_ | refine Ev.scg (by omega) ?_)
      refine (ih (n - K) _ w B1 H1 hK2.2.2 hw (by omega) hS1 (by omega) (by omega)).mono fun o ho => ?_
      obtain ⟨B', H', m', ys, q1, q4, q5, q6, q7, q8⟩ := ho
      refine ⟨B', H', m', ys, q1, ?_, q5, q6, hm1.mo.trans q7, q8⟩
      rw [q4, val_limbs, show n.toNat = K + (n - K).toNat by omega, Nat.pow_add, Nat.mul_assoc]
    · rw [decide_eq_false hg]
      repeat (first | refine Ev.s ?_ | refine Ev.newC fun _ _ _ => ?_ | refine Ev.boxC fun _ _ _ => ?_ | refine Ev.stC fun _ _ => ?_ | refine Ev.sc (by omega) ?_ | refine Ev.scg (by omega) ?_)
      exact Ev.ret ⟨B, H, m, xs, rfl, by rw [show n.toNat = 0 by omega, Nat.pow_zero, Nat.mul_one], by omega, hr, Mo.refl B, hS⟩
theorem rup_spec {B H : AH} {xs : List Nat} {m : Value} {neg : Bool} {n : Int} (hl : xs.length < 34359738368) (hn : -9223372036854775808 ≤ n ∧ n < 1000000000) [ha : RdT B m xs] (hL : Le B H) :
    Ev (fun k _ => rn k 115 [.agg #[.bool neg, m], .int .i64 n] H) (An B H fun B' v => IntV B' v (sg neg (val xs) * ((2 ^ n.toNat : Nat) : Int))) := by
  refine Ev.fn (fun k => f115_eq k _ _ H) ?_
  have hS := St.start hL
  have ha := ha.rd
  repeat (first | refine Ev.s ?_ | refine Ev.newC fun _ _ _ => ?_ | refine Ev.boxC fun _ _ _ => ?_ | refine Ev.stC fun _ _ => ?_ | refine Ev.sc (by omega) ?_ | refine Ev.scg (by omega) ?_)
  refine Ev.bind (Ev.loop (rup_loop 10000 n xs m B _ (by omega) ha (by omega) (by assumption) hn.1 (by omega))) ?_
  rintro _ ⟨B1, H1, m1, ys, rfl, q4, q5, q6, q7, q8⟩
  refine Ev.eq (fun k _ => f115_A0_x0 k _ _ _ _) ?_
  repeat (first | refine Ev.s ?_ | refine Ev.newC fun _ _ _ => ?_ | refine Ev.boxC fun _ _ _ => ?_ | refine Ev.stC fun _ _ => ?_ | refine Ev.sc (by omega) ?_ | refine Ev.scg (by omega) ?_)
  refine Ev.callD (rMake_spec (xs := ys) (by omega)) fun v2 B2 H2 hm2 hS2 h2 => ?_
  rw [q4, sg_mul] at h2
  generalize sg neg (val xs) * ((2 ^ n.toNat : Nat) : Int) = Z at *
  obtain ⟨w, rfl, hw⟩ := h2
  repeat (first | refine Ev.s ?_ | refine Ev.newC fun _ _ _ => ?_ | refine Ev.boxC fun _ _ _ => ?_ | refine Ev.stC fun _ _ => ?_ | refine Ev.sc (by omega) ?_ | refine Ev.scg (by omega) ?_)
  exact Ev.doneC ⟨w, rfl, hw⟩
/-- M of a number that is right. -/
theorem right_IntV {B : AH} {d : Dy} {m : Value} (h : rightD d = true) (hm : RdN B m d.mag) : IntV B (.agg #[.bool d.neg, m]) (dz d) := by
  have hl := right_limbs h hm.sm
  have hn : d.neg = decide (dz d < 0) := by
    unfold dz; rw [← sg_neg]
    by_cases h0 : val d.mag = 0
    · unfold rightD rightI at h
      rw [Bool.and_eq_true] at h
      have : d.mag.length = 0 := by rw [hl, h0, limbs_zero]; rfl
      rw [if_pos this] at h
      have := h.1
      cases hh : d.neg with
      | false => rfl
      | true => rw [hh] at this; cases this
    · rw [decide_eq_true h0, Bool.and_true]
  refine ⟨m, by rw [← hn], ?_⟩
  have : (dz d).natAbs = val d.mag := sg_abs
  rw [this, ← hl]; exact hm
def liftA (x y : Dy) : Int × Int × Int :=
  if x.mag.length = 0 then (0, dz y, y.e) else if y.mag.length = 0 then (dz x, 0, x.e)
  else if y.e < x.e then (dz x * ((2 ^ (x.e - y.e).toNat : Nat) : Int), dz y, y.e) else (dz x, dz y * ((2 ^ (y.e - x.e).toNat : Nat) : Int), x.e)
theorem zeroI {B : AH} : IntV B (.agg #[.bool false, .slice none 0 0]) 0 := ⟨_, rfl, by rw [Int.natAbs_zero, limbs_zero]; exact RdN.nil⟩
def ResL (B : AH) (v : Value) (r : Int × Int × Int) : Prop := ∃ m1 m2, v = .tuple #[.agg #[.bool (decide (r.1 < 0)), m1], .agg #[.bool (decide (r.2.1 < 0)), m2], .int .i64 r.2.2] ∧ RdN B m1 (limbs r.1.natAbs) ∧ RdN B m2 (limbs r.2.1.natAbs)
theorem IntV.of_eq {B : AH} {b : Bool} {m : Value} {z : Int} (h : IntV B (.agg #[.bool b, m]) z) : b = decide (z < 0) ∧ RdN B m (limbs z.natAbs) := by
  obtain ⟨m', e, hr⟩ := h
  injection e with e
  have e := congrArg Array.toList e
  simp at e
  obtain ⟨e1, e2⟩ := e
  subst e2
  exact ⟨e1, hr⟩
theorem lift_spec {B H : AH} {x y : Dy} {v w : Value} (rx : rightD x = true) (ry : rightD y = true) (hlx : x.mag.length < 8589934592) (hly : y.mag.length < 8589934592) (hx : DyV B v x) (hy : DyV B w y) (hL : Le B H) :
    Ev (fun k _ => rn k 75 [v, w] H) (An B H fun B' v => ResL B' v (liftA x y)) := by
  refine Ev.fn (fun k => f75_eq k _ _ H) ?_
  obtain ⟨mx, rfl, hrx⟩ := hx
  obtain ⟨my, rfl, hry⟩ := hy
  have hS := St.start hL
  have bx := right_bounds rx
  have bY := right_bounds ry
  unfold liftA
  have ex := IntV.of_eq (right_IntV rx hrx)
  have ey := IntV.of_eq (right_IntV ry hry)
  have z := IntV.of_eq (zeroI (B := B))
  repeat (first | refine Ev.s ?_ | refine Ev.newC fun _ _ _ => ?_ | refine Ev.boxC fun _ _ _ => ?_ | refine Ev.stC fun _ _ => ?_ | refine Ev.sc (by omega) ?_ | refine Ev.scg (by omega) ?_)
  by_cases h : x.mag.length = 0
  · rw [decide_eq_true h, if_pos h]
    repeat (first | refine Ev.s ?_ | refine Ev.newC fun _ _ _ => ?_ | refine Ev.boxC fun _ _ _ => ?_ | refine Ev.stC fun _ _ => ?_ | refine Ev.sc (by omega) ?_ | refine Ev.scg (by omega) ?_)
    exact Ev.doneC ⟨_, _, by simp only; rw [← ey.1]; rfl, z.2, ey.2⟩
  rw [decide_eq_false h, if_neg h]
  repeat (first | refine Ev.s ?_ | refine Ev.newC fun _ _ _ => ?_ | refine Ev.boxC fun _ _ _ => ?_ | refine Ev.stC fun _ _ => ?_ | refine Ev.sc (by omega) ?_ | refine Ev.scg (by omega) ?_)
  by_cases h2 : y.mag.length = 0
  · rw [decide_eq_true h2, if_pos h2]
    repeat (first | refine Ev.s ?_ | refine Ev.newC fun _ _ _ => ?_ | refine Ev.boxC fun _ _ _ => ?_ | refine Ev.stC fun _ _ => ?_ | refine Ev.sc (by omega) ?_ | refine Ev.scg (by omega) ?_)
    exact Ev.doneC ⟨_, _, by simp only; rw [← ex.1]; rfl, ex.2, z.2⟩
  rw [decide_eq_false h2, if_neg h2]
  repeat (first | refine Ev.s ?_ | refine Ev.newC fun _ _ _ => ?_ | refine Ev.boxC fun _ _ _ => ?_ | refine Ev.stC fun _ _ => ?_ | refine Ev.sc (by omega) ?_ | refine Ev.scg (by omega) ?_)
  by_cases h3 : y.e < x.e
  · rw [decide_eq_true h3, if_pos h3]
    repeat (first | refine Ev.s ?_ | refine Ev.newC fun _ _ _ => ?_ | refine Ev.boxC fun _ _ _ => ?_ | refine Ev.stC fun _ _ => ?_ | refine Ev.sc (by omega) ?_ | refine Ev.scg (by omega) ?_)
    refine Ev.callD (rup_spec (xs := x.mag) (by omega) (by omega)) fun v1 B1 H1 hm1 hS1 h1 => ?_
    change IntV B1 v1 (dz x * ((2 ^ (x.e - y.e).toNat : Nat) : Int)) at h1
    generalize dz x * ((2 ^ (x.e - y.e).toNat : Nat) : Int) = Z at *
    obtain ⟨w1, rfl, hw1⟩ := h1
    have ey2 := ey.2.mono hm1.mo
    repeat (first | refine Ev.s ?_ | refine Ev.newC fun _ _ _ => ?_ | refine Ev.boxC fun _ _ _ => ?_ | refine Ev.stC fun _ _ => ?_ | refine Ev.sc (by omega) ?_ | refine Ev.scg (by omega) ?_)
    exact Ev.doneC ⟨_, _, by simp only; rw [← ey.1]; rfl, hw1, ey2⟩
  · rw [decide_eq_false h3, if_neg h3]
    repeat (first | refine Ev.s ?_ | refine Ev.newC fun _ _ _ => ?_ | refine Ev.boxC fun _ _ _ => ?_ | refine Ev.stC fun _ _ => ?_ | refine Ev.sc (by omega) ?_ | refine Ev.scg (by omega) ?_)
    refine Ev.callD (rup_spec (xs := y.mag) (by omega) (by omega)) fun v1 B1 H1 hm1 hS1 h1 => ?_
    change IntV B1 v1 (dz y * ((2 ^ (y.e - x.e).toNat : Nat) : Int)) at h1
    generalize dz y * ((2 ^ (y.e - x.e).toNat : Nat) : Int) = Z at *
    obtain ⟨w1, rfl, hw1⟩ := h1
    have ex2 := ex.2.mono hm1.mo
    repeat (first | refine Ev.s ?_ | refine Ev.newC fun _ _ _ => ?_ | refine Ev.boxC fun _ _ _ => ?_ | refine Ev.stC fun _ _ => ?_ | refine Ev.sc (by omega) ?_ | refine Ev.scg (by omega) ?_)
    exact Ev.doneC ⟨_, _, by simp only; rw [← ex.1]; rfl, ex2, hw1⟩
theorem lift_len {x y : Dy} (rx : rightD x = true) (ry : rightD y = true) (hsx : small x.mag) (hsy : small y.mag) (hlx : x.mag.length < 8589934592) (hly : y.mag.length < 8589934592) :
    (limbs (liftA x y).1.natAbs).length < 8589942785 ∧ (limbs (liftA x y).2.1.natAbs).length < 8589942785 ∧ -131072 ≤ (liftA x y).2.2 ∧ (liftA x y).2.2 ≤ 131072 := by
  have bx := right_bounds rx
  have bY := right_bounds ry
  have h1 := dz_len hsx (Nat.le_refl x.mag.length)
  have h2 := dz_len hsy (Nat.le_refl y.mag.length)
  have h3 := dz_shl_len (k := (x.e - y.e).toNat) hsx (Nat.le_refl x.mag.length)
  have h4 := dz_shl_len (k := (y.e - x.e).toNat) hsy (Nat.le_refl y.mag.length)
  have h0 : (limbs (0 : Int).natAbs).length = 0 := by rw [Int.natAbs_zero, limbs_zero]; rfl
  unfold liftA
  split
  · exact ⟨by simp only; omega, by simp only; omega, by simp only; omega, by simp only; omega⟩
  split
  · exact ⟨by simp only; omega, by simp only; omega, by simp only; omega, by simp only; omega⟩
  split
  · exact ⟨by simp only; omega, by simp only; omega, by simp only; omega, by simp only; omega⟩
  · exact ⟨by simp only; omega, by simp only; omega, by simp only; omega, by simp only; omega⟩
end Go.AM.Y
set_option linter.unusedVariables false
set_option linter.unusedSimpArgs false
set_option maxRecDepth 100000
namespace Go.AM.Y
open Go Go.AM Go.Proofs
attribute [local irreducible] run bin un ld st box newV mkS fldA fld ixA ix slc slc3 build buildS cv cvS ap cpy lenV gOp pickV b2 aIf aChk evalK resume iterD Option.bind

theorem lift_cmp {x y : Dy} (ry : rightD y = true) (hsy : small y.mag) (h1 : x.mag.length ≠ 0) (h2 : y.mag.length ≠ 0) : icmp (liftA x y).1 (liftA x y).2.1 = icmp (dz (sumD x (negD y))) 0 := by
  have hn : (negD y).mag.length ≠ 0 ∧ (negD y).e = y.e ∧ dz (negD y) = -dz y := by
    unfold negD
    rw [if_pos ry]
    refine ⟨by simp only; rw [← right_limbs ry hsy]; exact h2, rfl, ?_⟩
    show sg (decide (-(dz y) < 0)) (val (limbs (val y.mag))) = -dz y
    have : val y.mag = (-(dz y)).natAbs := by unfold dz; rw [Int.natAbs_neg, sg_abs]
    rw [val_limbs, this, sg_int]
  unfold liftA sumD
  rw [if_neg h1, if_neg h2, if_neg h1, if_neg hn.1, hn.2.1, hn.2.2]
  have key : ∀ X E A C : Int, X = A - C → icmp A C = icmp (dz (canon X E)) 0 := by
    intro X E A C hX
    obtain ⟨a1, a2⟩ := dz_sign (X := X) (E := E)
    generalize dz (canon X E) = D at *
    unfold icmp
    split <;> (split <;> (try split) <;> (try split) <;> omega)
  by_cases h3 : y.e < x.e
  · rw [if_pos h3, if_neg (by omega)]
    exact key _ _ _ _ (by simp only; omega)
  · rw [if_neg h3]
    by_cases h4 : x.e < y.e
    · rw [if_pos h4]
      exact key _ _ _ _ (by simp only; rw [Int.neg_mul]; omega)
    · rw [if_neg h4]
      have : x.e = y.e := by omega
      rw [this]
      exact key _ _ _ _ (by simp; omega)
theorem rCmp_dspec {B H : AH} {x y : Dy} {v w : Value} (hlx : x.mag.length < 8589934592) (hly : y.mag.length < 8589934592) (hx : DyV B v x) (hy : DyV B w y) (hL : Le B H) :
    Ev (fun k _ => rn k 48 [v, w] H) (An B H fun _ v => v = .int .i64 (cmpD x y)) := by
  refine Ev.fn (fun k => f48_eq k _ _ H) ?_
  have hx' := hx
  have hy' := hy
  obtain ⟨mx, rfl, hrx⟩ := hx
  obtain ⟨my, rfl, hry⟩ := hy
  have hS := St.start hL
  unfold cmpD
  repeat (first | refine Ev.s ?_ | refine Ev.newC fun _ _ _ => ?_ | refine Ev.boxC fun _ _ _ => ?_ | refine Ev.stC fun _ _ => ?_ | refine Ev.sc (by omega) ?_ | refine Ev.scg (by omega) ?_)
  refine Ev.callD (rdRight_spec (by omega) hx') fun v1 B1 H1 hm1 hS1 e1 => ?_
  subst e1
  repeat (first | refine Ev.s ?_ | refine Ev.newC fun _ _ _ => ?_ | refine Ev.boxC fun _ _ _ => ?_ | refine Ev.stC fun _ _ => ?_ | refine Ev.sc (by omega) ?_ | refine Ev.scg (by omega) ?_)
  refine Ev.callD (rdRight_spec (by omega) (hy'.mono hm1.mo)) fun v2 B2 H2 hm2 hS2 e2 => ?_
  subst e2
  cases rx : rightD x with
  | false =>
    repeat (first | refine Ev.s ?_ | refine Ev.newC fun _ _ _ => ?_ | refine Ev.boxC fun _ _ _ => ?_ | refine Ev.stC fun _ _ => ?_ | refine Ev.sc (by omega) ?_ | refine Ev.scg (by omega) ?_)
    rw [if_neg (by simp)]
    exact Ev.doneC rfl
  | true =>
    cases ry : rightD y with
    | false =>
      repeat (first | refine Ev.s ?_ | refine Ev.newC fun _ _ _ => ?_ | refine Ev.boxC fun _ _ _ => ?_ | refine Ev.stC fun _ _ => ?_ | refine Ev.sc (by omega) ?_ | refine Ev.scg (by omega) ?_)
      rw [if_neg (by decide)]
      exact Ev.doneC rfl
    | true =>
      rw [if_pos (show (true && true) = true from rfl)]
      have bx := right_bounds rx
      have bY := right_bounds ry
      have hxx := (hx'.mono hm1.mo).mono hm2.mo
      have hyy := (hy'.mono hm1.mo).mono hm2.mo
      repeat (first | refine Ev.s ?_ | refine Ev.newC fun _ _ _ => ?_ | refine Ev.boxC fun _ _ _ => ?_ | refine Ev.stC fun _ _ => ?_ | refine Ev.sc (by omega) ?_ | refine Ev.scg (by omega) ?_)
      cases hb : (x.neg != y.neg) with
      | true =>
        have h3 : x.neg ≠ y.neg := by simpa using hb
        repeat (first | refine Ev.s ?_ | refine Ev.newC fun _ _ _ => ?_ | refine Ev.boxC fun _ _ _ => ?_ | refine Ev.stC fun _ _ => ?_ | refine Ev.sc (by omega) ?_ | refine Ev.scg (by omega) ?_)
        rw [if_pos (.inl h3)]
        refine Ev.callD (rICmp_spec (xs := x.mag) (ys := y.mag) (by omega) (by omega)) fun v3 B3 H3 hm3 hS3 e3 => ?_
        subst e3
        repeat (first | refine Ev.s ?_ | refine Ev.newC fun _ _ _ => ?_ | refine Ev.boxC fun _ _ _ => ?_ | refine Ev.stC fun _ _ => ?_ | refine Ev.sc (by omega) ?_ | refine Ev.scg (by omega) ?_)
        exact Ev.doneC rfl
      | false =>
        have h3 : x.neg = y.neg := by simpa using hb
        repeat (first | refine Ev.s ?_ | refine Ev.newC fun _ _ _ => ?_ | refine Ev.boxC fun _ _ _ => ?_ | refine Ev.stC fun _ _ => ?_ | refine Ev.sc (by omega) ?_ | refine Ev.scg (by omega) ?_)
        by_cases h4 : x.mag.length = 0
        · rw [decide_eq_true h4, if_pos (.inr (.inl h4))]
          repeat (first | refine Ev.s ?_ | refine Ev.newC fun _ _ _ => ?_ | refine Ev.boxC fun _ _ _ => ?_ | refine Ev.stC fun _ _ => ?_ | refine Ev.sc (by omega) ?_ | refine Ev.scg (by omega) ?_)
          refine Ev.callD (rICmp_spec (xs := x.mag) (ys := y.mag) (by omega) (by omega)) fun v3 B3 H3 hm3 hS3 e3 => ?_
          subst e3
          repeat (first | refine Ev.s ?_ | refine Ev.newC fun _ _ _ => ?_ | refine Ev.boxC fun _ _ _ => ?_ | refine Ev.stC fun _ _ => ?_ | refine Ev.sc (by omega) ?_ | refine Ev.scg (by omega) ?_)
          exact Ev.doneC rfl
        rw [decide_eq_false h4]
        repeat (first | refine Ev.s ?_ | refine Ev.newC fun _ _ _ => ?_ | refine Ev.boxC fun _ _ _ => ?_ | refine Ev.stC fun _ _ => ?_ | refine Ev.sc (by omega) ?_ | refine Ev.scg (by omega) ?_)
        by_cases h5 : y.mag.length = 0
        · rw [decide_eq_true h5, if_pos (.inr (.inr h5))]
          repeat (first | refine Ev.s ?_ | refine Ev.newC fun _ _ _ => ?_ | refine Ev.boxC fun _ _ _ => ?_ | refine Ev.stC fun _ _ => ?_ | refine Ev.sc (by omega) ?_ | refine Ev.scg (by omega) ?_)
          refine Ev.callD (rICmp_spec (xs := x.mag) (ys := y.mag) (by omega) (by omega)) fun v3 B3 H3 hm3 hS3 e3 => ?_
          subst e3
          repeat (first | refine Ev.s ?_ | refine Ev.newC fun _ _ _ => ?_ | refine Ev.boxC fun _ _ _ => ?_ | refine Ev.stC fun _ _ => ?_ | refine Ev.sc (by omega) ?_ | refine Ev.scg (by omega) ?_)
          exact Ev.doneC rfl
        rw [decide_eq_false h5, if_neg (by simp [h3, h4, h5])]
        repeat (first | refine Ev.s ?_ | refine Ev.newC fun _ _ _ => ?_ | refine Ev.boxC fun _ _ _ => ?_ | refine Ev.stC fun _ _ => ?_ | refine Ev.sc (by omega) ?_ | refine Ev.scg (by omega) ?_)
        refine Ev.callD (rdsize_spec (d := x) (right_fit rx (by omega)) hxx) fun v5 B5 H5 hm5 hS5 e5 => ?_
        subst e5
        repeat (first | refine Ev.s ?_ | refine Ev.newC fun _ _ _ => ?_ | refine Ev.boxC fun _ _ _ => ?_ | refine Ev.stC fun _ _ => ?_ | refine Ev.sc (by omega) ?_ | refine Ev.scg (by omega) ?_)
        refine Ev.callD (rdsize_spec (d := y) (right_fit ry (by omega)) (hyy.mono hm5.mo)) fun v6 B6 H6 hm6 hS6 e6 => ?_
        subst e6
        repeat (first | refine Ev.s ?_ | refine Ev.newC fun _ _ _ => ?_ | refine Ev.boxC fun _ _ _ => ?_ | refine Ev.stC fun _ _ => ?_ | refine Ev.sc (by omega) ?_ | refine Ev.scg (by omega) ?_)
        by_cases h6 : x.e + (nbits (val x.mag) : Int) ≠ y.e + (nbits (val y.mag) : Int)
        · rw [decide_eq_true h6, if_pos h6]
          repeat (first | refine Ev.s ?_ | refine Ev.newC fun _ _ _ => ?_ | refine Ev.boxC fun _ _ _ => ?_ | refine Ev.stC fun _ _ => ?_ | refine Ev.sc (by omega) ?_ | refine Ev.scg (by omega) ?_)
          refine Ev.callD (rdsize_spec (d := x) (right_fit rx (by omega)) ((hxx.mono hm5.mo).mono hm6.mo)) fun v7 B7 H7 hm7 hS7 e7 => ?_
          subst e7
          repeat (first | refine Ev.s ?_ | refine Ev.newC fun _ _ _ => ?_ | refine Ev.boxC fun _ _ _ => ?_ | refine Ev.stC fun _ _ => ?_ | refine Ev.sc (by omega) ?_ | refine Ev.scg (by omega) ?_)
          refine Ev.callD (rdsize_spec (d := y) (right_fit ry (by omega)) (((hyy.mono hm5.mo).mono hm6.mo).mono hm7.mo)) fun v8 B8 H8 hm8 hS8 e8 => ?_
          subst e8
          repeat (first | refine Ev.s ?_ | refine Ev.newC fun _ _ _ => ?_ | refine Ev.boxC fun _ _ _ => ?_ | refine Ev.stC fun _ _ => ?_ | refine Ev.sc (by omega) ?_ | refine Ev.scg (by omega) ?_)
          by_cases h7 : decide (x.e + (nbits (val x.mag) : Int) < y.e + (nbits (val y.mag) : Int)) ≠ x.neg
          · rw [if_pos h7, show (decide (x.e + (nbits (val x.mag) : Int) < y.e + (nbits (val y.mag) : Int)) == x.neg) = false by simpa using h7]
            repeat (first | refine Ev.s ?_ | refine Ev.newC fun _ _ _ => ?_ | refine Ev.boxC fun _ _ _ => ?_ | refine Ev.stC fun _ _ => ?_ | refine Ev.sc (by omega) ?_ | refine Ev.scg (by omega) ?_)
            exact Ev.doneC rfl
          · rw [if_neg h7, show (decide (x.e + (nbits (val x.mag) : Int) < y.e + (nbits (val y.mag) : Int)) == x.neg) = true by simpa using h7]
            repeat (first | refine Ev.s ?_ | refine Ev.newC fun _ _ _ => ?_ | refine Ev.boxC fun _ _ _ => ?_ | refine Ev.stC fun _ _ => ?_ | refine Ev.sc (by omega) ?_ | refine Ev.scg (by omega) ?_)
            exact Ev.doneC rfl
        · rw [decide_eq_false h6, if_neg h6, ← lift_cmp ry hry.sm h4 h5]
          repeat (first | refine Ev.s ?_ | refine Ev.newC fun _ _ _ => ?_ | refine Ev.boxC fun _ _ _ => ?_ | refine Ev.stC fun _ _ => ?_ | refine Ev.sc (by omega) ?_ | refine Ev.scg (by omega) ?_)
          obtain ⟨l1, l2, l3, l4⟩ := lift_len rx ry hrx.sm hry.sm hlx hly
          refine Ev.callD (lift_spec rx ry hlx hly ((hxx.mono hm5.mo).mono hm6.mo) ((hyy.mono hm5.mo).mono hm6.mo)) fun v7 B7 H7 hm7 hS7 h7 => ?_
          obtain ⟨a1, a2, rfl, ha1, ha2⟩ := h7
          generalize liftA x y = r at *
          repeat (first | refine Ev.s ?_ | refine Ev.newC fun _ _ _ => ?_ | refine Ev.boxC fun _ _ _ => ?_ | refine Ev.stC fun _ _ => ?_ | refine Ev.sc (by omega) ?_ | refine Ev.scg (by omega) ?_)
          refine Ev.callD (rICmp_spec (xs := limbs r.1.natAbs) (ys := limbs r.2.1.natAbs) (by omega) (by omega)) fun v9 B9 H9 hm9 hS9 e9 => ?_
          subst e9
          rw [val_limbs, val_limbs, sg_int, sg_int]
          repeat (first | refine Ev.s ?_ | refine Ev.newC fun _ _ _ => ?_ | refine Ev.boxC fun _ _ _ => ?_ | refine Ev.stC fun _ _ => ?_ | refine Ev.sc (by omega) ?_ | refine Ev.scg (by omega) ?_)
          exact Ev.doneC rfl
end Go.AM.Y
set_option linter.unusedVariables false
set_option linter.unusedSimpArgs false
set_option maxRecDepth 100000
namespace Go.AM.Y
open Go Go.AM Go.Proofs
attribute [local irreducible] run bin un ld st box newV mkS fldA fld ixA ix slc slc3 build buildS cv cvS ap cpy lenV gOp pickV b2 aIf aChk evalK resume iterD Option.bind

abbrev Dd (x : Dy) (m : Value) : Value := .agg #[.bool x.neg, m, .int .i64 x.e]
def ResD (B : AH) (v : Value) (r : Dy × Int) : Prop := ∃ m, v = .tuple #[Dd r.1 m, .int .i64 r.2] ∧ RdN B m r.1.mag
theorem ResV.d {B : AH} {v : Value} {r : Dy × Int} (h : ResV B v r.1 r.2) : ResD B v r := by obtain ⟨x, rfl, m, rfl, hr⟩ := h; exact ⟨m, rfl, hr⟩
def cutT (x : Dy) (n : Nat) : Dy := ⟨x.neg, x.mag.take n, x.e⟩
theorem lawcut_spec {B H : AH} {d : Dy} {v : Value} {n : Nat} (hn : n < 1000) (hl : d.mag.length < 9223372036854775808) (hx : DyV B v d) (hL : Le B H) :
    Ev (fun k _ => rn k 20 [v, i64 n] H) (An B H fun B' v => ∃ m, v = Dd (cutT d n) m ∧ RdN B' m (cutT d n).mag) := by
  refine Ev.fn (fun k => f20_eq k _ _ H) ?_
  obtain ⟨m, rfl, hr⟩ := hx
  have hS := St.start hL
  have htk : d.mag.take (min d.mag.length n) = (cutT d n).mag := by
    show _ = d.mag.take n
    by_cases h6 : d.mag.length ≤ n
    · rw [Nat.min_eq_left h6, List.take_length, List.take_of_length_le h6]
    · rw [Nat.min_eq_right (by omega)]
  repeat (first | refine Ev.s ?_ | refine Ev.newC fun _ _ _ => ?_ | refine Ev.boxC fun _ _ _ => ?_ | refine Ev.stC fun _ _ => ?_ | refine Ev.sc (by omega) ?_ | refine Ev.scg (by omega) ?_)
  refine Ev.uptoC (min d.mag.length n) (by split <;> omega) (by omega) fun w hw => ?_
  rw [htk] at hw
  repeat (first | refine Ev.s ?_ | refine Ev.newC fun _ _ _ => ?_ | refine Ev.boxC fun _ _ _ => ?_ | refine Ev.stC fun _ _ => ?_ | refine Ev.sc (by omega) ?_ | refine Ev.scg (by omega) ?_)
  exact Ev.doneC ⟨w, rfl, hw⟩
theorem lawcut_D {B H : AH} {d : Dy} {m : Value} {n : Nat} [hx : RdT B m d.mag] (hn : n < 1000) (hl : d.mag.length < 9223372036854775808) (hL : Le B H) :
    Ev (fun k _ => rn k 20 [Dd d m, i64 n] H) (An B H fun B' v => ∃ m, v = Dd (cutT d n) m ∧ RdN B' m (cutT d n).mag) := lawcut_spec hn hl ⟨m, rfl, hx.rd⟩ hL
section
variable {B H : AH} {x y : Dy} {m m2 : Value}
theorem same_D [hx : RdT B m x.mag] [hy : RdT B m2 x.mag] (hlx : x.mag.length < 34359738368) (hL : Le B H) : Ev (fun k _ => rn k 19 [Dd x m, Dd x m2] H) (An B H fun _ v => v = .bool true) :=
  An.imp (same_spec hlx ⟨m, rfl, hx.rd⟩ ⟨m2, rfl, hy.rd⟩ hL) fun B' v h => by rw [h, decide_eq_true ⟨rfl, rfl, rfl⟩]
end
end Go.AM.Y
set_option linter.unusedVariables false
set_option linter.unusedSimpArgs false
set_option maxRecDepth 100000
namespace Go.AM.Y
open Go Go.AM Go.Proofs
attribute [local irreducible] run bin un ld st box newV mkS fldA fld ixA ix slc slc3 build buildS cv cvS ap cpy lenV gOp pickV b2 aIf aChk evalK resume iterD Option.bind

section
variable {B H : AH} {x y : Dy} {m m2 : Value}
def ResM (B : AH) (v : Value) (r : Dy × Bool) : Prop := ∃ m, v = .tuple #[Dd r.1 m, .bool r.2] ∧ RdN B m r.1.mag
def ValD (B : AH) (v : Value) (r : Dy) : Prop := ∃ m, v = Dd r m ∧ RdN B m r.mag
theorem ResB.d {v : Value} {r : Dy × Bool} (h : ResB B v r.1 r.2) : ResM B v r := by obtain ⟨x, rfl, m, rfl, hr⟩ := h; exact ⟨m, rfl, hr⟩
theorem make_D {e : Int} [hx : RdT B m x.mag] (hl : x.mag.length < 34359738368) (hL : Le B H) : Ev (fun k _ => rn k 39 [.agg #[.bool x.neg, m], .int .i64 e] H) (An B H fun B' v => ResM B' v (makeR (dz x) e)) :=
  An.imp (Make_dspec hl hx.rd hL) fun B' v h => h.d
theorem rmake_D {e : Int} [hx : RdT B m x.mag] (hl : x.mag.length < 34359738368) (hL : Le B H) : Ev (fun k _ => rn k 40 [.agg #[.bool x.neg, m], .int .i64 e] H) (An B H fun B' v => ResM B' v (makeR (dz x) e)) :=
  An.imp (rMake_dspec (xs := x.mag) hl hL) fun B' v h => h.d
theorem neg_D [hx : RdT B m x.mag] (hl : x.mag.length < 34359738368) (hL : Le B H) : Ev (fun k _ => rn k 38 [Dd x m] H) (An B H fun B' v => ValD B' v (negD x)) :=
  An.imp (Neg_dspec hl ⟨m, rfl, hx.rd⟩ hL) fun B' v h => h
theorem rneg_D [hx : RdT B m x.mag] (hl : x.mag.length < 34359738368) (hL : Le B H) : Ev (fun k _ => rn k 45 [Dd x m] H) (An B H fun B' v => ValD B' v (negD x)) :=
  An.imp (rNeg_dspec hl ⟨m, rfl, hx.rd⟩ hL) fun B' v h => h
theorem size_D [hx : RdT B m x.mag] (hl : x.mag.length < 34359738368) (hL : Le B H) : Ev (fun k _ => rn k 46 [Dd x m] H) (An B H fun _ v => v = sizeR x) :=
  An.imp (Size_dspec hl ⟨m, rfl, hx.rd⟩ hL) fun B' v h => h
theorem rsize_D [hx : RdT B m x.mag] (hl : x.mag.length < 34359738368) (hL : Le B H) : Ev (fun k _ => rn k 47 [Dd x m] H) (An B H fun _ v => v = sizeR x) :=
  An.imp (rSize_dspec hl ⟨m, rfl, hx.rd⟩ hL) fun B' v h => h
theorem cmp_D [hx : RdT B m x.mag] [hy : RdT B m2 y.mag] (hlx : x.mag.length < 8589934592) (hly : y.mag.length < 8589934592) (hL : Le B H) : Ev (fun k _ => rn k 26 [Dd x m, Dd y m2] H) (An B H fun B' v => v = .int .i64 (cmpD x y)) :=
  An.imp (Cmp_dspec hlx hly ⟨m, rfl, hx.rd⟩ ⟨m2, rfl, hy.rd⟩ hL) fun B' v h => h
theorem rcmp_D [hx : RdT B m x.mag] [hy : RdT B m2 y.mag] (hlx : x.mag.length < 8589934592) (hly : y.mag.length < 8589934592) (hL : Le B H) : Ev (fun k _ => rn k 48 [Dd x m, Dd y m2] H) (An B H fun B' v => v = .int .i64 (cmpD x y)) :=
  An.imp (rCmp_dspec hlx hly ⟨m, rfl, hx.rd⟩ ⟨m2, rfl, hy.rd⟩ hL) fun B' v h => h
theorem right_D [hx : RdT B m x.mag] (hl : x.mag.length < 9223372036854775808) (hL : Le B H) : Ev (fun k _ => rn k 37 [Dd x m] H) (An B H fun _ v => v = .bool (rightD x)) :=
  dRight_spec hl ⟨m, rfl, hx.rd⟩ hL
theorem rright_D [hx : RdT B m x.mag] (hl : x.mag.length < 9223372036854775808) (hL : Le B H) : Ev (fun k _ => rn k 49 [Dd x m] H) (An B H fun _ v => v = .bool (rightD x)) :=
  rdRight_spec hl ⟨m, rfl, hx.rd⟩ hL
end
theorem makeR_len {z e : Int} {l : Nat} (hl : (limbs z.natAbs).length ≤ l) (h : l < 34359738368) : (makeR z e).1.mag.length < 34359738368 := by
  unfold makeR
  split
  · split
    · exact (canon_fit hl h (by omega)).len
    · simp
  · simp
theorem makes_spec {B H : AH} {d f : Dy} {v w : Value} {n e : Int} (hl : d.mag.length < 9223372036854775808) (hl2 : f.mag.length < 9223372036854775808) (hn : -9223372036854775808 ≤ n ∧ n < 9223372036854775808)
    (hx : DyV B v d) (hy : DyV B w f) (hL : Le B H) : Ev (fun k _ => rn k 9 [v, w, .int .i64 n, .int .i64 e] H) (An B H fun _ v => v = .bool true) := by
  refine Ev.fn (fun k => f9_eq k _ _ _ _ H) ?_
  obtain ⟨m1, rfl, hr1⟩ := hx
  obtain ⟨m2, rfl, hr2⟩ := hy
  have hS := St.start hL
  repeat (first | refine Ev.s ?_ | refine Ev.newC fun _ _ _ => ?_ | refine Ev.boxC fun _ _ _ => ?_ | refine Ev.stC fun _ _ => ?_ | refine Ev.sc (by omega) ?_ | refine Ev.scg (by omega) ?_)
  refine Ev.callD examples_spec fun v1 B1 H1 _ hS1 h1 => ?_
  subst h1
  repeat (first | refine Ev.s ?_ | refine Ev.newC fun _ _ _ => ?_ | refine Ev.boxC fun _ _ _ => ?_ | refine Ev.stC fun _ _ => ?_ | refine Ev.sc (by omega) ?_ | refine Ev.scg (by omega) ?_)
  refine Ev.callD (lawcut_D (d := d) (n := 20) (by decide) hl) fun v2 B2 H2 _ hS2 h2 => ?_
  obtain ⟨c1, rfl, hc1⟩ := h2
  have la : (cutT d 20).mag.length ≤ 20 := by show (d.mag.take 20).length ≤ 20; rw [List.length_take]; omega
  generalize cutT d 20 = a at *
  repeat (first | refine Ev.s ?_ | refine Ev.newC fun _ _ _ => ?_ | refine Ev.boxC fun _ _ _ => ?_ | refine Ev.stC fun _ _ => ?_ | refine Ev.sc (by omega) ?_ | refine Ev.scg (by omega) ?_)
  refine Ev.callD (lawcut_D (d := f) (n := 20) (by decide) hl2) fun v3 B3 H3 _ hS3 h3 => ?_
  obtain ⟨c2, rfl, hc2⟩ := h3
  have lb : (cutT f 20).mag.length ≤ 20 := by show (f.mag.take 20).length ≤ 20; rw [List.length_take]; omega
  generalize cutT f 20 = b at *
  repeat (first | refine Ev.s ?_ | refine Ev.newC fun _ _ _ => ?_ | refine Ev.boxC fun _ _ _ => ?_ | refine Ev.stC fun _ _ => ?_ | refine Ev.sc (by omega) ?_ | refine Ev.scg (by omega) ?_)
  have q1 : (makeR (dz a) e).1.mag.length < 34359738368 := makeR_len (dz_len hc1.sm la) (by decide)
  have q2 : (canon n 0).mag.length < 34359738368 := (canon_fit (l := 2) (limbs_length_le (by omega)) (by decide) (by decide)).len
  have q3 : (makeR 1 e).1.mag.length < 34359738368 := makeR_len (l := 1) (limbs_length_le (by decide)) (by decide)
  have q4 := negD_len hc1.sm la
  refine Ev.callD (make_D (x := a) (by omega)) fun v4 B4 H4 _ hS4 h4 => ?_
  obtain ⟨p1, rfl, hp1⟩ := h4
  repeat (first | refine Ev.s ?_ | refine Ev.newC fun _ _ _ => ?_ | refine Ev.boxC fun _ _ _ => ?_ | refine Ev.stC fun _ _ => ?_ | refine Ev.sc (by omega) ?_ | refine Ev.scg (by omega) ?_)
  refine Ev.callD (rmake_D (x := a) (by omega)) fun v5 B5 H5 _ hS5 h5 => ?_
  obtain ⟨p2, rfl, hp2⟩ := h5
  generalize makeR (dz a) e = r1 at *
  repeat (first | refine Ev.s ?_ | refine Ev.newC fun _ _ _ => ?_ | refine Ev.boxC fun _ _ _ => ?_ | refine Ev.stC fun _ _ => ?_ | refine Ev.sc (by omega) ?_ | refine Ev.scg (by omega) ?_)
  refine Ev.callD (same_D (x := r1.1) q1) fun v20 B20 H20 _ hS20 h20 => ?_
  subst h20
  repeat (first | refine Ev.s ?_ | refine Ev.newC fun _ _ _ => ?_ | refine Ev.boxC fun _ _ _ => ?_ | refine Ev.stC fun _ _ => ?_ | refine Ev.sc (by omega) ?_ | refine Ev.scg (by omega) ?_)
  refine Ev.callD (From_dspec hn) fun v6 B6 H6 _ hS6 h6 => ?_
  obtain ⟨p3, rfl, hp3⟩ := h6
  refine Ev.callD (rFrom_dspec hn) fun v7 B7 H7 _ hS7 h7 => ?_
  obtain ⟨p4, rfl, hp4⟩ := h7
  generalize canon n 0 = r2 at *
  refine Ev.callD (same_D (x := r2) q2) fun v21 B21 H21 _ hS21 h21 => ?_
  subst h21
  repeat (first | refine Ev.s ?_ | refine Ev.newC fun _ _ _ => ?_ | refine Ev.boxC fun _ _ _ => ?_ | refine Ev.stC fun _ _ => ?_ | refine Ev.sc (by omega) ?_ | refine Ev.scg (by omega) ?_)
  refine Ev.callD Half_dspec fun v8 B8 H8 _ hS8 h8 => ?_
  obtain ⟨p5, rfl, hp5⟩ := h8
  refine Ev.callD rHalf_dspec fun v9 B9 H9 _ hS9 h9 => ?_
  obtain ⟨p6, rfl, hp6⟩ := h9
  generalize (makeR 1 e).1 = r3 at *
  refine Ev.callD (same_D (x := r3) q3) fun v22 B22 H22 _ hS22 h22 => ?_
  subst h22
  repeat (first | refine Ev.s ?_ | refine Ev.newC fun _ _ _ => ?_ | refine Ev.boxC fun _ _ _ => ?_ | refine Ev.stC fun _ _ => ?_ | refine Ev.sc (by omega) ?_ | refine Ev.scg (by omega) ?_)
  refine Ev.callD (neg_D (x := a) (by omega)) fun v10 B10 H10 _ hS10 h10 => ?_
  obtain ⟨p7, rfl, hp7⟩ := h10
  repeat (first | refine Ev.s ?_ | refine Ev.newC fun _ _ _ => ?_ | refine Ev.boxC fun _ _ _ => ?_ | refine Ev.stC fun _ _ => ?_ | refine Ev.sc (by omega) ?_ | refine Ev.scg (by omega) ?_)
  refine Ev.callD (rneg_D (x := a) (by omega)) fun v11 B11 H11 _ hS11 h11 => ?_
  obtain ⟨p8, rfl, hp8⟩ := h11
  generalize negD a = r4 at *
  refine Ev.callD (same_D (x := r4) (by omega)) fun v23 B23 H23 _ hS23 h23 => ?_
  subst h23
  repeat (first | refine Ev.s ?_ | refine Ev.newC fun _ _ _ => ?_ | refine Ev.boxC fun _ _ _ => ?_ | refine Ev.stC fun _ _ => ?_ | refine Ev.sc (by omega) ?_ | refine Ev.scg (by omega) ?_)
  refine Ev.callD (size_D (x := a) (by omega)) fun v12 B12 H12 _ hS12 h12 => ?_
  obtain ⟨s1, s2, hs⟩ : ∃ s1 s2, sizeR a = .tuple #[.int .i64 s1, .bool s2] := by unfold sizeR; split <;> exact ⟨_, _, rfl⟩
  rw [hs] at h12
  subst h12
  repeat (first | refine Ev.s ?_ | refine Ev.newC fun _ _ _ => ?_ | refine Ev.boxC fun _ _ _ => ?_ | refine Ev.stC fun _ _ => ?_ | refine Ev.sc (by omega) ?_ | refine Ev.scg (by omega) ?_)
  refine Ev.callD (rsize_D (x := a) (by omega)) fun v13 B13 H13 _ hS13 h13 => ?_
  rw [hs] at h13
  subst h13
  repeat (first | refine Ev.s ?_ | refine Ev.newC fun _ _ _ => ?_ | refine Ev.boxC fun _ _ _ => ?_ | refine Ev.stC fun _ _ => ?_ | refine Ev.sc (by omega) ?_ | refine Ev.scg (by omega) ?_)
  rw [beq_self_eq_true]
  repeat (first | refine Ev.s ?_ | refine Ev.newC fun _ _ _ => ?_ | refine Ev.boxC fun _ _ _ => ?_ | refine Ev.stC fun _ _ => ?_ | refine Ev.sc (by omega) ?_ | refine Ev.scg (by omega) ?_)
  rw [beq_self_eq_true]
  repeat (first | refine Ev.s ?_ | refine Ev.newC fun _ _ _ => ?_ | refine Ev.boxC fun _ _ _ => ?_ | refine Ev.stC fun _ _ => ?_ | refine Ev.sc (by omega) ?_ | refine Ev.scg (by omega) ?_)
  refine Ev.callD (cmp_D (x := a) (y := b) (by omega) (by omega)) fun v14 B14 H14 _ hS14 h14 => ?_
  subst h14
  repeat (first | refine Ev.s ?_ | refine Ev.newC fun _ _ _ => ?_ | refine Ev.boxC fun _ _ _ => ?_ | refine Ev.stC fun _ _ => ?_ | refine Ev.sc (by omega) ?_ | refine Ev.scg (by omega) ?_)
  refine Ev.callD (rcmp_D (x := a) (y := b) (by omega) (by omega)) fun v15 B15 H15 _ hS15 h15 => ?_
  subst h15
  repeat (first | refine Ev.s ?_ | refine Ev.newC fun _ _ _ => ?_ | refine Ev.boxC fun _ _ _ => ?_ | refine Ev.stC fun _ _ => ?_ | refine Ev.sc (by omega) ?_ | refine Ev.scg (by omega) ?_)
  refine Ev.callD (right_D (x := d) (by omega)) fun v16 B16 H16 _ hS16 h16 => ?_
  subst h16
  repeat (first | refine Ev.s ?_ | refine Ev.newC fun _ _ _ => ?_ | refine Ev.boxC fun _ _ _ => ?_ | refine Ev.stC fun _ _ => ?_ | refine Ev.sc (by omega) ?_ | refine Ev.scg (by omega) ?_)
  refine Ev.callD (rright_D (x := d) (by omega)) fun v17 B17 H17 _ hS17 h17 => ?_
  subst h17
  repeat (first | refine Ev.s ?_ | refine Ev.newC fun _ _ _ => ?_ | refine Ev.boxC fun _ _ _ => ?_ | refine Ev.stC fun _ _ => ?_ | refine Ev.sc (by omega) ?_ | refine Ev.scg (by omega) ?_)
  rw [beq_self_eq_true]
  exact Ev.doneC rfl
theorem coreDyadMakes (H : AH) (vs : List Value) (x : ((Bool × List Int × Unit) × Int × Unit) × ((Bool × List Int × Unit) × Int × Unit) × Int × Int × Unit) (hK : ∃ v vs', vs = v :: vs' ∧ KvS KDy H x.1 v ∧ ∃ v2 vs2, vs' = v2 :: vs2 ∧ KvS KDy H x.2.1 v2 ∧ ∃ v3 vs3, vs2 = v3 :: vs3 ∧ KvC (Kn.int .i64) H x.2.2.1 v3 ∧ ∃ v4 vs4, vs3 = v4 :: vs4 ∧ KvC (Kn.int .i64) H x.2.2.2.1 v4 ∧ vs4 = [])
    (hG : GDy x.1 ∧ GDy x.2.1 ∧ (Lit.int .i64 x.2.2.1).wf = true ∧ (Lit.int .i64 x.2.2.2.1).wf = true ∧ True) : Ev (fun k _ => rn k 9 vs H) (fun r => r.1 = .bool true) := by
  obtain ⟨v, _, rfl, h1, v2, _, rfl, h2, v3, _, rfl, h3, v4, _, rfl, h4, rfl⟩ := hK
  obtain ⟨g1, g2, g3, g4, _⟩ := hG
  obtain ⟨a1, a2, a3⟩ := dy_open h1 g1
  obtain ⟨b1, b2, b3⟩ := dy_open h2 g2
  have h3 : [v3] = [.int .i64 x.2.2.1] := h3
  cases h3
  have h4 : [v4] = [.int .i64 x.2.2.2.1] := h4
  cases h4
  exact An.tt (makes_spec a2 b2 (wf_i64 g3) a1 b1 ⟨Mo.refl H⟩)
end Go.AM.Y
