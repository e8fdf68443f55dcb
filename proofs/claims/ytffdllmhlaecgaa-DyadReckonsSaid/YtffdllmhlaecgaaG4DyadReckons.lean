/-
  Facts of the abstract evaluator and of the functions that the law reaches, part 4. Conditions: none.
-/
import Derived.Test.YtffdllmhlaecgaaG3DyadReckons
set_option linter.unusedVariables false
set_option linter.unusedSimpArgs false
set_option linter.unnecessarySimpa false
set_option exponentiation.threshold 200000
set_option maxRecDepth 100000
set_option linter.unusedVariables false
set_option linter.unusedSimpArgs false
set_option maxRecDepth 100000
namespace Go.AM.Y
open Go Go.AM Go.Proofs
attribute [local irreducible] run bin un ld st box newV mkS fldA fld ixA ix slc slc3 build buildS cv cvS ap cpy lenV gOp pickV b2 aIf aChk evalK resume iterD Option.bind

theorem rightD_zero {x : Dy} (h : rightD x = true) (h0 : x.mag.length = 0) : x = zeroDy := by
  unfold rightD rightI at h
  rw [Bool.and_eq_true] at h
  obtain ⟨ha, hb⟩ := h
  simp only [h0, if_true] at ha hb
  have hm : x.mag = [] := List.length_eq_zero_iff.mp h0
  obtain ⟨n, m, e⟩ := x
  simp only at hm ha hb
  subst hm
  cases n with
  | false => rw [show e = 0 by simpa using hb]
  | true => cases ha
theorem negD_rightD {y : Dy} (hs : small y.mag) (h : rightD y = true) : rightD (negD y) = true := by
  by_cases h0 : y.mag.length = 0
  · have := rightD_zero h h0
    subst this
    unfold negD
    rw [if_pos h]
    have e1 : val zeroDy.mag = 0 := rfl
    have e2 : dz zeroDy = 0 := rfl
    rw [e1, e2, limbs_zero]
    rfl
  · have hm := right_limbs h hs
    have e : negD y = ⟨decide (-(dz y) < 0), y.mag, y.e⟩ := by unfold negD; rw [if_pos h, ← hm]
    rw [e]
    unfold rightD rightI at h ⊢
    simp only [h0, if_false] at h ⊢
    exact h
theorem rSub_dspec {B H : AH} {x y : Dy} {v w : Value} (hlx : x.mag.length < 8589934592) (hly : y.mag.length < 8589934592) (hx : DyV B v x) (hy : DyV B w y) (hL : Le B H) :
    Ev (fun k _ => rn k 30 [v, w] H) (An B H fun B' v => ResV B' v (subR x y).1 (subR x y).2) := by
  refine Ev.fn (fun k => f30_eq k _ _ H) ?_
  have hx' := hx
  have hy' := hy
  obtain ⟨mx, rfl, hrx⟩ := hx
  obtain ⟨my, rfl, hry⟩ := hy
  have hS := St.start hL
  unfold subR
  repeat (first | refine Ev.s ?_ | refine Ev.newC fun _ _ _ => ?_ | refine Ev.boxC fun _ _ _ => ?_ | refine Ev.stC fun _ _ => ?_ | refine Ev.sc (by omega) ?_ | refine Ev.scg (by omega) ?_)
  refine Ev.callD (rdRight_spec (by omega) hy') fun v1 B1 H1 hm1 hS1 e1 => ?_
  subst e1
  cases ry : rightD y with
  | false =>
    repeat (first | refine Ev.s ?_ | refine Ev.newC fun _ _ _ => ?_ | refine Ev.boxC fun _ _ _ => ?_ | refine Ev.stC fun _ _ => ?_ | refine Ev.sc (by omega) ?_ | refine Ev.scg (by omega) ?_)
    rw [if_neg (by simp)]
    exact Ev.doneC ⟨_, rfl, zeroDyV⟩
  | true =>
    repeat (first | refine Ev.s ?_ | refine Ev.newC fun _ _ _ => ?_ | refine Ev.boxC fun _ _ _ => ?_ | refine Ev.stC fun _ _ => ?_ | refine Ev.sc (by omega) ?_ | refine Ev.scg (by omega) ?_)
    refine Ev.callD (rNeg_dspec (by omega) (hy'.mono hm1.mo)) fun v2 B2 H2 hm2 hS2 h2 => ?_
    have hny := negD_len (l := y.mag.length) hry.sm (Nat.le_refl _)
    repeat (first | refine Ev.s ?_ | refine Ev.newC fun _ _ _ => ?_ | refine Ev.boxC fun _ _ _ => ?_ | refine Ev.stC fun _ _ => ?_ | refine Ev.sc (by omega) ?_ | refine Ev.scg (by omega) ?_)
    refine Ev.callD (rAdd_dspec hlx (by omega) ((hx'.mono hm1.mo).mono hm2.mo) h2) fun v3 B3 H3 hm3 hS3 h3 => ?_
    have e : addR x (negD y) = if (rightD x && true) = true then toldR 0 (sumD x (negD y)) else (zeroDy, 1) := by
      unfold addR; rw [negD_rightD hry.sm ry]
    rw [e] at h3
    obtain ⟨o, rfl, mo, rfl, hro⟩ := h3
    repeat (first | refine Ev.s ?_ | refine Ev.newC fun _ _ _ => ?_ | refine Ev.boxC fun _ _ _ => ?_ | refine Ev.stC fun _ _ => ?_ | refine Ev.sc (by omega) ?_ | refine Ev.scg (by omega) ?_)
    exact Ev.doneC ⟨_, rfl, mo, rfl, hro⟩
theorem rMul_dspec {B H : AH} {x y : Dy} {v w : Value} (hlx : x.mag.length < 8589934592) (hly : y.mag.length < 8589934592) (hx : DyV B v x) (hy : DyV B w y) (hL : Le B H) :
    Ev (fun k _ => rn k 32 [v, w] H) (An B H fun B' v => ResV B' v (mulR x y).1 (mulR x y).2) := by
  refine Ev.fn (fun k => f32_eq k _ _ H) ?_
  have hx' := hx
  have hy' := hy
  obtain ⟨mx, rfl, hrx⟩ := hx
  obtain ⟨my, rfl, hry⟩ := hy
  have hS := St.start hL
  unfold mulR
  repeat (first | refine Ev.s ?_ | refine Ev.newC fun _ _ _ => ?_ | refine Ev.boxC fun _ _ _ => ?_ | refine Ev.stC fun _ _ => ?_ | refine Ev.sc (by omega) ?_ | refine Ev.scg (by omega) ?_)
  refine Ev.callD (rdRight_spec (by omega) hx') fun v1 B1 H1 hm1 hS1 e1 => ?_
  subst e1
  repeat (first | refine Ev.s ?_ | refine Ev.newC fun _ _ _ => ?_ | refine Ev.boxC fun _ _ _ => ?_ | refine Ev.stC fun _ _ => ?_ | refine Ev.sc (by omega) ?_ | refine Ev.scg (by omega) ?_)
  refine Ev.callD (rdRight_spec (by omega) (hy'.mono hm1.mo)) fun v2 B2 H2 hm2 hS2 e2 => ?_
  subst e2
  cases rx : rightD x with
  | false =>
    repeat (first | refine Ev.s ?_ | refine Ev.newC fun _ _ _ => ?_ | refine Ev.boxC fun _ _ _ => ?_ | refine Ev.stC fun _ _ => ?_ | refine Ev.sc (by omega) ?_ | refine Ev.scg (by omega) ?_)
    rw [if_neg (by simp)]
    exact Ev.doneC ⟨_, rfl, zeroDyV⟩
  | true =>
    cases ry : rightD y with
    | false =>
      repeat (first | refine Ev.s ?_ | refine Ev.newC fun _ _ _ => ?_ | refine Ev.boxC fun _ _ _ => ?_ | refine Ev.stC fun _ _ => ?_ | refine Ev.sc (by omega) ?_ | refine Ev.scg (by omega) ?_)
      rw [if_neg (by decide)]
      exact Ev.doneC ⟨_, rfl, zeroDyV⟩
    | true =>
      rw [if_pos (show (true && true) = true from rfl)]
      have bx := right_bounds rx
      have bY := right_bounds ry
      repeat (first | refine Ev.s ?_ | refine Ev.newC fun _ _ _ => ?_ | refine Ev.boxC fun _ _ _ => ?_ | refine Ev.stC fun _ _ => ?_ | refine Ev.sc (by omega) ?_ | refine Ev.scg (by omega) ?_)
      refine Ev.callD (rIMul_spec (xs := x.mag) (ys := y.mag) (by omega) (by omega)) fun v3 B3 H3 hm3 hS3 h3 => ?_
      change IntV B3 v3 (dz x * dz y) at h3
      have hlen : (limbs (dz x * dz y).natAbs).length ≤ x.mag.length + y.mag.length := by
        refine limbs_length_le ?_
        rw [Int.natAbs_mul, Nat.pow_add]
        have e1 : (dz x).natAbs = val x.mag := sg_abs
        have e2 : (dz y).natAbs = val y.mag := sg_abs
        rw [e1, e2]
        exact Nat.mul_lt_mul'' (val_lt hrx.sm) (val_lt hry.sm)
      obtain ⟨w3, rfl, hw3⟩ := h3
      have hfit : Fit (mulD x y) := canon_fit (l := x.mag.length + y.mag.length) hlen (by omega) (by omega)
      repeat (first | refine Ev.s ?_ | refine Ev.newC fun _ _ _ => ?_ | refine Ev.boxC fun _ _ _ => ?_ | refine Ev.stC fun _ _ => ?_ | refine Ev.sc (by omega) ?_ | refine Ev.scg (by omega) ?_)
      refine Ev.callD (rnorm_spec (xs := limbs (dz x * dz y).natAbs) (by omega) (by omega)) fun v5 B5 H5 hm5 hS5 h5 => ?_
      rw [val_limbs, sg_int] at h5
      refine Ev.callD (rtold_spec hfit h5) fun v6 B6 H6 hm6 hS6 h6 => ?_
      obtain ⟨o, rfl, mo, rfl, hro⟩ := h6
      repeat (first | refine Ev.s ?_ | refine Ev.newC fun _ _ _ => ?_ | refine Ev.boxC fun _ _ _ => ?_ | refine Ev.stC fun _ _ => ?_ | refine Ev.sc (by omega) ?_ | refine Ev.scg (by omega) ?_)
      exact Ev.doneC ⟨_, rfl, mo, rfl, hro⟩
theorem rScale_dspec {B H : AH} {x : Dy} {v : Value} {n : Int} (hn : -9223372036854775808 ≤ n ∧ n < 9223372036854775808) (hlx : x.mag.length < 8589934592) (hx : DyV B v x) (hL : Le B H) :
    Ev (fun k _ => rn k 34 [v, .int .i64 n] H) (An B H fun B' v => ResV B' v (scaleR x n).1 (scaleR x n).2) := by
  refine Ev.fn (fun k => f34_eq k _ _ H) ?_
  have hx' := hx
  obtain ⟨mx, rfl, hrx⟩ := hx
  have hS := St.start hL
  unfold scaleR
  repeat (first | refine Ev.s ?_ | refine Ev.newC fun _ _ _ => ?_ | refine Ev.boxC fun _ _ _ => ?_ | refine Ev.stC fun _ _ => ?_ | refine Ev.sc (by omega) ?_ | refine Ev.scg (by omega) ?_)
  refine Ev.callD (rdRight_spec (by omega) hx') fun v1 B1 H1 hm1 hS1 e1 => ?_
  subst e1
  cases rx : rightD x with
  | false =>
    repeat (first | refine Ev.s ?_ | refine Ev.newC fun _ _ _ => ?_ | refine Ev.boxC fun _ _ _ => ?_ | refine Ev.stC fun _ _ => ?_ | refine Ev.sc (by omega) ?_ | refine Ev.scg (by omega) ?_)
    rw [if_neg (by decide)]
    exact Ev.doneC ⟨_, rfl, zeroDyV⟩
  | true =>
    rw [if_pos rfl]
    have bx := right_bounds rx
    repeat (first | refine Ev.s ?_ | refine Ev.newC fun _ _ _ => ?_ | refine Ev.boxC fun _ _ _ => ?_ | refine Ev.stC fun _ _ => ?_ | refine Ev.sc (by omega) ?_ | refine Ev.scg (by omega) ?_)
    by_cases h1 : n < -100000
    · rw [decide_eq_true h1, if_neg (by omega)]
      repeat (first | refine Ev.s ?_ | refine Ev.newC fun _ _ _ => ?_ | refine Ev.boxC fun _ _ _ => ?_ | refine Ev.stC fun _ _ => ?_ | refine Ev.sc (by omega) ?_ | refine Ev.scg (by omega) ?_)
      exact Ev.doneC ⟨_, rfl, zeroDyV⟩
    rw [decide_eq_false h1]
    by_cases h2 : (100000 : Int) < n
    · repeat (first | refine Ev.s ?_ | refine Ev.newC fun _ _ _ => ?_ | refine Ev.boxC fun _ _ _ => ?_ | refine Ev.stC fun _ _ => ?_ | refine Ev.sc (by omega) ?_ | refine Ev.scg (by omega) ?_)
      rw [decide_eq_true h2, if_neg (by omega)]
      repeat (first | refine Ev.s ?_ | refine Ev.newC fun _ _ _ => ?_ | refine Ev.boxC fun _ _ _ => ?_ | refine Ev.stC fun _ _ => ?_ | refine Ev.sc (by omega) ?_ | refine Ev.scg (by omega) ?_)
      exact Ev.doneC ⟨_, rfl, zeroDyV⟩
    repeat (first | refine Ev.s ?_ | refine Ev.newC fun _ _ _ => ?_ | refine Ev.boxC fun _ _ _ => ?_ | refine Ev.stC fun _ _ => ?_ | refine Ev.sc (by omega) ?_ | refine Ev.scg (by omega) ?_)
    rw [decide_eq_false h2, if_pos (by omega)]
    repeat (first | refine Ev.s ?_ | refine Ev.newC fun _ _ _ => ?_ | refine Ev.boxC fun _ _ _ => ?_ | refine Ev.stC fun _ _ => ?_ | refine Ev.sc (by omega) ?_ | refine Ev.scg (by omega) ?_)
    by_cases h0 : x.mag.length = 0
    · rw [decide_eq_true h0, if_pos h0]
      have e : x = zeroDy := rightD_zero rx h0
      subst e
      repeat (first | refine Ev.s ?_ | refine Ev.newC fun _ _ _ => ?_ | refine Ev.boxC fun _ _ _ => ?_ | refine Ev.stC fun _ _ => ?_ | refine Ev.sc (by omega) ?_ | refine Ev.scg (by omega) ?_)
      exact Ev.doneC ⟨_, rfl, mx, rfl, hrx.mono hm1.mo⟩
    · rw [decide_eq_false h0, if_neg h0]
      have hfit : Fit ⟨x.neg, x.mag, x.e + n⟩ := ⟨by simp only; omega, by simp only; omega, by simp only; omega⟩
      repeat (first | refine Ev.s ?_ | refine Ev.newC fun _ _ _ => ?_ | refine Ev.boxC fun _ _ _ => ?_ | refine Ev.stC fun _ _ => ?_ | refine Ev.sc (by omega) ?_ | refine Ev.scg (by omega) ?_)
      refine Ev.callD (rtold_spec hfit ⟨mx, rfl, hrx.mono hm1.mo⟩) fun v6 B6 H6 hm6 hS6 h6 => ?_
      obtain ⟨o, rfl, mo, rfl, hro⟩ := h6
      repeat (first | refine Ev.s ?_ | refine Ev.newC fun _ _ _ => ?_ | refine Ev.boxC fun _ _ _ => ?_ | refine Ev.stC fun _ _ => ?_ | refine Ev.sc (by omega) ?_ | refine Ev.scg (by omega) ?_)
      exact Ev.doneC ⟨_, rfl, mo, rfl, hro⟩
end Go.AM.Y
set_option linter.unusedVariables false
set_option linter.unusedSimpArgs false
set_option maxRecDepth 100000
namespace Go.AM.Y
open Go Go.AM Go.Proofs
attribute [local irreducible] run bin un ld st box newV mkS fldA fld ixA ix slc slc3 build buildS cv cvS ap cpy lenV gOp pickV b2 aIf aChk evalK resume iterD Option.bind

abbrev Dd (x : Dy) (m : Value) : Value := .agg #[.bool x.neg, m, .int .i64 x.e]
def ResD (B : AH) (v : Value) (r : Dy × Int) : Prop := ∃ m, v = .tuple #[Dd r.1 m, .int .i64 r.2] ∧ RdN B m r.1.mag
theorem ResV.d {B : AH} {v : Value} {r : Dy × Int} (h : ResV B v r.1 r.2) : ResD B v r := by obtain ⟨x, rfl, m, rfl, hr⟩ := h; exact ⟨m, rfl, hr⟩
def cutT (x : Dy) (n : Nat) : Dy := ⟨x.neg, x.mag.take n, x.e⟩
theorem told_fit {d : Dy} (h : Fit d) : Fit (toldR 0 d).1 := by
  unfold toldR
  rw [if_neg (by simp)]
  split
  · exact h
  · exact zeroFit
theorem lawcut_spec {B H : AH} {d : Dy} {v : Value} {n : Nat} (hn : n < 1000) (hl : d.mag.length < 9223372036854775808) (hx : DyV B v d) (hL : Le B H) :
    Ev (fun k _ => rn k 20 [v, i64 n] H) (An B H fun B' v => ∃ m, v = Dd (cutT d n) m ∧ RdN B' m (cutT d n).mag) := by
  refine Ev.fn (fun k => f20_eq k _ _ H) ?_
  obtain ⟨m, rfl, hr⟩ := hx
  have hS := St.start hL
  have htk : d.mag.take (min d.mag.length n) = (cutT d n).mag := by
    show _ = d.mag.take n
    by_cases h6 : d.mag.length ≤ n
    · rw [Nat.min_eq_left h6, List.take_length, List.take_of_length_le h6]
    · rw [Nat.min_eq_right (by omega)]
  repeat (first | refine Ev.s ?_ | refine Ev.newC fun _ _ _ => ?_ | refine Ev.boxC fun _ _ _ => ?_ | refine Ev.stC fun _ _ => ?_ | refine Ev.sc (by omega) ?_ | refine Ev.scg (by omega) ?_)
  refine Ev.uptoC (min d.mag.length n) (by split <;> omega) (by omega) fun w hw => ?_
  rw [htk] at hw
  repeat (first | refine Ev.s ?_ | refine Ev.newC fun _ _ _ => ?_ | refine Ev.boxC fun _ _ _ => ?_ | refine Ev.stC fun _ _ => ?_ | refine Ev.sc (by omega) ?_ | refine Ev.scg (by omega) ?_)
  exact Ev.doneC ⟨w, rfl, hw⟩
theorem lawcut_D {B H : AH} {d : Dy} {m : Value} {n : Nat} [hx : RdT B m d.mag] (hn : n < 1000) (hl : d.mag.length < 9223372036854775808) (hL : Le B H) :
    Ev (fun k _ => rn k 20 [Dd d m, i64 n] H) (An B H fun B' v => ∃ m, v = Dd (cutT d n) m ∧ RdN B' m (cutT d n).mag) := lawcut_spec hn hl ⟨m, rfl, hx.rd⟩ hL
section
variable {B H : AH} {x y : Dy} {m m2 : Value}
theorem add_D [hx : RdT B m x.mag] [hy : RdT B m2 y.mag] (hlx : x.mag.length < 8589934592) (hly : y.mag.length < 8589934592) (hL : Le B H) : Ev (fun k _ => rn k 27 [Dd x m, Dd y m2] H) (An B H fun B' v => ResD B' v (addR x y)) :=
  An.imp (Add_dspec hlx hly ⟨m, rfl, hx.rd⟩ ⟨m2, rfl, hy.rd⟩ hL) fun B' v h => h.d
theorem radd_D [hx : RdT B m x.mag] [hy : RdT B m2 y.mag] (hlx : x.mag.length < 8589934592) (hly : y.mag.length < 8589934592) (hL : Le B H) : Ev (fun k _ => rn k 28 [Dd x m, Dd y m2] H) (An B H fun B' v => ResD B' v (addR x y)) :=
  An.imp (rAdd_dspec hlx hly ⟨m, rfl, hx.rd⟩ ⟨m2, rfl, hy.rd⟩ hL) fun B' v h => h.d
theorem sub_D [hx : RdT B m x.mag] [hy : RdT B m2 y.mag] (hlx : x.mag.length < 8589934592) (hly : y.mag.length < 8589934592) (hL : Le B H) : Ev (fun k _ => rn k 29 [Dd x m, Dd y m2] H) (An B H fun B' v => ResD B' v (subR x y)) :=
  An.imp (Sub_dspec hlx hly ⟨m, rfl, hx.rd⟩ ⟨m2, rfl, hy.rd⟩ hL) fun B' v h => h.d
theorem rsub_D [hx : RdT B m x.mag] [hy : RdT B m2 y.mag] (hlx : x.mag.length < 8589934592) (hly : y.mag.length < 8589934592) (hL : Le B H) : Ev (fun k _ => rn k 30 [Dd x m, Dd y m2] H) (An B H fun B' v => ResD B' v (subR x y)) :=
  An.imp (rSub_dspec hlx hly ⟨m, rfl, hx.rd⟩ ⟨m2, rfl, hy.rd⟩ hL) fun B' v h => h.d
theorem mul_D [hx : RdT B m x.mag] [hy : RdT B m2 y.mag] (hlx : x.mag.length < 33554432) (hly : y.mag.length < 33554432) (hL : Le B H) : Ev (fun k _ => rn k 31 [Dd x m, Dd y m2] H) (An B H fun B' v => ResD B' v (mulR x y)) :=
  An.imp (Mul_dspec (by omega) (by omega) ⟨m, rfl, hx.rd⟩ ⟨m2, rfl, hy.rd⟩ hL) fun B' v h => h.d
theorem rmul_D [hx : RdT B m x.mag] [hy : RdT B m2 y.mag] (hlx : x.mag.length < 8589934592) (hly : y.mag.length < 8589934592) (hL : Le B H) : Ev (fun k _ => rn k 32 [Dd x m, Dd y m2] H) (An B H fun B' v => ResD B' v (mulR x y)) :=
  An.imp (rMul_dspec hlx hly ⟨m, rfl, hx.rd⟩ ⟨m2, rfl, hy.rd⟩ hL) fun B' v h => h.d
theorem scale_D {n : Int} (hn : -9223372036854775808 ≤ n ∧ n < 9223372036854775808) [hx : RdT B m x.mag] (hlx : x.mag.length < 8589934592) (hL : Le B H) : Ev (fun k _ => rn k 33 [Dd x m, .int .i64 n] H) (An B H fun B' v => ResD B' v (scaleR x n)) :=
  An.imp (Scale_dspec (by omega) ⟨m, rfl, hx.rd⟩ hL) fun B' v h => h.d
theorem rscale_D {n : Int} (hn : -9223372036854775808 ≤ n ∧ n < 9223372036854775808) [hx : RdT B m x.mag] (hlx : x.mag.length < 8589934592) (hL : Le B H) : Ev (fun k _ => rn k 34 [Dd x m, .int .i64 n] H) (An B H fun B' v => ResD B' v (scaleR x n)) :=
  An.imp (rScale_dspec hn hlx ⟨m, rfl, hx.rd⟩ hL) fun B' v h => h.d
theorem same_D [hx : RdT B m x.mag] [hy : RdT B m2 x.mag] (hlx : x.mag.length < 34359738368) (hL : Le B H) : Ev (fun k _ => rn k 19 [Dd x m, Dd x m2] H) (An B H fun _ v => v = .bool true) :=
  An.imp (same_spec hlx ⟨m, rfl, hx.rd⟩ ⟨m2, rfl, hy.rd⟩ hL) fun B' v h => by rw [h, decide_eq_true ⟨rfl, rfl, rfl⟩]
end
theorem addR_len {x y : Dy} (hsx : small x.mag) (hsy : small y.mag) (hlx : x.mag.length < 8589934592) (hly : y.mag.length < 8589934592) : (addR x y).1.mag.length < 34359738368 := by
  unfold addR
  split
  · rename_i h
    rw [Bool.and_eq_true] at h
    exact (told_fit (sumD_fit hsx hsy hlx hly (right_bounds h.1) (right_bounds h.2))).len
  · simp
theorem subR_len {x y : Dy} (hsx : small x.mag) (hsy : small y.mag) (hlx : x.mag.length < 8589934592) (hly : y.mag.length < 8589934592) : (subR x y).1.mag.length < 34359738368 := by
  unfold subR
  split
  · rename_i h
    rw [Bool.and_eq_true] at h
    have hs : small (negD y).mag := by unfold negD; split; exact small_limbs _; exact fun a ha => absurd ha (by simp)
    have hny := negD_len (l := y.mag.length) hsy (Nat.le_refl _)
    exact (told_fit (sumD_fit hsx hs hlx (by omega) (right_bounds h.1) (negD_e (right_bounds h.2)))).len
  · simp
theorem mulR_len {x y : Dy} (hsx : small x.mag) (hsy : small y.mag) (hlx : x.mag.length < 8589934592) (hly : y.mag.length < 8589934592) : (mulR x y).1.mag.length < 34359738368 := by
  unfold mulR
  split
  · rename_i h
    rw [Bool.and_eq_true] at h
    have b1 := right_bounds h.1
    have b2 := right_bounds h.2
    have hlen : (limbs (dz x * dz y).natAbs).length ≤ x.mag.length + y.mag.length := by
      refine limbs_length_le ?_
      rw [Int.natAbs_mul, Nat.pow_add]
      have e1 : (dz x).natAbs = val x.mag := sg_abs
      have e2 : (dz y).natAbs = val y.mag := sg_abs
      rw [e1, e2]
      exact Nat.mul_lt_mul'' (val_lt hsx) (val_lt hsy)
    exact (told_fit (canon_fit (l := x.mag.length + y.mag.length) hlen (by omega) (by omega))).len
  · simp
theorem scaleR_len {x : Dy} {n : Int} (hlx : x.mag.length < 8589934592) : (scaleR x n).1.mag.length < 34359738368 := by
  unfold scaleR
  split
  · rename_i h
    have b1 := right_bounds h
    split
    · split
      · simp
      · exact (told_fit ⟨by simp only; omega, by simp only; omega, by simp only; omega⟩).len
    · simp
  · simp
end Go.AM.Y
set_option linter.unusedVariables false
set_option linter.unusedSimpArgs false
set_option maxRecDepth 100000
namespace Go.AM.Y
open Go Go.AM Go.Proofs
attribute [local irreducible] run bin un ld st box newV mkS fldA fld ixA ix slc slc3 build buildS cv cvS ap cpy lenV gOp pickV b2 aIf aChk evalK resume iterD Option.bind

theorem reckons_spec {B H : AH} {d e : Dy} {v w : Value} {n : Int} (hl : d.mag.length < 9223372036854775808) (hl2 : e.mag.length < 9223372036854775808) (hn : -9223372036854775808 ≤ n ∧ n < 9223372036854775808)
    (hx : DyV B v d) (hy : DyV B w e) (hL : Le B H) : Ev (fun k _ => rn k 6 [v, w, .int .i64 n] H) (An B H fun _ v => v = .bool true) := by
  refine Ev.fn (fun k => f6_eq k _ _ _ H) ?_
  obtain ⟨m1, rfl, hr1⟩ := hx
  obtain ⟨m2, rfl, hr2⟩ := hy
  have hS := St.start hL
  repeat (first | refine Ev.s ?_ | refine Ev.newC fun _ _ _ => ?_ | refine Ev.boxC fun _ _ _ => ?_ | refine Ev.stC fun _ _ => ?_ | refine Ev.sc (by omega) ?_ | refine Ev.scg (by omega) ?_)
  refine Ev.callD examples_spec fun v1 B1 H1 _ hS1 h1 => ?_
  subst h1
  repeat (first | refine Ev.s ?_ | refine Ev.newC fun _ _ _ => ?_ | refine Ev.boxC fun _ _ _ => ?_ | refine Ev.stC fun _ _ => ?_ | refine Ev.sc (by omega) ?_ | refine Ev.scg (by omega) ?_)
  refine Ev.callD (lawcut_D (d := d) (n := 20) (by decide) hl) fun v2 B2 H2 _ hS2 h2 => ?_
  obtain ⟨c1, rfl, hc1⟩ := h2
  have la : (cutT d 20).mag.length ≤ 20 := by show (d.mag.take 20).length ≤ 20; rw [List.length_take]; omega
  generalize cutT d 20 = a at *
  repeat (first | refine Ev.s ?_ | refine Ev.newC fun _ _ _ => ?_ | refine Ev.boxC fun _ _ _ => ?_ | refine Ev.stC fun _ _ => ?_ | refine Ev.sc (by omega) ?_ | refine Ev.scg (by omega) ?_)
  refine Ev.callD (lawcut_D (d := e) (n := 20) (by decide) hl2) fun v3 B3 H3 _ hS3 h3 => ?_
  obtain ⟨c2, rfl, hc2⟩ := h3
  have lb : (cutT e 20).mag.length ≤ 20 := by show (e.mag.take 20).length ≤ 20; rw [List.length_take]; omega
  generalize cutT e 20 = b at *
  repeat (first | refine Ev.s ?_ | refine Ev.newC fun _ _ _ => ?_ | refine Ev.boxC fun _ _ _ => ?_ | refine Ev.stC fun _ _ => ?_ | refine Ev.sc (by omega) ?_ | refine Ev.scg (by omega) ?_)
  have q1 := addR_len (x := a) (y := b) hc1.sm hc2.sm (by omega) (by omega)
  have q2 := subR_len (x := a) (y := b) hc1.sm hc2.sm (by omega) (by omega)
  have q3 := mulR_len (x := a) (y := b) hc1.sm hc2.sm (by omega) (by omega)
  have q4 := scaleR_len (x := a) (n := n) (by omega)
  refine Ev.callD (add_D (x := a) (y := b) (by omega) (by omega)) fun v4 B4 H4 _ hS4 h4 => ?_
  obtain ⟨p1, rfl, hp1⟩ := h4
  repeat (first | refine Ev.s ?_ | refine Ev.newC fun _ _ _ => ?_ | refine Ev.boxC fun _ _ _ => ?_ | refine Ev.stC fun _ _ => ?_ | refine Ev.sc (by omega) ?_ | refine Ev.scg (by omega) ?_)
  refine Ev.callD (radd_D (x := a) (y := b) (by omega) (by omega)) fun v5 B5 H5 _ hS5 h5 => ?_
  obtain ⟨p2, rfl, hp2⟩ := h5
  generalize addR a b = r1 at *
  repeat (first | refine Ev.s ?_ | refine Ev.newC fun _ _ _ => ?_ | refine Ev.boxC fun _ _ _ => ?_ | refine Ev.stC fun _ _ => ?_ | refine Ev.sc (by omega) ?_ | refine Ev.scg (by omega) ?_)
  refine Ev.callD (sub_D (x := a) (y := b) (by omega) (by omega)) fun v6 B6 H6 _ hS6 h6 => ?_
  obtain ⟨p3, rfl, hp3⟩ := h6
  repeat (first | refine Ev.s ?_ | refine Ev.newC fun _ _ _ => ?_ | refine Ev.boxC fun _ _ _ => ?_ | refine Ev.stC fun _ _ => ?_ | refine Ev.sc (by omega) ?_ | refine Ev.scg (by omega) ?_)
  refine Ev.callD (rsub_D (x := a) (y := b) (by omega) (by omega)) fun v7 B7 H7 _ hS7 h7 => ?_
  obtain ⟨p4, rfl, hp4⟩ := h7
  generalize subR a b = r2 at *
  repeat (first | refine Ev.s ?_ | refine Ev.newC fun _ _ _ => ?_ | refine Ev.boxC fun _ _ _ => ?_ | refine Ev.stC fun _ _ => ?_ | refine Ev.sc (by omega) ?_ | refine Ev.scg (by omega) ?_)
  refine Ev.callD (mul_D (x := a) (y := b) (by omega) (by omega)) fun v8 B8 H8 _ hS8 h8 => ?_
  obtain ⟨p5, rfl, hp5⟩ := h8
  repeat (first | refine Ev.s ?_ | refine Ev.newC fun _ _ _ => ?_ | refine Ev.boxC fun _ _ _ => ?_ | refine Ev.stC fun _ _ => ?_ | refine Ev.sc (by omega) ?_ | refine Ev.scg (by omega) ?_)
  refine Ev.callD (rmul_D (x := a) (y := b) (by omega) (by omega)) fun v9 B9 H9 _ hS9 h9 => ?_
  obtain ⟨p6, rfl, hp6⟩ := h9
  generalize mulR a b = r3 at *
  repeat (first | refine Ev.s ?_ | refine Ev.newC fun _ _ _ => ?_ | refine Ev.boxC fun _ _ _ => ?_ | refine Ev.stC fun _ _ => ?_ | refine Ev.sc (by omega) ?_ | refine Ev.scg (by omega) ?_)
  refine Ev.callD (scale_D (x := a) hn (by omega)) fun v10 B10 H10 _ hS10 h10 => ?_
  obtain ⟨p7, rfl, hp7⟩ := h10
  repeat (first | refine Ev.s ?_ | refine Ev.newC fun _ _ _ => ?_ | refine Ev.boxC fun _ _ _ => ?_ | refine Ev.stC fun _ _ => ?_ | refine Ev.sc (by omega) ?_ | refine Ev.scg (by omega) ?_)
  refine Ev.callD (rscale_D (x := a) hn (by omega)) fun v11 B11 H11 _ hS11 h11 => ?_
  obtain ⟨p8, rfl, hp8⟩ := h11
  generalize scaleR a n = r4 at *
  repeat (first | refine Ev.s ?_ | refine Ev.newC fun _ _ _ => ?_ | refine Ev.boxC fun _ _ _ => ?_ | refine Ev.stC fun _ _ => ?_ | refine Ev.sc (by omega) ?_ | refine Ev.scg (by omega) ?_)
  refine Ev.callD (same_D (x := r1.1) q1) fun v20 B20 H20 _ hS20 h20 => ?_
  subst h20
  repeat (first | refine Ev.s ?_ | refine Ev.newC fun _ _ _ => ?_ | refine Ev.boxC fun _ _ _ => ?_ | refine Ev.stC fun _ _ => ?_ | refine Ev.sc (by omega) ?_ | refine Ev.scg (by omega) ?_)
  refine Ev.callD (same_D (x := r2.1) q2) fun v21 B21 H21 _ hS21 h21 => ?_
  subst h21
  repeat (first | refine Ev.s ?_ | refine Ev.newC fun _ _ _ => ?_ | refine Ev.boxC fun _ _ _ => ?_ | refine Ev.stC fun _ _ => ?_ | refine Ev.sc (by omega) ?_ | refine Ev.scg (by omega) ?_)
  refine Ev.callD (same_D (x := r3.1) q3) fun v22 B22 H22 _ hS22 h22 => ?_
  subst h22
  repeat (first | refine Ev.s ?_ | refine Ev.newC fun _ _ _ => ?_ | refine Ev.boxC fun _ _ _ => ?_ | refine Ev.stC fun _ _ => ?_ | refine Ev.sc (by omega) ?_ | refine Ev.scg (by omega) ?_)
  refine Ev.callD (same_D (x := r4.1) q4) fun v23 B23 H23 _ hS23 h23 => ?_
  subst h23
  repeat (first | refine Ev.s ?_ | refine Ev.newC fun _ _ _ => ?_ | refine Ev.boxC fun _ _ _ => ?_ | refine Ev.stC fun _ _ => ?_ | refine Ev.sc (by omega) ?_ | refine Ev.scg (by omega) ?_)
  exact Ev.doneC rfl
theorem coreDyadReckons (H : AH) (vs : List Value) (x : ((Bool × List Int × Unit) × Int × Unit) × ((Bool × List Int × Unit) × Int × Unit) × Int × Unit) (hK : ∃ v vs', vs = v :: vs' ∧ KvS KDy H x.1 v ∧ ∃ v2 vs2, vs' = v2 :: vs2 ∧ KvS KDy H x.2.1 v2 ∧ ∃ v3 vs3, vs2 = v3 :: vs3 ∧ KvC (Kn.int .i64) H x.2.2.1 v3 ∧ vs3 = [])
    (hG : GDy x.1 ∧ GDy x.2.1 ∧ (Lit.int .i64 x.2.2.1).wf = true ∧ True) : Ev (fun k _ => rn k 6 vs H) (fun r => r.1 = .bool true) := by
  obtain ⟨v, _, rfl, h1, v2, _, rfl, h2, v3, _, rfl, h3, rfl⟩ := hK
  obtain ⟨g1, g2, g3, _⟩ := hG
  obtain ⟨a1, a2, a3⟩ := dy_open h1 g1
  obtain ⟨b1, b2, b3⟩ := dy_open h2 g2
  have h3 : [v3] = [.int .i64 x.2.2.1] := h3
  cases h3
  exact An.tt (reckons_spec a2 b2 (wf_i64 g3) a1 b1 ⟨Mo.refl H⟩)
end Go.AM.Y
